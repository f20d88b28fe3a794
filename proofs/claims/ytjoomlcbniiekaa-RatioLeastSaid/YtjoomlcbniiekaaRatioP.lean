/- What came in as a slice of ratios reads as a row of them. -/
import Derived.Test.YtjoomlcbniiekaaRatioM
import Derived.Deep.SlicePairs
set_option linter.unusedVariables false
namespace Go.Proofs.Ytjoomlcbniiekaa
open Go.ChangeShapes Go.WideShapes Go.RowKit
theorem wf_u64 {a : Int} (h : (Lit.int .u64 a).wf = true) : 0 ≤ a ∧ a < 18446744073709551616 := by have := bounds_u64 h; omega
theorem isRats_of {H : Type} {enc : TypeId × Value → H} {P : Program} {w : World} {base : Nat} {spare : Nat → Bool} {held : Bool} {t e : TypeId} {f0 f1 : Field}
    (ht : P.underlying t = some (.slice e)) (he : P.underlying e = some (.struct #[f0, f1])) (ce : P.cellsOf e = 2) (o0 : f0.offset = 0) (o1 : f1.offset = 1) (c0 : P.cellsOf f0.type = 1) (c1 : P.cellsOf f1.type = 1)
    (u0 : P.underlying f0.type = some (.int .u64)) (u1 : P.underlying f1.type = some (.int .u64)) {a : Option Addr} {len cap : Nat} {d : DataW H} {ps : List MemPlace}
    (h : DataW.Trod enc P w base spare held t (.slice a len cap) d ps) : ∃ N D, InU N ∧ InU D ∧ IsRats w a len cap N D := by
  obtain ⟨n, h⟩ := h
  have h' : DataW.trod enc P w base spare held n t [.slice a len cap] = some (d, ps) := h
  have zU : InU (fun _ => 0) := fun i => by simp
  rcases Go.Deep.open_slice_pairs ht he ce o0 o1 c0 c1 h' with ⟨h0, _⟩ | ⟨A, len', cap', m, n', V0, V1, D0, D1, P0, P1, hcs, hb, hl, hc, hm, hx, hf⟩
  · simp at h0
    exact ⟨fun _ => 0, fun _ => 0, zU, zU, Or.inl h0.2.1⟩
  · simp at hcs
    obtain ⟨rfl, rfl, rfl⟩ := hcs
    have hlm : len ≤ m := by rw [hm]; split <;> omega
    have each : ∀ i, i < len → ∃ q : Int × Int, V0 i = .int .u64 q.1 ∧ V1 i = .int .u64 q.2 ∧ (0 ≤ q.1 ∧ q.1 < 18446744073709551616) ∧ (0 ≤ q.2 ∧ q.2 < 18446744073709551616) := by
      intro i hi
      obtain ⟨_, _, t0, t1⟩ := hf i (by omega)
      obtain ⟨x, ex, _, wx⟩ := DataW.trod_int u0 t0
      obtain ⟨y, ey, _, wy⟩ := DataW.trod_int u1 t1
      exact ⟨(x, y), by simpa using ex, by simpa using ey, wf_u64 wx, wf_u64 wy⟩
    obtain ⟨q, hq⟩ := Go.Deep.choose_lt each
    refine ⟨fun i => if i < len then (q i).1 else 0, fun i => if i < len then (q i).2 else 0, fun i => ?_, fun i => ?_, ?_⟩
    · by_cases hi : i < len
      · simp only [if_pos hi]; exact (hq i hi).2.2.1
      · simp only [if_neg hi]; omega
    · by_cases hi : i < len
      · simp only [if_pos hi]; exact (hq i hi).2.2.2
      · simp only [if_neg hi]; omega
    · rcases Nat.eq_zero_or_pos len with hz | hz
      · exact Or.inl hz
      · obtain ⟨b, off, spot⟩ := A
        have hspot : spot = none := by simpa [Addr.add] using World.cell?_spot (hf 0 (by omega)).1
        subst hspot
        refine Or.inr ⟨b, off, rfl, by unfold maxLen at hc; omega, fun i hi => ?_⟩
        have e0 := (hf i (by omega)).1
        have e1 := (hf i (by omega)).2.1
        rw [(hq i hi).1] at e0
        rw [(hq i hi).2.1] at e1
        rw [add_plain] at e0 e1
        simp only [if_pos hi]
        exact ⟨e0, by rw [Nat.add_assoc]; exact e1⟩
end Go.Proofs.Ytjoomlcbniiekaa
