/- What came in as a slice of numbers reads as a row of them. -/
import Derived.Test.YtgmgjbdbdekopaaFixedL
import Derived.ChangeSlices
import Derived.WideShapes
set_option linter.unusedVariables false
namespace Go.Proofs.Ytgmgjbdbdekopaa
open Go.ChangeShapes Go.WideShapes Go.RowKit
theorem isInts_of {H : Type} {enc : TypeId × Value → H} {P : Program} {w : World} {base : Nat} {spare : Nat → Bool} {held : Bool} {t e : TypeId}
    (ht : P.underlying t = some (.slice e)) (he : P.underlying e = some (.int .u64)) (ce : P.cellsOf e = 1) {a : Option Addr} {len cap : Nat} {d : DataW H} {ps : List MemPlace}
    (h : DataW.Trod enc P w base spare held t (.slice a len cap) d ps) : ∃ Z : Nat → Int, (∀ i, 0 ≤ Z i ∧ Z i < 18446744073709551616) ∧ IsInts w a len Z := by
  obtain ⟨n, h⟩ := h
  have h' : DataW.trod enc P w base spare held n t [.slice a len cap] = some (d, ps) := h
  rcases open_ints ht he ce h' with ⟨h0, _⟩ | ⟨A, len', cap', zs, hcs, hb, hl, hc, hm, hx, hf, hwf⟩
  · simp at h0
    exact ⟨fun _ => 0, fun i => by simp, Or.inl h0.2.1⟩
  · simp at hcs
    obtain ⟨rfl, rfl, rfl⟩ := hcs
    have hlm : len ≤ zs.length := by rw [hm]; split <;> omega
    refine ⟨fun i => zs.getD i 0, fun i => ?_, ?_⟩
    · show 0 ≤ zs.getD i 0 ∧ zs.getD i 0 < 18446744073709551616
      rw [List.getD_eq_getElem?_getD]
      by_cases hi : i < zs.length
      · rw [List.getElem?_eq_getElem hi]
        exact u64c (hwf _ (List.getElem_mem hi))
      · rw [List.getElem?_eq_none (by omega)]; simp
    · rcases Nat.eq_zero_or_pos len with hz | hz
      · exact Or.inl hz
      · obtain ⟨b, off, spot⟩ := A
        have hspot : spot = none := by simpa [Addr.add] using World.cell?_spot (hf 0 (by omega))
        subst hspot
        refine Or.inr ⟨b, off, rfl, by unfold maxLen at hc; omega, fun i hi => ?_⟩
        have e0 := hf i (by omega)
        rw [add_plain] at e0
        exact e0
end Go.Proofs.Ytgmgjbdbdekopaa
