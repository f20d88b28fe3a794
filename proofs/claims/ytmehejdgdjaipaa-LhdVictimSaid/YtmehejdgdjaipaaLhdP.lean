/- What came in as a rank reads as sixteen numbers; what came in as a slice of ints reads as a row of them. -/
import Derived.Test.YtmehejdgdjaipaaLhdC
import Derived.ChangeSlices
import Derived.WideShapes
import Derived.Deep.SlicePairs
import Derived.OpenShut
set_option linter.unusedVariables false
namespace Go.Proofs.Ytmehejdgdjaipaa
open Go.ChangeShapes Go.WideShapes Go.RowKit
theorem u64w {a : Int} (h : (Lit.int .u64 a).wf = true) : 0 ≤ a ∧ a < 18446744073709551616 := by have := bounds_u64 h; omega
section
variable {H : Type} {enc : TypeId × Value → H} {P : Program} {w : World} {base : Nat} {spare : Nat → Bool} {held : Bool}
theorem arr8 {n : Nat} {t e : TypeId} {cs : List Value} {x : DataW H × List MemPlace} (ht : P.underlying t = some (.array 8 e)) (he : P.underlying e = some (.int .u64)) (ce : P.cellsOf e = 1) (ct : P.cellsOf t = 8)
    (h : DataW.trod enc P w base spare held n t cs = some x) : ∃ Z : Nat → Int, (∀ i, 0 ≤ Z i ∧ Z i < 18446744073709551616) ∧ cs = (List.range 8).map fun i => Value.int .u64 (Z i) := by
  obtain ⟨xs, m, _, _, hlen, hl, hel⟩ := DataW.trod_array ht h
  rw [ct] at hlen
  have each : ∀ i, i < 8 → ∃ z : Int, cs[i]? = some (.int .u64 z) ∧ 0 ≤ z ∧ z < 18446744073709551616 := by
    intro i hi
    have h1 := hel i hi
    rw [ce, Nat.mul_one, List.getElem?_eq_getElem (by omega)] at h1
    obtain ⟨z, hz, _, wz⟩ := DataW.trod_int he h1
    refine ⟨z, ?_, u64w wz⟩
    have h2 : ((cs.drop i).take 1)[0]? = some (.int .u64 z) := by rw [hz]; rfl
    simpa using h2
  obtain ⟨q, hq⟩ := Go.Deep.choose_lt each
  refine ⟨fun i => if i < 8 then q i else 0, fun i => ?_, ?_⟩
  · by_cases hi : i < 8
    · simp only [if_pos hi]; exact (hq i hi).2
    · simp only [if_neg hi]; omega
  · apply List.ext_getElem?
    intro i
    by_cases hi : i < 8
    · rw [(hq i hi).1]; simp [hi]
    · rw [List.getElem?_eq_none (by omega), List.getElem?_eq_none (by simp; omega)]
theorem open_rank {r : Reach} {b0 : Nat} {t t0 t1 e : TypeId} {f0 f1 : Field} {v : Value} {d : DataW H} {p : List MemPlace} (hs : P.underlying t = some (.struct #[f0, f1])) (hC : P.cellsOf t = 16)
    (e0 : f0.type = t0) (e1 : f1.type = t1) (o0 : f0.offset = 0) (o1 : f1.offset = 8)
    (h0 : P.underlying t0 = some (.array 8 e)) (h1 : P.underlying t1 = some (.array 8 e)) (c0 : P.cellsOf t0 = 8) (c1 : P.cellsOf t1 = 8) (he : P.underlying e = some (.int .u64)) (ce : P.cellsOf e = 1)
    (hv : Value.okWide P w r b0 t v) (h : DataW.Trod enc P w base spare held t v d p) : ∃ R, IsR R ∧ v = rankV R := by
  subst e0 e1
  obtain ⟨cs, rfl, hsz⟩ := okWide_struct hs hv
  obtain ⟨l⟩ := cs
  obtain ⟨n, h⟩ := h
  have h' : DataW.trod enc P w base spare held n t l = some (d, p) := h
  rw [hC] at hsz
  have hl : l.length = 16 := by simpa using hsz
  obtain ⟨ys, m, _, _, _, hyl, hf⟩ := DataW.trod_struct hs h'
  have hyl2 : ys.length = 2 := by simpa using hyl
  have g0 := hf 0 f0 rfl
  have g1 := hf 1 f1 rfl
  rw [o0, c0, List.getElem?_eq_getElem (by omega)] at g0
  rw [o1, c1, List.getElem?_eq_getElem (by omega)] at g1
  obtain ⟨Z0, z0, q0⟩ := arr8 h0 he ce c0 g0
  obtain ⟨Z1, z1, q1⟩ := arr8 h1 he ce c1 g1
  refine ⟨fun i => if i < 8 then Z0 i else Z1 (i - 8), fun i => ?_, ?_⟩
  · by_cases hi : i < 8
    · simp only [if_pos hi]; exact z0 i
    · simp only [if_neg hi]; exact z1 _
  · have e : l = (l.drop 0).take 8 ++ (l.drop 8).take 8 := by
      rw [List.drop_zero, List.take_of_length_le (l := l.drop 8) (by simp; omega), List.take_append_drop]
    rw [e, q0, q1]
    rfl
/-- Memory holds ints, one behind the other. -/
def RowK (k : IntKind) (w : World) (b off len : Nat) (Z : Nat → Int) : Prop := ∀ i, i < len → w.cell? ⟨b, off + i, none⟩ = some (.int k (Z i))
/-- Nil, or a row of ints. -/
def IsK (k : IntKind) (w : World) (a : Option Addr) (len : Nat) (Z : Nat → Int) : Prop := len = 0 ∨ ∃ b off, a = some ⟨b, off, none⟩ ∧ len ≤ 9223372036854775807 ∧ RowK k w b off len Z
theorem RowK.below {k : IntKind} {w w' : World} {b off len : Nat} {Z : Nat → Int} (h : RowK k w b off len Z) (hb : Below w.heap.size w w') : RowK k w' b off len Z := fun i hi => keepB hb (h i hi)
theorem IsK.below {k : IntKind} {w w' : World} {a : Option Addr} {len : Nat} {Z : Nat → Int} (h : IsK k w a len Z) (hb : Below w.heap.size w w') : IsK k w' a len Z := by
  rcases h with h | ⟨b, off, h1, h2, h3⟩
  · exact Or.inl h
  · exact Or.inr ⟨b, off, h1, h2, h3.below hb⟩
/-- Numbers of a kind. -/
def InK (k : IntKind) (Z : Nat → Int) : Prop := ∀ i, (Lit.int k (Z i)).wf = true
theorem InK.u64 {Z : Nat → Int} (h : InK .u64 Z) (i : Nat) : 0 ≤ Z i ∧ Z i < 18446744073709551616 := u64w (h i)
theorem InK.i64 {Z : Nat → Int} (h : InK .i64 Z) (i : Nat) : -9223372036854775808 ≤ Z i ∧ Z i < 9223372036854775808 := by have := bounds_i64 (h i); omega
theorem isK_of {t e : TypeId} (k : IntKind) (hk : (Lit.int k 0).wf = true)
    (ht : P.underlying t = some (.slice e)) (he : P.underlying e = some (.int k)) (ce : P.cellsOf e = 1) {a : Option Addr} {len cap : Nat} {d : DataW H} {ps : List MemPlace}
    (h : DataW.Trod enc P w base spare held t (.slice a len cap) d ps) : ∃ Z : Nat → Int, InK k Z ∧ IsK k w a len Z := by
  obtain ⟨n, h⟩ := h
  have h' : DataW.trod enc P w base spare held n t [.slice a len cap] = some (d, ps) := h
  rcases open_ints ht he ce h' with ⟨h0, _⟩ | ⟨A, len', cap', zs, hcs, hb, hl, hc, hm, hx, hf, hwf⟩
  · simp at h0
    exact ⟨fun _ => 0, fun i => hk, Or.inl h0.2.1⟩
  · simp at hcs
    obtain ⟨rfl, rfl, rfl⟩ := hcs
    have hlm : len ≤ zs.length := by rw [hm]; split <;> omega
    refine ⟨fun i => zs.getD i 0, fun i => ?_, ?_⟩
    · show (Lit.int k (zs.getD i 0)).wf = true
      rw [List.getD_eq_getElem?_getD]
      by_cases hi : i < zs.length
      · rw [List.getElem?_eq_getElem hi]
        exact hwf _ (List.getElem_mem hi)
      · rw [List.getElem?_eq_none (by omega)]; exact hk
    · rcases Nat.eq_zero_or_pos len with hz | hz
      · exact Or.inl hz
      · obtain ⟨b, off, spot⟩ := A
        have hspot : spot = none := by simpa [Addr.add] using World.cell?_spot (hf 0 (by omega))
        subst hspot
        refine Or.inr ⟨b, off, rfl, by unfold maxLen at hc; omega, fun i hi => ?_⟩
        have e0 := hf i (by omega)
        rw [add_plain] at e0
        exact e0
end
end Go.Proofs.Ytmehejdgdjaipaa
