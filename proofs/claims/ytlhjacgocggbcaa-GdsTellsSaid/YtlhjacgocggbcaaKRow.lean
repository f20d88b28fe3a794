/- Rows of ints of a kind; what came in as a slice of ints reads as one. -/
import Derived.Test.YtlhjacgocggbcaaBitsC
import Derived.ChangeSlices
import Derived.WideShapes
import Derived.Deep.SlicePairs
import Derived.OpenShut
set_option linter.unusedVariables false
namespace Go.Proofs.Ytlhjacgocggbcaa
open Go.ChangeShapes Go.WideShapes Go.RowKit
theorem u64w {a : Int} (h : (Lit.int .u64 a).wf = true) : 0 ≤ a ∧ a < 18446744073709551616 := by have := bounds_u64 h; omega
section
variable {H : Type} {enc : TypeId × Value → H} {P : Program} {w : World} {base : Nat} {spare : Nat → Bool} {held : Bool}
/-- Memory holds ints, one behind the other. -/
def RowK (k : IntKind) (w : World) (b off len : Nat) (Z : Nat → Int) : Prop := ∀ i, i < len → w.cell? ⟨b, off + i, none⟩ = some (.int k (Z i))
/-- Nil, or a row of ints. -/
def IsK (k : IntKind) (w : World) (a : Option Addr) (len : Nat) (Z : Nat → Int) : Prop := len = 0 ∨ ∃ b off, a = some ⟨b, off, none⟩ ∧ len ≤ 9223372036854775807 ∧ RowK k w b off len Z
theorem RowK.below {k : IntKind} {w w' : World} {b off len : Nat} {Z : Nat → Int} (h : RowK k w b off len Z) (hb : Below w.heap.size w w') : RowK k w' b off len Z := fun i hi => keepB hb (h i hi)
theorem IsK.below {k : IntKind} {w w' : World} {a : Option Addr} {len : Nat} {Z : Nat → Int} (h : IsK k w a len Z) (hb : Below w.heap.size w w') : IsK k w' a len Z := by
  rcases h with h | ⟨b, off, h1, h2, h3⟩
  · exact Or.inl h
  · exact Or.inr ⟨b, off, h1, h2, h3.below hb⟩
/-- Numbers of a kind. -/
def InK (k : IntKind) (Z : Nat → Int) : Prop := ∀ i, (Lit.int k (Z i)).wf = true
theorem InK.u64 {Z : Nat → Int} (h : InK .u64 Z) (i : Nat) : 0 ≤ Z i ∧ Z i < 18446744073709551616 := u64w (h i)
theorem InK.i64 {Z : Nat → Int} (h : InK .i64 Z) (i : Nat) : -9223372036854775808 ≤ Z i ∧ Z i < 9223372036854775808 := by have := bounds_i64 (h i); omega
theorem isK_of {t e : TypeId} (k : IntKind) (hk : (Lit.int k 0).wf = true)
    (ht : P.underlying t = some (.slice e)) (he : P.underlying e = some (.int k)) (ce : P.cellsOf e = 1) {a : Option Addr} {len cap : Nat} {d : DataW H} {ps : List MemPlace}
    (h : DataW.Trod enc P w base spare held t (.slice a len cap) d ps) : ∃ Z : Nat → Int, InK k Z ∧ IsK k w a len Z := by
  obtain ⟨n, h⟩ := h
  have h' : DataW.trod enc P w base spare held n t [.slice a len cap] = some (d, ps) := h
  rcases open_ints ht he ce h' with ⟨h0, _⟩ | ⟨A, len', cap', zs, hcs, hb, hl, hc, hm, hx, hf, hwf⟩
  · simp at h0
    exact ⟨fun _ => 0, fun i => hk, Or.inl h0.2.1⟩
  · simp at hcs
    obtain ⟨rfl, rfl, rfl⟩ := hcs
    have hlm : len ≤ zs.length := by rw [hm]; split <;> omega
    refine ⟨fun i => zs.getD i 0, fun i => ?_, ?_⟩
    · show (Lit.int k (zs.getD i 0)).wf = true
      rw [List.getD_eq_getElem?_getD]
      by_cases hi : i < zs.length
      · rw [List.getElem?_eq_getElem hi]
        exact hwf _ (List.getElem_mem hi)
      · rw [List.getElem?_eq_none (by omega)]; exact hk
    · rcases Nat.eq_zero_or_pos len with hz | hz
      · exact Or.inl hz
      · obtain ⟨b, off, spot⟩ := A
        have hspot : spot = none := by simpa [Addr.add] using World.cell?_spot (hf 0 (by omega))
        subst hspot
        refine Or.inr ⟨b, off, rfl, by unfold maxLen at hc; omega, fun i hi => ?_⟩
        have e0 := hf i (by omega)
        rw [add_plain] at e0
        exact e0
end
end Go.Proofs.Ytlhjacgocggbcaa
