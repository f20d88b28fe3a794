/- The walks of the layer fixed: each function comes to the plain number of FixedS. -/
import Derived.Test.YtejipmkbjmcnaaaDoorRatioC
import Derived.Test.YtejipmkbjmcnaaaDoorWordC
import Derived.Test.YtejipmkbjmcnaaaDoorFixedS
import Derived.LoopTactic
set_option linter.unusedVariables false
namespace Go.Proofs.YtejipmkbjmcnaaaDoor
open Go.RowKit Go.Shelf
attribute [local go_sem ↓] lt_alloc

theorem One_bd : (0 : Int) ≤ 4294967296 ∧ (4294967296 : Int) < 18446744073709551616 := by decide
theorem fixed_Of (a b : Int) (a0 : 0 ≤ a) (a1 : a < 18446744073709551616) (b0 : 0 ≤ b) (b1 : b < 18446744073709551616) (w : World) :
    Calls Tryd.prog 52 #[.int .u64 a, .int .u64 b] w fun e w' => e = .returned (.tuple #[.int .u64 (fxV a b), .int .i64 (fxE a b)]) ∧ Below w.heap.size w w' := by
  go_enter Tryd.func52, Tryd.ntmps52
  go_wp2_with (go_at_call 64; refine (ratio_Floor a 4294967296 b a0 a1 (by decide) (by decide) b0 b1 _).mono ?_; rintro e w' ⟨rfl, hb⟩)
  go_ret2
  exact ⟨rfl, hb⟩
def RowI (w : World) (b off len : Nat) (Z : Nat → Int) : Prop := ∀ i, i < len → w.cell? ⟨b, off + i, none⟩ = some (.int .u64 (Z i))
def IsInts (w : World) (a : Option Addr) (len : Nat) (Z : Nat → Int) : Prop := len = 0 ∨ ∃ b off, a = some ⟨b, off, none⟩ ∧ len ≤ 9223372036854775807 ∧ RowI w b off len Z
theorem RowI.below {w w' : World} {b off len : Nat} {Z : Nat → Int} (h : RowI w b off len Z) (hb : Below w.heap.size w w') : RowI w' b off len Z := fun i hi => keepB hb (h i hi)
theorem IsInts.below {w w' : World} {a : Option Addr} {len : Nat} {Z : Nat → Int} (h : IsInts w a len Z) (hb : Below w.heap.size w w') : IsInts w' a len Z := by
  rcases h with h | ⟨b, off, h1, h2, h3⟩
  · exact Or.inl h
  · exact Or.inr ⟨b, off, h1, h2, h3.below hb⟩
end Go.Proofs.YtejipmkbjmcnaaaDoor
