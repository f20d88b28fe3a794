/- The walks of the layer fixed: each function comes to the plain number of FixedS. -/
import Derived.Test.YtecacdghlefpfaaDoorRatioC
import Derived.Test.YtecacdghlefpfaaDoorWordC
import Derived.Test.YtecacdghlefpfaaDoorFixedS
import Derived.LoopTactic
set_option linter.unusedVariables false
namespace Go.Proofs.YtecacdghlefpfaaDoor
open Go.RowKit Go.Shelf
attribute [local go_sem ↓] lt_alloc

theorem One_bd : (0 : Int) ≤ 4294967296 ∧ (4294967296 : Int) < 18446744073709551616 := by decide
theorem fixed_Of (a b : Int) (a0 : 0 ≤ a) (a1 : a < 18446744073709551616) (b0 : 0 ≤ b) (b1 : b < 18446744073709551616) (w : World) :
    Calls Tryd.prog 23 #[.int .u64 a, .int .u64 b] w fun e w' => e = .returned (.tuple #[.int .u64 (fxV a b), .int .i64 (fxE a b)]) ∧ Below w.heap.size w w' := by
  go_enter Tryd.func23, Tryd.ntmps23
  go_wp2_with (go_at_call 25; refine (ratio_Floor a 4294967296 b a0 a1 (by decide) (by decide) b0 b1 _).mono ?_; rintro e w' ⟨rfl, hb⟩)
  go_ret2
  exact ⟨rfl, hb⟩
theorem fixed_Mul (a b : Int) (a0 : 0 ≤ a) (a1 : a < 18446744073709551616) (b0 : 0 ≤ b) (b1 : b < 18446744073709551616) (w : World) :
    Calls Tryd.prog 15 #[.int .u64 a, .int .u64 b] w fun e w' => e = .returned (.int .u64 (mulF a b)) ∧ Below w.heap.size w w' := by
  obtain ⟨m1, m2⟩ := mulF_of a0 b0
  have k := fun w => ratio_Floor a b 4294967296 a0 a1 b0 b1 (by decide) (by decide) w
  generalize partE (a * b / 4294967296) 4294967296 = e at *
  generalize partV (a * b / 4294967296) 4294967296 = v at *
  by_cases he : e = 0
  · subst he
    have M := Lib.hid (m1 rfl)
    clear m1 m2
    go_enter Tryd.func15, Tryd.ntmps15
    go_wp2_with (go_at_call 25; refine (k _).mono ?_; rintro e w' ⟨rfl, hb⟩)
    go_ret
    exact ⟨ret_u M.out, hb⟩
  · have M := Lib.hid (m2 he)
    have he1 : (e != 0) = true := by simpa using he
    clear m1 m2 he
    go_enter Tryd.func15, Tryd.ntmps15
    go_wp2_with (go_at_call 25; refine (k _).mono ?_; rintro e w' ⟨rfl, hb⟩)
    go_ret
    exact ⟨ret_u M.out, hb⟩
def RowI (w : World) (b off len : Nat) (Z : Nat → Int) : Prop := ∀ i, i < len → w.cell? ⟨b, off + i, none⟩ = some (.int .u64 (Z i))
def IsInts (w : World) (a : Option Addr) (len : Nat) (Z : Nat → Int) : Prop := len = 0 ∨ ∃ b off, a = some ⟨b, off, none⟩ ∧ len ≤ 9223372036854775807 ∧ RowI w b off len Z
theorem RowI.below {w w' : World} {b off len : Nat} {Z : Nat → Int} (h : RowI w b off len Z) (hb : Below w.heap.size w w') : RowI w' b off len Z := fun i hi => keepB hb (h i hi)
theorem IsInts.below {w w' : World} {a : Option Addr} {len : Nat} {Z : Nat → Int} (h : IsInts w a len Z) (hb : Below w.heap.size w w') : IsInts w' a len Z := by
  rcases h with h | ⟨b, off, h1, h2, h3⟩
  · exact Or.inl h
  · exact Or.inr ⟨b, off, h1, h2, h3.below hb⟩
end Go.Proofs.YtecacdghlefpfaaDoor
