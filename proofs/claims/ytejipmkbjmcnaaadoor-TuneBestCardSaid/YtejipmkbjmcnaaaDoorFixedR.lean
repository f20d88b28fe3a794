/- The walks of the document's answer for the layer fixed. -/
import Derived.Test.YtejipmkbjmcnaaaDoorFixedC
import Derived.Test.YtejipmkbjmcnaaaDoorRatioR
import Derived.Test.YtejipmkbjmcnaaaDoorWordR
set_option linter.unusedVariables false
namespace Go.Proofs.YtejipmkbjmcnaaaDoor
open Go.RowKit Go.Shelf
attribute [local go_sem ↓] lt_alloc

theorem ref4_Of (a b : Int) (a0 : 0 ≤ a) (a1 : a < 18446744073709551616) (b0 : 0 ≤ b) (b1 : b < 18446744073709551616) (w : World) :
    Calls Tryd.prog 38 #[.int .u64 a, .int .u64 b] w fun e w' => e = .returned (.tuple #[.int .u64 (fxV a b), .int .i64 (fxE a b)]) ∧ Below w.heap.size w w' := by
  go_enter Tryd.func38, Tryd.ntmps38
  go_wp2_with (go_at_call 56; refine (ref3_Floor a 4294967296 b a0 a1 (by decide) (by decide) b0 b1 _).mono ?_; rintro e w' ⟨rfl, hb⟩)
  go_ret2
  exact ⟨rfl, hb⟩
end Go.Proofs.YtejipmkbjmcnaaaDoor
