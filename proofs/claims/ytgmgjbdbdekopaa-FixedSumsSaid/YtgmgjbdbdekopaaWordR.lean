/- The walks of the document's answer for the layer word: it comes to the same plain numbers. -/
import Derived.Test.YtgmgjbdbdekopaaWordC
set_option linter.unusedVariables false
namespace Go.Proofs.Ytgmgjbdbdekopaa
open Go.RowKit Go.Shelf

theorem ref_Plus (a b : Int) (ha : 0 ≤ a) (hb : 0 ≤ b) (hb' : b < 18446744073709551616) (w : World) :
    Calls Try.prog 44 #[.int .u64 a, .int .u64 b] w fun r w' => r = .returned (.tuple #[.int .u64 (plusV a b), .int .i64 (plusE a b)]) ∧ w = w' := by
  by_cases h : 18446744073709551615 - b < a
  all_goals
    go_enter Try.func44, Try.ntmps44
    go_wp2
    go_ret2
    exact ⟨ret_ui (by unfold plusV; split <;> omega) (by unfold plusE; split <;> omega), rfl⟩
theorem ref_Add (a b : Int) (ha : 0 ≤ a) (hb : 0 ≤ b) (hb' : b < 18446744073709551616) (w : World) :
    Calls Try.prog 35 #[.int .u64 a, .int .u64 b] w fun r w' => r = .returned (.int .u64 (addS a b)) ∧ w = w' := by
  by_cases h : a + b < 18446744073709551616
  · have e1 : plusE a b = 0 := by unfold plusE; rw [if_pos h]
    go_enter Try.func35, Try.ntmps35
    go_wp2_with (go_at_call 44; refine (ref_Plus a b ha hb hb' _).mono ?_; rintro e w' ⟨rfl, rfl⟩)
    go_ret
    exact ⟨ret_u (by unfold plusV addS; rw [if_pos h, if_pos h]), rfl⟩
  · have e1 : plusE a b = 10 := by unfold plusE; rw [if_neg h]
    go_enter Try.func35, Try.ntmps35
    go_wp2_with (go_at_call 44; refine (ref_Plus a b ha hb hb' _).mono ?_; rintro e w' ⟨rfl, rfl⟩)
    go_ret
    exact ⟨ret_u (by unfold addS; rw [if_neg (by omega)]), rfl⟩
end Go.Proofs.Ytgmgjbdbdekopaa
