/- The walks of the layer word: each function comes to the plain number of WordS. -/
import Derived.Test.YtejipmkbjmcnaaaDoorBitsC
import Derived.Test.YtejipmkbjmcnaaaDoorWordS
set_option linter.unusedVariables false
namespace Go.Proofs.YtejipmkbjmcnaaaDoor
open Go.RowKit Go.Shelf

theorem held_u (n e : Int) (b : Bool) (w : World) :
    Calls Tryd.prog 62 #[.int .u64 n, .int .u64 e, .bool b] w fun r w' => r = .returned (.int .u64 (if b then e else n)) ∧ w = w' := by
  cases b
  · go_enter Tryd.func62, Tryd.ntmps62
    go_wp2
    go_ret
    exact ⟨rfl, rfl⟩
  · go_enter Tryd.func62, Tryd.ntmps62
    go_wp2
    go_ret
    exact ⟨rfl, rfl⟩
theorem word_Add (a b : Int) (ha : 0 ≤ a) (hb : 0 ≤ b) (w : World) :
    Calls Tryd.prog 60 #[.int .u64 a, .int .u64 b] w fun r w' => r = .returned (.int .u64 (addS a b)) ∧ w = w' := by
  have h0 := add64_0 a b ha hb
  go_enter Tryd.func60, Tryd.ntmps60
  go_wp2_with (go_at_call 62; refine (held_u _ _ _ _).mono ?_; rintro e w' ⟨rfl, rfl⟩)
  · go_ret
    exact ⟨ret_u (addS_lt ‹_›), rfl⟩
  · go_ret
    exact ⟨ret_u (addS_ge ‹_› ha hb), rfl⟩
theorem word_Mul (a b : Int) (ha : 0 ≤ a) (ha' : a < 18446744073709551616) (hb : 0 ≤ b) (hb' : b < 18446744073709551616) (w : World) :
    Calls Tryd.prog 47 #[.int .u64 a, .int .u64 b] w fun r w' => r = .returned (.int .u64 (mulS a b)) ∧ w = w' := by
  go_enter Tryd.func47, Tryd.ntmps47
  go_wp2_with (first
    | (go_at_call 61; refine (mul64 a b ha ha' hb hb' _).mono ?_; rintro e w' ⟨rfl, rfl⟩)
    | (go_at_call 62; refine (held_u _ _ _ _).mono ?_; rintro e w' ⟨rfl, rfl⟩))
  · go_ret
    exact ⟨ret_u (mulS_lt ‹_›), rfl⟩
  · go_ret
    exact ⟨ret_u (mulS_ge ‹_› ha hb), rfl⟩
theorem word_Of (n : Int) (h : -9223372036854775808 ≤ n) (h' : n < 9223372036854775808) (w : World) :
    Calls Tryd.prog 48 #[.int .i64 n] w fun r w' => r = .returned (.int .u64 (ofS n)) ∧ w = w' := by
  go_enter Tryd.func48, Tryd.ntmps48
  go_wp2_with (go_at_call 62; refine (held_u _ _ _ _).mono ?_; rintro e w' ⟨rfl, rfl⟩)
  · go_ret
    exact ⟨ret_u (by unfold ofS; rw [if_pos (by omega)]), rfl⟩
  · go_ret
    exact ⟨ret_u (by unfold ofS; rw [if_neg (by omega), IntKind.wrap_u64]; omega), rfl⟩
end Go.Proofs.YtejipmkbjmcnaaaDoor
