/- The walks of the layer word: each function comes to the plain number of WordS. -/
import Derived.Test.YtlhjacgocggbcaaBitsC
import Derived.Test.YtlhjacgocggbcaaWordS
set_option linter.unusedVariables false
namespace Go.Proofs.Ytlhjacgocggbcaa
open Go.RowKit Go.Shelf

theorem held_u (n e : Int) (b : Bool) (w : World) :
    Calls Try.prog 47 #[.int .u64 n, .int .u64 e, .bool b] w fun r w' => r = .returned (.int .u64 (if b then e else n)) ∧ w = w' := by
  cases b
  · go_enter Try.func47, Try.ntmps47
    go_wp2
    go_ret
    exact ⟨rfl, rfl⟩
  · go_enter Try.func47, Try.ntmps47
    go_wp2
    go_ret
    exact ⟨rfl, rfl⟩
theorem word_Add (a b : Int) (ha : 0 ≤ a) (hb : 0 ≤ b) (w : World) :
    Calls Try.prog 25 #[.int .u64 a, .int .u64 b] w fun r w' => r = .returned (.int .u64 (addS a b)) ∧ w = w' := by
  have h0 := add64_0 a b ha hb
  go_enter Try.func25, Try.ntmps25
  go_wp2_with (go_at_call 47; refine (held_u _ _ _ _).mono ?_; rintro e w' ⟨rfl, rfl⟩)
  · go_ret
    exact ⟨ret_u (addS_lt ‹_›), rfl⟩
  · go_ret
    exact ⟨ret_u (addS_ge ‹_› ha hb), rfl⟩
theorem word_Sub (a b : Int) (ha' : a < 18446744073709551616) (hb : 0 ≤ b) (w : World) :
    Calls Try.prog 37 #[.int .u64 a, .int .u64 b] w fun r w' => r = .returned (.int .u64 (subS a b)) ∧ w = w' := by
  go_enter Try.func37, Try.ntmps37
  go_wp2_with (go_at_call 47; refine (held_u _ _ _ _).mono ?_; rintro e w' ⟨rfl, rfl⟩)
  · go_ret
    exact ⟨ret_u (by unfold subS; rw [if_pos ‹_›]), rfl⟩
  · go_ret
    exact ⟨ret_u (by unfold subS; rw [if_neg (by omega), IntKind.wrap_u64]; omega), rfl⟩
theorem word_Mul (a b : Int) (ha : 0 ≤ a) (ha' : a < 18446744073709551616) (hb : 0 ≤ b) (hb' : b < 18446744073709551616) (w : World) :
    Calls Try.prog 26 #[.int .u64 a, .int .u64 b] w fun r w' => r = .returned (.int .u64 (mulS a b)) ∧ w = w' := by
  go_enter Try.func26, Try.ntmps26
  go_wp2_with (first
    | (go_at_call 48; refine (mul64 a b ha ha' hb hb' _).mono ?_; rintro e w' ⟨rfl, rfl⟩)
    | (go_at_call 47; refine (held_u _ _ _ _).mono ?_; rintro e w' ⟨rfl, rfl⟩))
  · go_ret
    exact ⟨ret_u (mulS_lt ‹_›), rfl⟩
  · go_ret
    exact ⟨ret_u (mulS_ge ‹_› ha hb), rfl⟩
theorem word_Times (a b : Int) (ha : 0 ≤ a) (ha' : a < 18446744073709551616) (hb : 0 ≤ b) (hb' : b < 18446744073709551616) (w : World) :
    Calls Try.prog 33 #[.int .u64 a, .int .u64 b] w fun r w' => r = .returned (.tuple #[.int .u64 (timesV a b), .int .i64 (timesE a b)]) ∧ w = w' := by
  have hp := Int.mul_nonneg ha hb
  go_enter Try.func33, Try.ntmps33
  go_wp2_with (go_at_call 48; refine (mul64 a b ha ha' hb hb' _).mono ?_; rintro e w' ⟨rfl, rfl⟩)
  all_goals
    have hc := ‹((a * b) / 18446744073709551616 != 0) = _›
    simp only [bne_iff_ne, ne_eq, bne_eq_false_iff_eq] at hc
    go_ret2
    exact ⟨ret_ui (by unfold timesV; generalize a * b = p at *; split <;> omega) (by unfold timesE; generalize a * b = p at *; split <;> omega), rfl⟩
theorem word_Of (n : Int) (h : -9223372036854775808 ≤ n) (h' : n < 9223372036854775808) (w : World) :
    Calls Try.prog 27 #[.int .i64 n] w fun r w' => r = .returned (.int .u64 (ofS n)) ∧ w = w' := by
  go_enter Try.func27, Try.ntmps27
  go_wp2_with (go_at_call 47; refine (held_u _ _ _ _).mono ?_; rintro e w' ⟨rfl, rfl⟩)
  · go_ret
    exact ⟨ret_u (by unfold ofS; rw [if_pos (by omega)]), rfl⟩
  · go_ret
    exact ⟨ret_u (by unfold ofS; rw [if_neg (by omega), IntKind.wrap_u64]; omega), rfl⟩
end Go.Proofs.Ytlhjacgocggbcaa
