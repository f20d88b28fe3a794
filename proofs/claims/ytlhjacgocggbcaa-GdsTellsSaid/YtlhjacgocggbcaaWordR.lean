/- The walks of the document's answer for the layer word: it comes to the same plain numbers. -/
import Derived.Test.YtlhjacgocggbcaaWordC
set_option linter.unusedVariables false
namespace Go.Proofs.Ytlhjacgocggbcaa
open Go.RowKit Go.Shelf

theorem ref_Plus (a b : Int) (ha : 0 ≤ a) (hb : 0 ≤ b) (hb' : b < 18446744073709551616) (w : World) :
    Calls Try.prog 49 #[.int .u64 a, .int .u64 b] w fun r w' => r = .returned (.tuple #[.int .u64 (plusV a b), .int .i64 (plusE a b)]) ∧ w = w' := by
  by_cases h : 18446744073709551615 - b < a
  all_goals
    go_enter Try.func49, Try.ntmps49
    go_wp2
    go_ret2
    exact ⟨ret_ui (by unfold plusV; split <;> omega) (by unfold plusE; split <;> omega), rfl⟩
theorem ref_Add (a b : Int) (ha : 0 ≤ a) (hb : 0 ≤ b) (hb' : b < 18446744073709551616) (w : World) :
    Calls Try.prog 29 #[.int .u64 a, .int .u64 b] w fun r w' => r = .returned (.int .u64 (addS a b)) ∧ w = w' := by
  by_cases h : a + b < 18446744073709551616
  · have e1 : plusE a b = 0 := by unfold plusE; rw [if_pos h]
    go_enter Try.func29, Try.ntmps29
    go_wp2_with (go_at_call 49; refine (ref_Plus a b ha hb hb' _).mono ?_; rintro e w' ⟨rfl, rfl⟩)
    go_ret
    exact ⟨ret_u (by unfold plusV addS; rw [if_pos h, if_pos h]), rfl⟩
  · have e1 : plusE a b = 10 := by unfold plusE; rw [if_neg h]
    go_enter Try.func29, Try.ntmps29
    go_wp2_with (go_at_call 49; refine (ref_Plus a b ha hb hb' _).mono ?_; rintro e w' ⟨rfl, rfl⟩)
    go_ret
    exact ⟨ret_u (by unfold addS; rw [if_neg (by omega)]), rfl⟩
theorem times_way {a b : Int} (h : 0 < b) : (18446744073709551615 / b < a ↔ ¬ a * b < 18446744073709551616) := by
  have := Int.le_ediv_iff_mul_le (a := a) (b := 18446744073709551615) h
  omega
theorem ref_Times (a b : Int) (ha : 0 ≤ a) (hb : 0 ≤ b) (w : World) :
    Calls Try.prog 35 #[.int .u64 a, .int .u64 b] w fun r w' => r = .returned (.tuple #[.int .u64 (timesV a b), .int .i64 (timesE a b)]) ∧ w = w' := by
  by_cases h0 : 0 < b
  · have hp := Int.mul_nonneg ha hb
    by_cases h : 18446744073709551615 / b < a
    · have e := (times_way h0).1 h
      go_enter Try.func35, Try.ntmps35
      go_wp2
      go_ret2
      exact ⟨ret_ui (by unfold timesV; rw [if_neg (by omega)]) (by unfold timesE; rw [if_neg (by omega)]), rfl⟩
    · have e := mt (times_way (a := a) h0).2 h
      go_enter Try.func35, Try.ntmps35
      go_wp2
      go_ret2
      exact ⟨ret_ui (by unfold timesV; rw [if_pos (by omega)]) (by unfold timesE; rw [if_pos (by omega)]), rfl⟩
  · obtain rfl : b = 0 := by omega
    go_enter Try.func35, Try.ntmps35
    go_wp2
    go_ret2
    exact ⟨ret_ui (by unfold timesV; simp) (by unfold timesE; simp), rfl⟩
theorem ref_Mul (a b : Int) (ha : 0 ≤ a) (hb : 0 ≤ b) (w : World) :
    Calls Try.prog 30 #[.int .u64 a, .int .u64 b] w fun r w' => r = .returned (.int .u64 (mulS a b)) ∧ w = w' := by
  by_cases h : a * b < 18446744073709551616
  · have e1 : timesE a b = 0 := by unfold timesE; rw [if_pos h]
    go_enter Try.func30, Try.ntmps30
    go_wp2_with (go_at_call 35; refine (ref_Times a b ha hb _).mono ?_; rintro e w' ⟨rfl, rfl⟩)
    go_ret
    exact ⟨ret_u (by unfold timesV mulS; rw [if_pos h, if_pos h]), rfl⟩
  · have e1 : timesE a b = 10 := by unfold timesE; rw [if_neg h]
    go_enter Try.func30, Try.ntmps30
    go_wp2_with (go_at_call 35; refine (ref_Times a b ha hb _).mono ?_; rintro e w' ⟨rfl, rfl⟩)
    go_ret
    exact ⟨ret_u (by unfold mulS; rw [if_neg (by omega)]), rfl⟩
theorem ref_Sub (a b : Int) (ha' : a < 18446744073709551616) (hb : 0 ≤ b) (w : World) :
    Calls Try.prog 38 #[.int .u64 a, .int .u64 b] w fun r w' => r = .returned (.int .u64 (subS a b)) ∧ w = w' := by
  by_cases h : a < b
  all_goals
    go_enter Try.func38, Try.ntmps38
    go_wp2
    go_ret
    exact ⟨ret_u (by unfold subS; split <;> omega), rfl⟩
theorem ref_Of (n : Int) (h : -9223372036854775808 ≤ n) (h' : n < 9223372036854775808) (w : World) :
    Calls Try.prog 31 #[.int .i64 n] w fun r w' => r = .returned (.int .u64 (ofS n)) ∧ w = w' := by
  by_cases hn : n < 0
  all_goals
    go_enter Try.func31, Try.ntmps31
    go_wp2
    go_ret
    exact ⟨ret_u (by unfold ofS; split <;> first | omega | (rw [IntKind.wrap_u64]; omega)), rfl⟩
end Go.Proofs.Ytlhjacgocggbcaa
