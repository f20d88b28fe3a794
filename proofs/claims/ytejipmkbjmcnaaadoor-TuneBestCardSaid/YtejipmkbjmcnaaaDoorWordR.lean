/- The walks of the document's answer for the layer word: it comes to the same plain numbers. -/
import Derived.Test.YtejipmkbjmcnaaaDoorWordC
set_option linter.unusedVariables false
namespace Go.Proofs.YtejipmkbjmcnaaaDoor
open Go.RowKit Go.Shelf

theorem ref_Plus (a b : Int) (ha : 0 ≤ a) (hb : 0 ≤ b) (hb' : b < 18446744073709551616) (w : World) :
    Calls Tryd.prog 58 #[.int .u64 a, .int .u64 b] w fun r w' => r = .returned (.tuple #[.int .u64 (plusV a b), .int .i64 (plusE a b)]) ∧ w = w' := by
  by_cases h : 18446744073709551615 - b < a
  all_goals
    go_enter Tryd.func58, Tryd.ntmps58
    go_wp2
    go_ret2
    exact ⟨ret_ui (by unfold plusV; split <;> omega) (by unfold plusE; split <;> omega), rfl⟩
theorem ref_Add (a b : Int) (ha : 0 ≤ a) (hb : 0 ≤ b) (hb' : b < 18446744073709551616) (w : World) :
    Calls Tryd.prog 41 #[.int .u64 a, .int .u64 b] w fun r w' => r = .returned (.int .u64 (addS a b)) ∧ w = w' := by
  by_cases h : a + b < 18446744073709551616
  · have e1 : plusE a b = 0 := by unfold plusE; rw [if_pos h]
    go_enter Tryd.func41, Tryd.ntmps41
    go_wp2_with (go_at_call 58; refine (ref_Plus a b ha hb hb' _).mono ?_; rintro e w' ⟨rfl, rfl⟩)
    go_ret
    exact ⟨ret_u (by unfold plusV addS; rw [if_pos h, if_pos h]), rfl⟩
  · have e1 : plusE a b = 10 := by unfold plusE; rw [if_neg h]
    go_enter Tryd.func41, Tryd.ntmps41
    go_wp2_with (go_at_call 58; refine (ref_Plus a b ha hb hb' _).mono ?_; rintro e w' ⟨rfl, rfl⟩)
    go_ret
    exact ⟨ret_u (by unfold addS; rw [if_neg (by omega)]), rfl⟩
theorem times_way {a b : Int} (h : 0 < b) : (18446744073709551615 / b < a ↔ ¬ a * b < 18446744073709551616) := by
  have := Int.le_ediv_iff_mul_le (a := a) (b := 18446744073709551615) h
  omega
theorem ref_Times (a b : Int) (ha : 0 ≤ a) (hb : 0 ≤ b) (w : World) :
    Calls Tryd.prog 54 #[.int .u64 a, .int .u64 b] w fun r w' => r = .returned (.tuple #[.int .u64 (timesV a b), .int .i64 (timesE a b)]) ∧ w = w' := by
  by_cases h0 : 0 < b
  · have hp := Int.mul_nonneg ha hb
    by_cases h : 18446744073709551615 / b < a
    · have e := (times_way h0).1 h
      go_enter Tryd.func54, Tryd.ntmps54
      go_wp2
      go_ret2
      exact ⟨ret_ui (by unfold timesV; rw [if_neg (by omega)]) (by unfold timesE; rw [if_neg (by omega)]), rfl⟩
    · have e := mt (times_way (a := a) h0).2 h
      go_enter Tryd.func54, Tryd.ntmps54
      go_wp2
      go_ret2
      exact ⟨ret_ui (by unfold timesV; rw [if_pos (by omega)]) (by unfold timesE; rw [if_pos (by omega)]), rfl⟩
  · obtain rfl : b = 0 := by omega
    go_enter Tryd.func54, Tryd.ntmps54
    go_wp2
    go_ret2
    exact ⟨ret_ui (by unfold timesV; simp) (by unfold timesE; simp), rfl⟩
theorem ref_Mul (a b : Int) (ha : 0 ≤ a) (hb : 0 ≤ b) (w : World) :
    Calls Tryd.prog 36 #[.int .u64 a, .int .u64 b] w fun r w' => r = .returned (.int .u64 (mulS a b)) ∧ w = w' := by
  by_cases h : a * b < 18446744073709551616
  · have e1 : timesE a b = 0 := by unfold timesE; rw [if_pos h]
    go_enter Tryd.func36, Tryd.ntmps36
    go_wp2_with (go_at_call 54; refine (ref_Times a b ha hb _).mono ?_; rintro e w' ⟨rfl, rfl⟩)
    go_ret
    exact ⟨ret_u (by unfold timesV mulS; rw [if_pos h, if_pos h]), rfl⟩
  · have e1 : timesE a b = 10 := by unfold timesE; rw [if_neg h]
    go_enter Tryd.func36, Tryd.ntmps36
    go_wp2_with (go_at_call 54; refine (ref_Times a b ha hb _).mono ?_; rintro e w' ⟨rfl, rfl⟩)
    go_ret
    exact ⟨ret_u (by unfold mulS; rw [if_neg (by omega)]), rfl⟩
theorem ref_Of (n : Int) (h : -9223372036854775808 ≤ n) (h' : n < 9223372036854775808) (w : World) :
    Calls Tryd.prog 42 #[.int .i64 n] w fun r w' => r = .returned (.int .u64 (ofS n)) ∧ w = w' := by
  by_cases hn : n < 0
  all_goals
    go_enter Tryd.func42, Tryd.ntmps42
    go_wp2
    go_ret
    exact ⟨ret_u (by unfold ofS; split <;> first | omega | (rw [IntKind.wrap_u64]; omega)), rfl⟩
theorem shl_end {a n : Int} {k : Nat} (ha : 0 ≤ a) (hk : (k : Int) ≤ n) (hk' : k ≤ 64) (h : n ≤ k ∨ 64 ≤ (k : Int)) : shlS a k = shlS a n := by
  rcases h with h | h
  · rw [show n = k from by omega]
  · rw [shlS_all (n := n) ha (by omega), show (k : Int) = 64 from by omega]
theorem shr_end {a n : Int} {k : Nat} (ha : 0 ≤ a) (ha' : a < 18446744073709551616) (hk : (k : Int) ≤ n) (hk' : k ≤ 64) (h : n ≤ k ∨ 64 ≤ (k : Int)) : shrS a k = shrS a n := by
  rcases h with h | h
  · rw [show n = k from by omega]
  · rw [shrS_all (n := n) ha ha' (by omega), show (k : Int) = 64 from by omega]
theorem ref_Shl (a n : Int) (ha : 0 ≤ a) (ha' : a < 18446744073709551616) (hn : 0 ≤ n) (w : World) :
    Calls Tryd.prog 59 #[.int .u64 a, .int .u64 n] w fun r w' => r = .returned (.int .u64 (shlS a n)) ∧ w = w' := by
  go_enter Tryd.func59, Tryd.ntmps59
  go_wp2_with fail
  go_loop [0, 5] (fun x i => ∃ k : Nat, (k : Int) ≤ n ∧ k ≤ 64 ∧ i = .int .u64 k ∧ x = .int .u64 (shlS a k)) (fun _ i => 64 - (intOf i).toNat)
  case atStart => exact ⟨0, by omega, by omega, rfl, by rw [show ((0 : Nat) : Int) = 0 from rfl, shlS_zero ha']⟩
  case round =>
    obtain ⟨k, hk, hk', rfl, rfl⟩ := hrel
    obtain ⟨b1, b2⟩ := shlS_bd a k ha
    by_cases h1 : (k : Int) < n
    · by_cases h2 : (k : Int) < 64
      · go_wp2_with (go_at_call 41; refine (ref_Add _ _ (by omega) (by omega) (by omega) _).mono ?_; rintro e w' ⟨rfl, rfl⟩)
        go_round
        case rel => exact ⟨k + 1, by omega, by omega, by go_num, by rw [shlS_step k ha]⟩
        case measure => simp [intOf]; omega
      · go_wp2_with fail
        go_ret
        exact ⟨ret_u (shl_end ha hk hk' (by omega)), rfl⟩
    · go_wp2_with fail
      go_ret
      exact ⟨ret_u (shl_end ha hk hk' (by omega)), rfl⟩
end Go.Proofs.YtejipmkbjmcnaaaDoor
