/- The walks of the five laws of the layer word. -/
import Derived.Test.YtoipbbgjcdkhbaaWordR
import Derived.RowKit3
import Derived.OpenShut
set_option linter.unusedVariables false
namespace Go.Proofs.Ytoipbbgjcdkhbaa
open Go.RowKit Go.Shelf

set_option maxHeartbeats 1000000 in
theorem awake_any (w : World) : Calls Try.prog 8 #[] w fun r w' => r = .returned (.bool true) ∧ w = w' := by
  have e1 : plusE 18446744073709551615 1 = 10 := by decide
  have e2 : timesV 4294967296 2147483648 = 9223372036854775808 := by decide
  have e3 : timesE 4294967296 2147483648 = 0 := by decide
  have e4 : timesE 4294967296 4294967296 = 10 := by decide
  have e5 : addS 18446744073709551615 5 = 18446744073709551615 := by decide
  have e6 : addS 2 3 = 5 := by decide
  have e7 : subS 2 3 = 0 := by decide
  have e8 : mulS 9223372036854775808 2 = 18446744073709551615 := by decide
  have e9 : shlS 3 63 = 18446744073709551615 := by decide
  have e10 : shlS 0 99 = 0 := by decide
  have e11 : shlS 3 2 = 12 := by decide
  have e12 : shrS 13 2 = 3 := by decide
  have e13 : shrS 5 64 = 0 := by decide
  have e14 : ofS (-1) = 0 := by decide
  have e15 : ofS 7 = 7 := by decide
  have e16 : intS 9223372036854775808 = 9223372036854775807 := by decide
  have e17 : intS 7 = 7 := by decide
  go_enter Try.func8, Try.ntmps8
  go_wp2_with (first
    | (go_at_call 9; refine (word_Plus _ _ (by decide) (by decide) _).mono ?_; rintro e w' ⟨rfl, rfl⟩)
    | (go_at_call 11; refine (word_Times _ _ (by decide) (by decide) (by decide) (by decide) _).mono ?_; rintro e w' ⟨rfl, rfl⟩)
    | (go_at_call 13; refine (word_Add _ _ (by decide) (by decide) _).mono ?_; rintro e w' ⟨rfl, rfl⟩)
    | (go_at_call 15; refine (word_Sub _ _ (by decide) (by decide) _).mono ?_; rintro e w' ⟨rfl, rfl⟩)
    | (go_at_call 17; refine (word_Mul _ _ (by decide) (by decide) (by decide) (by decide) _).mono ?_; rintro e w' ⟨rfl, rfl⟩)
    | (go_at_call 19; refine (word_Shl _ _ (by decide) (by decide) _).mono ?_; rintro e w' ⟨rfl, rfl⟩)
    | (go_at_call 21; refine (word_Shr _ _ (by decide) (by decide) (by decide) _).mono ?_; rintro e w' ⟨rfl, rfl⟩)
    | (go_at_call 23; refine (word_Of _ (by decide) (by decide) _).mono ?_; rintro e w' ⟨rfl, rfl⟩)
    | (go_at_call 25; refine (word_Int _ (by decide) (by decide) _).mono ?_; rintro e w' ⟨rfl, rfl⟩))
  go_ret
  exact ⟨rfl, rfl⟩

set_option maxHeartbeats 2000000 in
theorem tells_walk (a b n i : Int) (ha : 0 ≤ a) (ha' : a < 18446744073709551616) (hb : 0 ≤ b) (hb' : b < 18446744073709551616) (hn : 0 ≤ n)
    (hi : -9223372036854775808 ≤ i) (hi' : i < 9223372036854775808) (w : World) :
    Calls Try.prog 3 #[.int .u64 a, .int .u64 b, .int .u64 n, .int .i64 i] w fun r w' => r = .returned (.bool true) ∧ w = w' := by
  go_enter Try.func3, Try.ntmps3
  go_wp2_with (first
    | (go_at_call 8; refine (awake_any _).mono ?_; rintro e w' ⟨rfl, rfl⟩)
    | (go_at_call 9; refine (word_Plus a b ha hb _).mono ?_; rintro e w' ⟨rfl, rfl⟩)
    | (go_at_call 11; refine (word_Times a b ha ha' hb hb' _).mono ?_; rintro e w' ⟨rfl, rfl⟩)
    | (go_at_call 13; refine (word_Add a b ha hb _).mono ?_; rintro e w' ⟨rfl, rfl⟩)
    | (go_at_call 15; refine (word_Sub a b ha' hb _).mono ?_; rintro e w' ⟨rfl, rfl⟩)
    | (go_at_call 17; refine (word_Mul a b ha ha' hb hb' _).mono ?_; rintro e w' ⟨rfl, rfl⟩)
    | (go_at_call 19; refine (word_Shl a n ha hn _).mono ?_; rintro e w' ⟨rfl, rfl⟩)
    | (go_at_call 21; refine (word_Shr a n ha ha' hn _).mono ?_; rintro e w' ⟨rfl, rfl⟩)
    | (go_at_call 23; refine (word_Of i hi hi' _).mono ?_; rintro e w' ⟨rfl, rfl⟩)
    | (go_at_call 25; refine (word_Int a ha ha' _).mono ?_; rintro e w' ⟨rfl, rfl⟩)
    | (go_at_call 10; refine (ref_Plus a b ha hb hb' _).mono ?_; rintro e w' ⟨rfl, rfl⟩)
    | (go_at_call 12; refine (ref_Times a b ha hb _).mono ?_; rintro e w' ⟨rfl, rfl⟩)
    | (go_at_call 14; refine (ref_Add a b ha hb hb' _).mono ?_; rintro e w' ⟨rfl, rfl⟩)
    | (go_at_call 16; refine (ref_Sub a b ha' hb _).mono ?_; rintro e w' ⟨rfl, rfl⟩)
    | (go_at_call 18; refine (ref_Mul a b ha hb _).mono ?_; rintro e w' ⟨rfl, rfl⟩)
    | (go_at_call 20; refine (ref_Shl a n ha ha' hn _).mono ?_; rintro e w' ⟨rfl, rfl⟩)
    | (go_at_call 22; refine (ref_Shr a n ha ha' hn _).mono ?_; rintro e w' ⟨rfl, rfl⟩)
    | (go_at_call 24; refine (ref_Of i hi hi' _).mono ?_; rintro e w' ⟨rfl, rfl⟩)
    | (go_at_call 26; refine (ref_Int a ha ha' _).mono ?_; rintro e w' ⟨rfl, rfl⟩))
  go_ret
  exact ⟨rfl, rfl⟩


set_option maxHeartbeats 2000000 in
theorem back_walk (a b n : Int) (ha : 0 ≤ a) (ha' : a < 18446744073709551616) (hb : 0 ≤ b) (hb' : b < 18446744073709551616) (hn : 0 ≤ n) (w : World) :
    Calls Try.prog 4 #[.int .u64 a, .int .u64 b, .int .u64 n] w fun r w' => r = .returned (.bool true) ∧ w = w' := by
  obtain ⟨c1, c2⟩ := shlS_bd a n ha
  obtain ⟨d1, d2⟩ := shrS_bd a n ha ha'
  have hle := back_shr (n := n) ha ha'
  by_cases h : a + b < 18446744073709551616
  · have e1 : plusV a b = a + b := by unfold plusV; rw [if_pos h]
    have e2 : plusE a b = 0 := by unfold plusE; rw [if_pos h]
    have e3 : addS a b = a + b := by unfold addS; rw [if_pos h]
    have e4 : subS (a + b) b = a := by unfold subS; rw [if_neg (by omega)]; omega
    have e5 : subS (a + b) a = b := by unfold subS; rw [if_neg (by omega)]; omega
    by_cases hs : shlS a n = 18446744073709551615
    · go_enter Try.func4, Try.ntmps4
      go_wp2_with (first
        | (go_at_call 8; refine (awake_any _).mono ?_; rintro e w' ⟨rfl, rfl⟩)
        | (go_at_call 9; refine (word_Plus a b ha hb _).mono ?_; rintro e w' ⟨rfl, rfl⟩)
        | (go_at_call 13; refine (word_Add a b ha hb _).mono ?_; rintro e w' ⟨rfl, rfl⟩)
        | (go_at_call 15; refine (word_Sub _ _ (by omega) (by omega) _).mono ?_; rintro e w' ⟨rfl, rfl⟩)
        | (go_at_call 19; refine (word_Shl _ n (by assumption) hn _).mono ?_; rintro e w' ⟨rfl, rfl⟩)
        | (go_at_call 21; refine (word_Shr _ n (by assumption) (by assumption) hn _).mono ?_; rintro e w' ⟨rfl, rfl⟩))
      go_ret
      exact ⟨rfl, rfl⟩
    · have hs' : (shlS a n == 18446744073709551615) = false := by simp [hs]
      have hr := back_shl ha hs
      go_enter Try.func4, Try.ntmps4
      go_wp2_with (first
        | (go_at_call 8; refine (awake_any _).mono ?_; rintro e w' ⟨rfl, rfl⟩)
        | (go_at_call 9; refine (word_Plus a b ha hb _).mono ?_; rintro e w' ⟨rfl, rfl⟩)
        | (go_at_call 13; refine (word_Add a b ha hb _).mono ?_; rintro e w' ⟨rfl, rfl⟩)
        | (go_at_call 15; refine (word_Sub _ _ (by omega) (by omega) _).mono ?_; rintro e w' ⟨rfl, rfl⟩)
        | (go_at_call 19; refine (word_Shl _ n (by assumption) hn _).mono ?_; rintro e w' ⟨rfl, rfl⟩)
        | (go_at_call 21; refine (word_Shr _ n (by assumption) (by assumption) hn _).mono ?_; rintro e w' ⟨rfl, rfl⟩))
      go_ret
      exact ⟨rfl, rfl⟩
  · have e1 : plusV a b = 0 := by unfold plusV; rw [if_neg h]
    have e2 : plusE a b = 10 := by unfold plusE; rw [if_neg h]
    have e3 : addS a b = 18446744073709551615 := by unfold addS; rw [if_neg h]
    by_cases hs : shlS a n = 18446744073709551615
    · go_enter Try.func4, Try.ntmps4
      go_wp2_with (first
        | (go_at_call 8; refine (awake_any _).mono ?_; rintro e w' ⟨rfl, rfl⟩)
        | (go_at_call 9; refine (word_Plus a b ha hb _).mono ?_; rintro e w' ⟨rfl, rfl⟩)
        | (go_at_call 13; refine (word_Add a b ha hb _).mono ?_; rintro e w' ⟨rfl, rfl⟩)
        | (go_at_call 19; refine (word_Shl _ n (by assumption) hn _).mono ?_; rintro e w' ⟨rfl, rfl⟩)
        | (go_at_call 21; refine (word_Shr _ n (by assumption) (by assumption) hn _).mono ?_; rintro e w' ⟨rfl, rfl⟩))
      go_ret
      exact ⟨rfl, rfl⟩
    · have hs' : (shlS a n == 18446744073709551615) = false := by simp [hs]
      have hr := back_shl ha hs
      go_enter Try.func4, Try.ntmps4
      go_wp2_with (first
        | (go_at_call 8; refine (awake_any _).mono ?_; rintro e w' ⟨rfl, rfl⟩)
        | (go_at_call 9; refine (word_Plus a b ha hb _).mono ?_; rintro e w' ⟨rfl, rfl⟩)
        | (go_at_call 13; refine (word_Add a b ha hb _).mono ?_; rintro e w' ⟨rfl, rfl⟩)
        | (go_at_call 19; refine (word_Shl _ n (by assumption) hn _).mono ?_; rintro e w' ⟨rfl, rfl⟩)
        | (go_at_call 21; refine (word_Shr _ n (by assumption) (by assumption) hn _).mono ?_; rintro e w' ⟨rfl, rfl⟩))
      go_ret
      exact ⟨rfl, rfl⟩


set_option maxHeartbeats 2000000 in
theorem order_walk (a b c : Int) (ha : 0 ≤ a) (ha' : a < 18446744073709551616) (hb : 0 ≤ b) (hb' : b < 18446744073709551616) (hc : 0 ≤ c) (hc' : c < 18446744073709551616) (w : World) :
    Calls Try.prog 5 #[.int .u64 a, .int .u64 b, .int .u64 c] w fun r w' => r = .returned (.bool true) ∧ w = w' := by
  have m1 := addS_bd a b ha hb
  have m2 := addS_bd b c hb hc
  have e1 := addS_comm b a
  have e2 := mulS_comm b a
  have e3 := addS_assoc a b c ha hb hc
  rcases Int.le_total a b with h | h
  · have e4 := addS_mono (c := c) h
    have e5 := mulS_mono h hc
    have e6 := subS_mono (c := c) h
    have e7 := subS_anti (c := c) h
    go_enter Try.func5, Try.ntmps5
    go_wp2_with (first
      | (go_at_call 8; refine (awake_any _).mono ?_; rintro e w' ⟨rfl, rfl⟩)
      | (go_at_call 13; refine (word_Add _ _ (by omega) (by omega) _).mono ?_; rintro e w' ⟨rfl, rfl⟩)
      | (go_at_call 15; refine (word_Sub _ _ (by omega) (by omega) _).mono ?_; rintro e w' ⟨rfl, rfl⟩)
      | (go_at_call 17; refine (word_Mul _ _ (by omega) (by omega) (by omega) (by omega) _).mono ?_; rintro e w' ⟨rfl, rfl⟩))
    all_goals
      go_ret
      exact ⟨rfl, rfl⟩
  · have e4 := addS_mono (c := c) h
    have e5 := mulS_mono h hc
    have e6 := subS_mono (c := c) h
    have e7 := subS_anti (c := c) h
    go_enter Try.func5, Try.ntmps5
    go_wp2_with (first
      | (go_at_call 8; refine (awake_any _).mono ?_; rintro e w' ⟨rfl, rfl⟩)
      | (go_at_call 13; refine (word_Add _ _ (by omega) (by omega) _).mono ?_; rintro e w' ⟨rfl, rfl⟩)
      | (go_at_call 15; refine (word_Sub _ _ (by omega) (by omega) _).mono ?_; rintro e w' ⟨rfl, rfl⟩)
      | (go_at_call 17; refine (word_Mul _ _ (by omega) (by omega) (by omega) (by omega) _).mono ?_; rintro e w' ⟨rfl, rfl⟩))
    all_goals
      go_ret
      exact ⟨rfl, rfl⟩

theorem max_le {i : Int} (h : 0 ≤ i) : max i 0 = i := by omega
theorem max_gt {i : Int} (h : i ≤ 0) : max i 0 = 0 := by omega
theorem kinds_walk (a b i : Int) (ha : 0 ≤ a) (ha' : a < 18446744073709551616) (hb : 0 ≤ b) (hb' : b < 18446744073709551616) (hi : -9223372036854775808 ≤ i)
    (hi' : i < 9223372036854775808) (w : World) :
    Calls Try.prog 7 #[.int .u64 a, .int .u64 b, .int .i64 i] w fun r w' => r = .returned (.bool true) ∧ w = w' := by
  have b1 := intS_bd a ha
  have b2 := ofS_bd i hi'
  have e1 := kinds_forth hi'
  rcases Int.le_total a b with h | h
  all_goals
    have e2 := intS_mono h
    rcases Int.lt_or_le 9223372036854775807 a with h1 | h1
    all_goals
      first | have e3 := kinds_top h1 | have e3 := kinds_back h1 ha
      go_enter Try.func7, Try.ntmps7
      go_wp2_with (first
        | (go_at_call 8; refine (awake_any _).mono ?_; rintro e w' ⟨rfl, rfl⟩)
        | (go_at_call 23; refine (word_Of _ (by omega) (by omega) _).mono ?_; rintro e w' ⟨rfl, rfl⟩)
        | (go_at_call 25; refine (word_Int _ (by omega) (by omega) _).mono ?_; rintro e w' ⟨rfl, rfl⟩))
      all_goals
        go_ret
        exact ⟨rfl, rfl⟩

theorem shifts_walk (a n m : Int) (ha : 0 ≤ a) (ha' : a < 18446744073709551616) (hn : 0 ≤ n) (hn' : n < 256) (hm : 0 ≤ m) (hm' : m < 256) (w : World) :
    Calls Try.prog 6 #[.int .u64 a, .int .u8 n, .int .u8 m] w fun r w' => r = .returned (.bool true) ∧ Grown w w' := by
  have hk : 0 ≤ n % 100 ∧ n % 100 < 100 := by omega
  have hl : 0 ≤ m % 100 ∧ m % 100 < 100 := by omega
  go_enter Try.func6, Try.ntmps6
  go_wp2_with (first
    | (go_at_call 8; refine (awake_any _).mono ?_; rintro e w' ⟨rfl, rfl⟩))
  obtain ⟨hp, hp'⟩ := pow_bd (n % 100 % 64).toNat (by omega)
  have hw : IntKind.u64.wrap (2 ^ (n % 100 % 64).toNat) = 2 ^ (n % 100 % 64).toNat := by rw [IntKind.wrap_u64]; omega
  rw [hw]
  have e1 : shlS a (n % 100 % 64) = mulS a (2 ^ (n % 100 % 64).toNat) := shlS_mulS _ _
  have e2 : shrS a (n % 100 % 64) = a / (2 ^ (n % 100 % 64).toNat) := rfl
  clear hw
  generalize (2 : Int) ^ (n % 100 % 64).toNat = p at *
  generalize n % 100 = k at *
  generalize m % 100 = l at *
  have e3 := shrS_shrS a k l hk.1 hl.1
  have e4 := shlS_shlS a k l ha hk.1 hl.1
  obtain ⟨k1, k2⟩ := hk
  obtain ⟨l1, l2⟩ := hl
  obtain ⟨c1, c2⟩ := shlS_bd a k ha
  obtain ⟨d1, d2⟩ := shrS_bd a k ha ha'
  have k3 : 0 ≤ k % 64 := by omega
  have s1 : IntKind.u64.wrap (k + l) = k + l := by rw [IntKind.wrap_u64]; omega
  go_quiet ((first
    | (go_at_call 21; exact quietL (word_Shr _ _ (by omega) (by omega) (by omega) _))
    | (go_at_call 19; exact quietL (word_Shl _ _ (by omega) (by omega) _))
    | (go_at_call 17; exact quietL (word_Mul _ _ (by omega) (by omega) (by omega) (by omega) _))))
  go_wp2
  go_ret
  exact ⟨rfl, grown_drewN (Grown.refl _) _⟩

/-! The laws, from well-formed numbers. -/
theorem tells_law (a b n i : Int) (w0 : (Lit.int .u64 a).wf = true) (w1 : (Lit.int .u64 b).wf = true) (w2 : (Lit.int .u64 n).wf = true) (w3 : (Lit.int .i64 i).wf = true) (w : World) :
    Calls Try.prog 3 #[.int .u64 a, .int .u64 b, .int .u64 n, .int .i64 i] w fun r w' => r = .returned (.bool true) ∧ Grown w w' := by
  have h0 := bounds_u64 w0; have h1 := bounds_u64 w1; have h2 := bounds_u64 w2; have h3 := bounds_i64 w3
  exact (tells_walk a b n i (by omega) (by omega) (by omega) (by omega) (by omega) (by omega) (by omega) w).mono fun _ _ ⟨h, hw⟩ => ⟨h, hw ▸ Grown.refl _⟩
theorem back_law (a b n : Int) (w0 : (Lit.int .u64 a).wf = true) (w1 : (Lit.int .u64 b).wf = true) (w2 : (Lit.int .u64 n).wf = true) (w : World) :
    Calls Try.prog 4 #[.int .u64 a, .int .u64 b, .int .u64 n] w fun r w' => r = .returned (.bool true) ∧ Grown w w' := by
  have h0 := bounds_u64 w0; have h1 := bounds_u64 w1; have h2 := bounds_u64 w2
  exact (back_walk a b n (by omega) (by omega) (by omega) (by omega) (by omega) w).mono fun _ _ ⟨h, hw⟩ => ⟨h, hw ▸ Grown.refl _⟩
theorem order_law (a b c : Int) (w0 : (Lit.int .u64 a).wf = true) (w1 : (Lit.int .u64 b).wf = true) (w2 : (Lit.int .u64 c).wf = true) (w : World) :
    Calls Try.prog 5 #[.int .u64 a, .int .u64 b, .int .u64 c] w fun r w' => r = .returned (.bool true) ∧ Grown w w' := by
  have h0 := bounds_u64 w0; have h1 := bounds_u64 w1; have h2 := bounds_u64 w2
  exact (order_walk a b c (by omega) (by omega) (by omega) (by omega) (by omega) (by omega) w).mono fun _ _ ⟨h, hw⟩ => ⟨h, hw ▸ Grown.refl _⟩
theorem kinds_law (a b i : Int) (w0 : (Lit.int .u64 a).wf = true) (w1 : (Lit.int .u64 b).wf = true) (w2 : (Lit.int .i64 i).wf = true) (w : World) :
    Calls Try.prog 7 #[.int .u64 a, .int .u64 b, .int .i64 i] w fun r w' => r = .returned (.bool true) ∧ Grown w w' := by
  have h0 := bounds_u64 w0; have h1 := bounds_u64 w1; have h2 := bounds_i64 w2
  exact (kinds_walk a b i (by omega) (by omega) (by omega) (by omega) (by omega) (by omega) w).mono fun _ _ ⟨h, hw⟩ => ⟨h, hw ▸ Grown.refl _⟩
theorem shifts_law (a n m : Int) (w0 : (Lit.int .u64 a).wf = true) (w1 : (Lit.int .u8 n).wf = true) (w2 : (Lit.int .u8 m).wf = true) (w : World) :
    Calls Try.prog 6 #[.int .u64 a, .int .u8 n, .int .u8 m] w fun r w' => r = .returned (.bool true) ∧ Grown w w' := by
  have h0 := bounds_u64 w0; have h1 := bounds_u8 w1; have h2 := bounds_u8 w2
  exact shifts_walk a n m (by omega) (by omega) (by omega) (by omega) (by omega) (by omega) w
end Go.Proofs.Ytoipbbgjcdkhbaa
