/- GdsWeight. -/
import Derived.Test.YtlhjacgocggbcaaGdsA
set_option linter.unusedVariables false
set_option maxRecDepth 100000
set_option maxHeartbeats 4000000
namespace Go.Proofs.Ytlhjacgocggbcaa
open Go.RowKit Go.Shelf
attribute [local go_sem ↓] lt_alloc

theorem floS_eq (c s : Int) (hs : 1 ≤ s) : floS c s = if c * 1048576 / s < 18446744073709551616 then c * 1048576 / s else 18446744073709551615 := by
  unfold floS partE partV
  have h : ¬ s = 0 := by omega
  rw [if_neg h, if_neg h]
  by_cases hq : 18446744073709551616 ≤ c * 1048576 / s
  · rw [if_pos hq, if_neg (by decide), if_neg (by omega)]
  · rw [if_neg hq, if_pos rfl, if_neg hq, if_pos (by omega)]
theorem floS_mono {c c' s : Int} (hs : 1 ≤ s) (h : c ≤ c') : floS c s ≤ floS c' s := by
  rw [floS_eq c s hs, floS_eq c' s hs]
  have := Int.ediv_le_ediv (show 0 < s by omega) (show c * 1048576 ≤ c' * 1048576 by omega)
  split <;> split <;> omega
theorem floS_anti {c s s' : Int} (h0 : 0 ≤ c) (hs : 1 ≤ s) (h : s ≤ s') : floS c s' ≤ floS c s := by
  rw [floS_eq c s hs, floS_eq c s' (by omega)]
  have : c * 1048576 / s' ≤ c * 1048576 / s := by
    rw [Int.le_ediv_iff_mul_le (by omega)]
    have h1 : 0 ≤ c * 1048576 / s' := Int.ediv_nonneg (by omega) (by omega)
    have h2 := Int.mul_le_mul_of_nonneg_left h h1
    have h3 := Int.ediv_mul_le (c * 1048576) (show s' ≠ 0 by omega)
    omega
  split <;> split <;> omega
theorem w1_eq (c s f : Int) (hs : 1 ≤ s) : weightS 1 c s f = floS c s := by
  unfold weightS
  rw [if_neg (by omega), if_neg (by decide)]
theorem w2_eq (c s f : Int) (hs : 1 ≤ s) : weightS 2 c s f = if c * f < 18446744073709551616 then floS (c * f) s else 18446744073709551615 := by
  unfold weightS timesE timesV
  rw [if_neg (by omega), if_pos rfl]
  by_cases h : c * f < 18446744073709551616
  · rw [if_pos h, if_pos rfl, if_pos h, if_pos h]
  · rw [if_neg h, if_neg (by decide), if_neg h]
theorem w2_mono {c f c' f' s : Int} (hs : 1 ≤ s) (h0 : 0 ≤ c * f) (h : c * f ≤ c' * f') : weightS 2 c s f ≤ weightS 2 c' s f' := by
  rw [w2_eq c s f hs, w2_eq c' s f' hs]
  have := floS_mono (s := s) hs h
  have := (floS_bd (c * f) s h0 (by omega)).2
  split <;> split <;> omega
@[local go_sem high] theorem max3_ints {P : Program} (w : World) (ts : Array TypeId) (t : TypeId) (k k' k'' : IntKind) (x y z : Int) :
    (Builtin.max_ ts t #[.int k x, .int k' y, .int k'' z]).run P w = .ok (.int k (max (max x y) z)) w := by
  have e : ∀ x y : Int, (if y > x then y else x) = max x y := fun x y => by
    rw [Int.max_def]
    split <;> split <;> omega
  simp [Builtin.max_, Builtin.max2, e]
theorem gdsWeight_walk (a b size freq less : Int) (wa : 0 ≤ a ∧ a < 18446744073709551616) (wb : 0 ≤ b ∧ b < 18446744073709551616) (ws : 0 ≤ size ∧ size < 18446744073709551616) (wf : 0 ≤ freq ∧ freq < 18446744073709551616) (wl : 0 ≤ less ∧ less < 18446744073709551616) (w : World) :
    Calls Try.prog 7 #[.int .u64 a, .int .u64 b, .int .u64 size, .int .u64 freq, .int .u64 less] w fun r w' => r = .returned (.bool true) ∧ Below w.heap.size w w' := by
  have b1 : 0 ≤ min a b ∧ min a b < 18446744073709551616 := by omega
  have b2 : 0 ≤ max a b ∧ max a b < 18446744073709551616 := by omega
  have b3 : 1 ≤ max (min size less) 1 ∧ max (min size less) 1 < 18446744073709551616 := by omega
  have b4 : 1 ≤ max size (max less 1) ∧ max size (max less 1) < 18446744073709551616 := by omega
  have b5 : 0 ≤ min freq less ∧ min freq less < 18446744073709551616 := by omega
  have b6 : 0 ≤ max freq less ∧ max freq less < 18446744073709551616 := by omega
  have b7 : min a b ≤ max a b := by omega
  have b8 : max (min size less) 1 ≤ max size (max less 1) := by omega
  have b9 : min freq less ≤ max freq less := by omega
  go_enter Try.func7, Try.ntmps7
  go_wp2_with fail
  refine (law18_awake w).mono ?_
  rintro e w0 ⟨rfl, hB0⟩
  go_wp2_with fail
  generalize min a b = low at *
  generalize max a b = high at *
  generalize max (min size less) 1 = small at *
  generalize max size (max less 1) = great at *
  have f1 : decide (weightS 1 low great freq ≤ weightS 1 high great less) = true := decide_eq_true (by rw [w1_eq _ _ _ b4.1, w1_eq _ _ _ b4.1]; exact floS_mono b4.1 b7)
  have f2 : decide (weightS 2 low great freq ≤ weightS 2 high great freq) = true := decide_eq_true (w2_mono b4.1 (Int.mul_nonneg b1.1 wf.1) (Int.mul_le_mul_of_nonneg_right b7 wf.1))
  have f3 : decide (weightS 1 a great 0 ≤ weightS 1 a small 0) = true := decide_eq_true (by rw [w1_eq _ _ _ b4.1, w1_eq _ _ _ b3.1]; exact floS_anti wa.1 b3.1 b8)
  have f4 : weightS 2 a great 1 = weightS 1 a great 7 := by rw [w2_eq _ _ _ b4.1, w1_eq _ _ _ b4.1, Int.mul_one, if_pos wa.2]
  have f5 : decide (weightS 2 a great (min freq less) ≤ weightS 2 a great (max freq less)) = true := decide_eq_true (w2_mono b4.1 (Int.mul_nonneg wa.1 b5.1) (Int.mul_le_mul_of_nonneg_left b9 wa.1))
  have k1 := fun w => gds_Weight 1 low great freq b1.1 b1.2 (by omega) b4.2 wf.1 wf.2 w
  have k2 := fun w => gds_Weight 1 high great less b2.1 b2.2 (by omega) b4.2 wl.1 wl.2 w
  have k3 := fun w => gds_Weight 2 low great freq b1.1 b1.2 (by omega) b4.2 wf.1 wf.2 w
  have k4 := fun w => gds_Weight 2 high great freq b2.1 b2.2 (by omega) b4.2 wf.1 wf.2 w
  have k5 := fun w => gds_Weight 1 a great 0 wa.1 wa.2 (by omega) b4.2 (by decide) (by decide) w
  have k6 := fun w => gds_Weight 1 a small 0 wa.1 wa.2 (by omega) b3.2 (by decide) (by decide) w
  have k7 := fun w => gds_Weight 2 a great 1 wa.1 wa.2 (by omega) b4.2 (by decide) (by decide) w
  have k8 := fun w => gds_Weight 1 a great 7 wa.1 wa.2 (by omega) b4.2 (by decide) (by decide) w
  have k9 := fun w => gds_Weight 2 a great (min freq less) wa.1 wa.2 (by omega) b4.2 b5.1 b5.2 w
  have k10 := fun w => gds_Weight 2 a great (max freq less) wa.1 wa.2 (by omega) b4.2 b6.1 b6.2 w
  rw [f4] at k7
  clear f4
  generalize weightS 1 low great freq = x1 at *
  generalize weightS 1 high great less = x2 at *
  generalize weightS 2 low great freq = x3 at *
  generalize weightS 2 high great freq = x4 at *
  generalize weightS 1 a great 0 = x5 at *
  generalize weightS 1 a small 0 = x6 at *
  generalize weightS 1 a great 7 = x7 at *
  generalize weightS 2 a great (min freq less) = x8 at *
  generalize weightS 2 a great (max freq less) = x9 at *
  have f4 : (x7 == x7) = true := by simp
  refine (k1 _).mono ?_
  rintro e w1 ⟨rfl, hb⟩
  have hB1 := hB0.trans (hb.mono hB0.size)
  clear hb k1 hB0
  go_wp2_with fail
  refine (k2 _).mono ?_
  rintro e w2 ⟨rfl, hb⟩
  have hB2 := hB1.trans (hb.mono hB1.size)
  clear hb k2 hB1
  go_wp2_with fail
  refine (k3 _).mono ?_
  rintro e w3 ⟨rfl, hb⟩
  have hB3 := hB2.trans (hb.mono hB2.size)
  clear hb k3 hB2
  go_wp2_with fail
  refine (k4 _).mono ?_
  rintro e w4 ⟨rfl, hb⟩
  have hB4 := hB3.trans (hb.mono hB3.size)
  clear hb k4 hB3
  go_wp2_with fail
  refine (k5 _).mono ?_
  rintro e w5 ⟨rfl, hb⟩
  have hB5 := hB4.trans (hb.mono hB4.size)
  clear hb k5 hB4
  go_wp2_with fail
  refine (k6 _).mono ?_
  rintro e w6 ⟨rfl, hb⟩
  have hB6 := hB5.trans (hb.mono hB5.size)
  clear hb k6 hB5
  go_wp2_with fail
  refine (k7 _).mono ?_
  rintro e w7 ⟨rfl, hb⟩
  have hB7 := hB6.trans (hb.mono hB6.size)
  clear hb k7 hB6
  go_wp2_with fail
  refine (k8 _).mono ?_
  rintro e w8 ⟨rfl, hb⟩
  have hB8 := hB7.trans (hb.mono hB7.size)
  clear hb k8 hB7
  go_wp2_with fail
  refine (k9 _).mono ?_
  rintro e w9 ⟨rfl, hb⟩
  have hB9 := hB8.trans (hb.mono hB8.size)
  clear hb k9 hB8
  go_wp2_with fail
  refine (k10 _).mono ?_
  rintro e w10 ⟨rfl, hb⟩
  have hB10 := hB9.trans (hb.mono hB9.size)
  clear hb k10 hB9
  go_wp2_with fail
  go_ret
  exact ⟨rfl, hB10⟩
end Go.Proofs.Ytlhjacgocggbcaa
