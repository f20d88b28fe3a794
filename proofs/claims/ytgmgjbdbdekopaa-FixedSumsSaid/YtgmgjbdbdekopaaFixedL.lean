/- The walks of the laws of the layer fixed: awake, FixedTells, FixedParts, FixedMix, FixedSmall, FixedBack. -/
import Derived.Test.YtgmgjbdbdekopaaFixedR
set_option linter.unusedVariables false
namespace Go.Proofs.Ytgmgjbdbdekopaa
open Go.RowKit Go.Shelf
attribute [local go_sem ↓] lt_alloc

theorem belowE {P : Program} {f : FuncId} {args : Array Value} {w : World} {v : Ending} (h : Calls P f args w fun e w' => e = v ∧ w = w') : Calls P f args w fun e w' => e = v ∧ Below w.heap.size w w' :=
  h.mono fun _ _ ⟨a, b⟩ => ⟨a, b ▸ Below.refl _ _⟩
theorem u64c {a : Int} (h : (Lit.int .u64 a).wf = true) : 0 ≤ a ∧ a < 18446744073709551616 := by have := bounds_u64 h; omega
def cZ3 (i : Nat) : Int := [9223372036854775808, 9223372036854775808, 1].getD i 0
theorem cZ3_0 : ∀ i, 0 ≤ cZ3 i := by intro i; unfold cZ3; rcases i with _ | _ | _ | i <;> simp
set_option maxRecDepth 100000 in
set_option maxHeartbeats 2000000 in
theorem awake4_any (w : World) : Calls Try.prog 9 #[] w fun r w' => r = .returned (.bool true) ∧ Below w.heap.size w w' := by
  have e1 : fxV 3 2 = 6442450944 := by decide
  have e2 : fxE 3 2 = 0 := by decide
  have e3 : fxE 4294967296 1 = 10 := by decide
  have e4 : fxE 5 0 = 20 := by decide
  have e5 : mulF 6442450944 6442450944 = 9663676416 := by decide
  have e6 : fxV 9663676416 6442450944 = 6442450944 := by decide
  have e7 : fxE 9663676416 6442450944 = 0 := by decide
  have e8 : mulF 9223372036854775808 9223372036854775808 = 18446744073709551615 := by decide
  have e9 : mixF 0 4294967296 1073741824 = 1073741824 := by decide
  have e10 : mixF 7 9 1099511627776 = 9 := by decide
  have e11 : sumF cZ3 3 = 18446744073709551615 := by decide
  have e12 : sumF cZ3 0 = 0 := rfl
  go_enter Try.func9, Try.ntmps9
  go_wp2_with fail
  refine (fixed_Of _ _ (by decide) (by decide) (by decide) (by decide) _).mono ?_
  rintro r w1 ⟨rfl, hb1⟩
  have hB1 : Below w.heap.size w w1 := by repeat' (first | (with_reducible exact Below.refl _ _) | (with_reducible assumption) | (with_reducible refine Below.trans ?_ (Below.mono hb1 ?_)) | (with_reducible refine Below.alloc ?_ ?_ _) | (with_reducible refine below_drewN ?_ _) | (with_reducible refine Below.drew ?_) | (with_reducible refine Below.setCell ?_ ?_ _) | go_size | omega | (simp; omega))
  have hS1 := hB1.size
  clear hb1
  go_wp2_with fail
  refine (fixed_Of _ _ (by decide) (by decide) (by decide) (by decide) _).mono ?_
  rintro r w2 ⟨rfl, hb2⟩
  have hB2 : Below w.heap.size w w2 := by repeat' (first | (with_reducible exact Below.refl _ _) | (with_reducible assumption) | (with_reducible refine Below.trans ?_ (Below.mono hb2 ?_)) | (with_reducible refine Below.alloc ?_ ?_ _) | (with_reducible refine below_drewN ?_ _) | (with_reducible refine Below.drew ?_) | (with_reducible refine Below.setCell ?_ ?_ _) | go_size | omega | (simp; omega))
  have hS2 := hB2.size
  clear hb2
  go_wp2_with fail
  refine (fixed_Div _ _ (by decide) (by decide) (by decide) (by decide) _).mono ?_
  rintro r w3 ⟨rfl, hb3⟩
  have hB3 : Below w.heap.size w w3 := by repeat' (first | (with_reducible exact Below.refl _ _) | (with_reducible assumption) | (with_reducible refine Below.trans ?_ (Below.mono hb3 ?_)) | (with_reducible refine Below.alloc ?_ ?_ _) | (with_reducible refine below_drewN ?_ _) | (with_reducible refine Below.drew ?_) | (with_reducible refine Below.setCell ?_ ?_ _) | go_size | omega | (simp; omega))
  have hS3 := hB3.size
  clear hb3
  go_wp2_with fail
  refine (fixed_Mul _ _ (by decide) (by decide) (by decide) (by decide) _).mono ?_
  rintro r w4 ⟨rfl, hb4⟩
  have hB4 : Below w.heap.size w w4 := by repeat' (first | (with_reducible exact Below.refl _ _) | (with_reducible assumption) | (with_reducible refine Below.trans ?_ (Below.mono hb4 ?_)) | (with_reducible refine Below.alloc ?_ ?_ _) | (with_reducible refine below_drewN ?_ _) | (with_reducible refine Below.drew ?_) | (with_reducible refine Below.setCell ?_ ?_ _) | go_size | omega | (simp; omega))
  have hS4 := hB4.size
  clear hb4
  go_wp2_with fail
  refine (fixed_Div _ _ (by decide) (by decide) (by decide) (by decide) _).mono ?_
  rintro r w5 ⟨rfl, hb5⟩
  have hB5 : Below w.heap.size w w5 := by repeat' (first | (with_reducible exact Below.refl _ _) | (with_reducible assumption) | (with_reducible refine Below.trans ?_ (Below.mono hb5 ?_)) | (with_reducible refine Below.alloc ?_ ?_ _) | (with_reducible refine below_drewN ?_ _) | (with_reducible refine Below.drew ?_) | (with_reducible refine Below.setCell ?_ ?_ _) | go_size | omega | (simp; omega))
  have hS5 := hB5.size
  clear hb5
  go_wp2_with fail
  refine (fixed_Mul _ _ (by decide) (by decide) (by decide) (by decide) _).mono ?_
  rintro r w6 ⟨rfl, hb6⟩
  have hB6 : Below w.heap.size w w6 := by repeat' (first | (with_reducible exact Below.refl _ _) | (with_reducible assumption) | (with_reducible refine Below.trans ?_ (Below.mono hb6 ?_)) | (with_reducible refine Below.alloc ?_ ?_ _) | (with_reducible refine below_drewN ?_ _) | (with_reducible refine Below.drew ?_) | (with_reducible refine Below.setCell ?_ ?_ _) | go_size | omega | (simp; omega))
  have hS6 := hB6.size
  clear hb6
  go_wp2_with fail
  refine (fixed_Mul _ _ (by decide) (by decide) (by decide) (by decide) _).mono ?_
  rintro r w7 ⟨rfl, hb7⟩
  have hB7 : Below w.heap.size w w7 := by repeat' (first | (with_reducible exact Below.refl _ _) | (with_reducible assumption) | (with_reducible refine Below.trans ?_ (Below.mono hb7 ?_)) | (with_reducible refine Below.alloc ?_ ?_ _) | (with_reducible refine below_drewN ?_ _) | (with_reducible refine Below.drew ?_) | (with_reducible refine Below.setCell ?_ ?_ _) | go_size | omega | (simp; omega))
  have hS7 := hB7.size
  clear hb7
  go_wp2_with fail
  refine (belowE (fixed_Whole _ (by decide) (by decide) _)).mono ?_
  rintro r w8 ⟨rfl, hb8⟩
  have hB8 : Below w.heap.size w w8 := by repeat' (first | (with_reducible exact Below.refl _ _) | (with_reducible assumption) | (with_reducible refine Below.trans ?_ (Below.mono hb8 ?_)) | (with_reducible refine Below.alloc ?_ ?_ _) | (with_reducible refine below_drewN ?_ _) | (with_reducible refine Below.drew ?_) | (with_reducible refine Below.setCell ?_ ?_ _) | go_size | omega | (simp; omega))
  have hS8 := hB8.size
  clear hb8
  go_wp2_with fail
  refine (belowE (fixed_Part _ (by decide) (by decide) _)).mono ?_
  rintro r w9 ⟨rfl, hb9⟩
  have hB9 : Below w.heap.size w w9 := by repeat' (first | (with_reducible exact Below.refl _ _) | (with_reducible assumption) | (with_reducible refine Below.trans ?_ (Below.mono hb9 ?_)) | (with_reducible refine Below.alloc ?_ ?_ _) | (with_reducible refine below_drewN ?_ _) | (with_reducible refine Below.drew ?_) | (with_reducible refine Below.setCell ?_ ?_ _) | go_size | omega | (simp; omega))
  have hS9 := hB9.size
  clear hb9
  go_wp2_with fail
  refine (fixed_Mix _ _ _ (by decide) (by decide) (by decide) (by decide) (by decide) (by decide) _).mono ?_
  rintro r w10 ⟨rfl, hb10⟩
  have hB10 : Below w.heap.size w w10 := by repeat' (first | (with_reducible exact Below.refl _ _) | (with_reducible assumption) | (with_reducible refine Below.trans ?_ (Below.mono hb10 ?_)) | (with_reducible refine Below.alloc ?_ ?_ _) | (with_reducible refine below_drewN ?_ _) | (with_reducible refine Below.drew ?_) | (with_reducible refine Below.setCell ?_ ?_ _) | go_size | omega | (simp; omega))
  have hS10 := hB10.size
  clear hb10
  go_wp2_with fail
  refine (fixed_Mix _ _ _ (by decide) (by decide) (by decide) (by decide) (by decide) (by decide) _).mono ?_
  rintro r w11 ⟨rfl, hb11⟩
  have hB11 : Below w.heap.size w w11 := by repeat' (first | (with_reducible exact Below.refl _ _) | (with_reducible assumption) | (with_reducible refine Below.trans ?_ (Below.mono hb11 ?_)) | (with_reducible refine Below.alloc ?_ ?_ _) | (with_reducible refine below_drewN ?_ _) | (with_reducible refine Below.drew ?_) | (with_reducible refine Below.setCell ?_ ?_ _) | go_size | omega | (simp; omega))
  have hS11 := hB11.size
  clear hb11
  go_wp2_with fail
  refine (belowE (fixed_Sum (len := 3) (cap := 3) cZ3_0 _ (Or.inr ⟨w11.heap.size, 0, rfl, by decide, by intro i hi; rcases i with _ | _ | _ | i <;> first | omega | (simp [cZ3, go_sem]; done)⟩))).mono ?_
  rintro r w12 ⟨rfl, hb12⟩
  have hB12 : Below w.heap.size w w12 := by repeat' (first | (with_reducible exact Below.refl _ _) | (with_reducible assumption) | (with_reducible refine Below.trans ?_ (Below.mono hb12 ?_)) | (with_reducible refine Below.alloc ?_ ?_ _) | (with_reducible refine below_drewN ?_ _) | (with_reducible refine Below.drew ?_) | (with_reducible refine Below.setCell ?_ ?_ _) | go_size | omega | (simp; omega))
  have hS12 := hB12.size
  clear hb12
  go_wp2_with fail
  refine (belowE (fixed_Sum (len := 0) (cap := 0) cZ3_0 _ (Or.inl rfl))).mono ?_
  rintro r w13 ⟨rfl, hb13⟩
  have hB13 : Below w.heap.size w w13 := by repeat' (first | (with_reducible exact Below.refl _ _) | (with_reducible assumption) | (with_reducible refine Below.trans ?_ (Below.mono hb13 ?_)) | (with_reducible refine Below.alloc ?_ ?_ _) | (with_reducible refine below_drewN ?_ _) | (with_reducible refine Below.drew ?_) | (with_reducible refine Below.setCell ?_ ?_ _) | go_size | omega | (simp; omega))
  have hS13 := hB13.size
  clear hb13
  go_wp2_with fail
  go_ret
  exact ⟨rfl, hB13⟩
theorem mulF_mono {a b c : Int} (c0 : 0 ≤ c) (h : a ≤ b) : mulF a c ≤ mulF b c := by
  have h1 : a * c ≤ b * c := Int.mul_le_mul_of_nonneg_right h c0
  have := Int.ediv_le_ediv (show (0 : Int) < 4294967296 by decide) h1
  unfold mulF; omega
theorem small_facts {a b c : Int} (a0 : 0 ≤ a) (a1 : a < 18446744073709551616) (b0 : 0 ≤ b) (c0 : 0 ≤ c) :
    mulF a (min b 4294967296) ≤ a ∧ mulF b a = mulF a b ∧ mulF (min a c) b ≤ mulF (max a c) b ∧ mulF a 0 = 0 := by
  refine ⟨?_, by unfold mulF; rw [Int.mul_comm], mulF_mono b0 (by omega), by unfold mulF; rw [Int.mul_zero]; decide⟩
  have h : a * min b 4294967296 ≤ a * 4294967296 := Int.mul_le_mul_of_nonneg_left (by omega) a0
  unfold mulF
  generalize a * min b 4294967296 = p at *
  omega
set_option maxRecDepth 100000 in
theorem small_walk (a b c : Int) (a0 : 0 ≤ a) (a1 : a < 18446744073709551616) (b0 : 0 ≤ b) (b1 : b < 18446744073709551616) (c0 : 0 ≤ c) (c1 : c < 18446744073709551616) (w : World) :
    Calls Try.prog 6 #[.int .u64 a, .int .u64 b, .int .u64 c] w fun r w' => r = .returned (.bool true) ∧ Below w.heap.size w w' := by
  obtain ⟨f1, f2, f3, f4⟩ := small_facts a0 a1 b0 c0
  have k2 := fun w => fixed_Mul a (min b 4294967296) a0 a1 (by omega) (by omega) w
  have k3 := fun w => fixed_Mul a b a0 a1 b0 b1 w
  have k4 := fun w => fixed_Mul b a b0 b1 a0 a1 w
  have k5 := fun w => fixed_Mul (min a c) b (by omega) (by omega) b0 b1 w
  have k6 := fun w => fixed_Mul (max a c) b (by omega) (by omega) b0 b1 w
  have k7 := fun w => fixed_Mul a 0 a0 a1 (by decide) (by decide) w
  rw [f2] at k4
  rw [f4] at k7
  clear f2 f4
  generalize mulF a (min b 4294967296) = m1 at *
  generalize mulF a b = m2 at *
  generalize mulF (min a c) b = m3 at *
  generalize mulF (max a c) b = m4 at *
  go_enter Try.func6, Try.ntmps6
  go_wp2_with fail
  refine (awake4_any _).mono ?_
  rintro r w1 ⟨rfl, hb1⟩
  have hB1 : Below w.heap.size w w1 := by repeat' (first | (with_reducible exact Below.refl _ _) | (with_reducible assumption) | (with_reducible refine Below.trans ?_ (Below.mono hb1 ?_)) | (with_reducible refine Below.alloc ?_ ?_ _) | (with_reducible refine below_drewN ?_ _) | (with_reducible refine Below.drew ?_) | (with_reducible refine Below.setCell ?_ ?_ _) | go_size | omega | (simp; omega))
  have hS1 := hB1.size
  clear hb1
  go_wp2_with fail
  refine (k2 _).mono ?_
  rintro r w2 ⟨rfl, hb2⟩
  have hB2 : Below w.heap.size w w2 := by repeat' (first | (with_reducible exact Below.refl _ _) | (with_reducible assumption) | (with_reducible refine Below.trans ?_ (Below.mono hb2 ?_)) | (with_reducible refine Below.alloc ?_ ?_ _) | (with_reducible refine below_drewN ?_ _) | (with_reducible refine Below.drew ?_) | (with_reducible refine Below.setCell ?_ ?_ _) | go_size | omega | (simp; omega))
  have hS2 := hB2.size
  clear hb2
  go_wp2_with fail
  refine (k3 _).mono ?_
  rintro r w3 ⟨rfl, hb3⟩
  have hB3 : Below w.heap.size w w3 := by repeat' (first | (with_reducible exact Below.refl _ _) | (with_reducible assumption) | (with_reducible refine Below.trans ?_ (Below.mono hb3 ?_)) | (with_reducible refine Below.alloc ?_ ?_ _) | (with_reducible refine below_drewN ?_ _) | (with_reducible refine Below.drew ?_) | (with_reducible refine Below.setCell ?_ ?_ _) | go_size | omega | (simp; omega))
  have hS3 := hB3.size
  clear hb3
  go_wp2_with fail
  refine (k4 _).mono ?_
  rintro r w4 ⟨rfl, hb4⟩
  have hB4 : Below w.heap.size w w4 := by repeat' (first | (with_reducible exact Below.refl _ _) | (with_reducible assumption) | (with_reducible refine Below.trans ?_ (Below.mono hb4 ?_)) | (with_reducible refine Below.alloc ?_ ?_ _) | (with_reducible refine below_drewN ?_ _) | (with_reducible refine Below.drew ?_) | (with_reducible refine Below.setCell ?_ ?_ _) | go_size | omega | (simp; omega))
  have hS4 := hB4.size
  clear hb4
  go_wp2_with fail
  refine (k5 _).mono ?_
  rintro r w5 ⟨rfl, hb5⟩
  have hB5 : Below w.heap.size w w5 := by repeat' (first | (with_reducible exact Below.refl _ _) | (with_reducible assumption) | (with_reducible refine Below.trans ?_ (Below.mono hb5 ?_)) | (with_reducible refine Below.alloc ?_ ?_ _) | (with_reducible refine below_drewN ?_ _) | (with_reducible refine Below.drew ?_) | (with_reducible refine Below.setCell ?_ ?_ _) | go_size | omega | (simp; omega))
  have hS5 := hB5.size
  clear hb5
  go_wp2_with fail
  refine (k6 _).mono ?_
  rintro r w6 ⟨rfl, hb6⟩
  have hB6 : Below w.heap.size w w6 := by repeat' (first | (with_reducible exact Below.refl _ _) | (with_reducible assumption) | (with_reducible refine Below.trans ?_ (Below.mono hb6 ?_)) | (with_reducible refine Below.alloc ?_ ?_ _) | (with_reducible refine below_drewN ?_ _) | (with_reducible refine Below.drew ?_) | (with_reducible refine Below.setCell ?_ ?_ _) | go_size | omega | (simp; omega))
  have hS6 := hB6.size
  clear hb6
  go_wp2_with fail
  refine (k7 _).mono ?_
  rintro r w7 ⟨rfl, hb7⟩
  have hB7 : Below w.heap.size w w7 := by repeat' (first | (with_reducible exact Below.refl _ _) | (with_reducible assumption) | (with_reducible refine Below.trans ?_ (Below.mono hb7 ?_)) | (with_reducible refine Below.alloc ?_ ?_ _) | (with_reducible refine below_drewN ?_ _) | (with_reducible refine Below.drew ?_) | (with_reducible refine Below.setCell ?_ ?_ _) | go_size | omega | (simp; omega))
  have hS7 := hB7.size
  clear hb7
  go_wp2_with fail
  go_ret
  exact ⟨rfl, hB7⟩
theorem small_law (a b c : Int) (w0 : (Lit.int .u64 a).wf = true) (w1 : (Lit.int .u64 b).wf = true) (w2 : (Lit.int .u64 c).wf = true) (w : World) :
    Calls Try.prog 6 #[.int .u64 a, .int .u64 b, .int .u64 c] w fun r w' => r = .returned (.bool true) ∧ Below w.heap.size w w' :=
  small_walk a b c (u64c w0).1 (u64c w0).2 (u64c w1).1 (u64c w1).2 (u64c w2).1 (u64c w2).2 w
theorem back4_facts {a b : Int} (a0 : 0 ≤ a) (a1 : a < 18446744073709551616) (b0 : 0 ≤ b) (b1 : b < 18446744073709551616) :
    (¬ fxE a b = 0 → fxV a b = 0 ∧ (b == 0) = (fxE a b == 20)) ∧ (fxE a b = 0 → mulF (fxV a b) b ≤ a ∧ a - mulF (fxV a b) b ≤ b / 4294967296 + 1) ∧ 0 ≤ fxV a b ∧ fxV a b < 18446744073709551616 := by
  have hq : 0 ≤ a * 4294967296 / b := Int.ediv_nonneg (by omega) b0
  refine ⟨fun h => ?_, fun h => ?_, partV_bd hq⟩
  · unfold fxE partE at h
    unfold fxE fxV partE partV
    rw [Bool.eq_iff_iff]
    simp only [beq_iff_eq]
    split at h
    · simp_all
    · split at h
      · rename_i h1 h2
        rw [if_neg h1, if_neg h1, if_pos h2, if_pos h2]; simp [h1]
      · omega
  · have hb : 0 < b := by
      rcases Int.lt_or_eq_of_le b0 with h1 | h1
      · exact h1
      · subst h1; unfold fxE at h; rw [partE_z] at h; omega
    have hlt : a * 4294967296 / b < 18446744073709551616 := by
      unfold fxE partE at h; split at h <;> (try split at h) <;> omega
    have e : fxV a b = a * 4294967296 / b := by unfold fxV; exact partV_lt hb hlt
    rw [e]
    have d1 := Int.emod_add_mul_ediv (a * 4294967296) b
    have d2 := Int.emod_nonneg (a * 4294967296) (show b ≠ 0 by omega)
    have d3 := Int.emod_lt_of_pos (a * 4294967296) hb
    generalize a * 4294967296 % b = r at *
    generalize a * 4294967296 / b = q at *
    have e2 : q * b = a * 4294967296 - r := by rw [Int.mul_comm]; omega
    unfold mulF
    rw [e2]
    omega
set_option maxRecDepth 100000 in
theorem back4_walk (a b : Int) (a0 : 0 ≤ a) (a1 : a < 18446744073709551616) (b0 : 0 ≤ b) (b1 : b < 18446744073709551616) (w : World) :
    Calls Try.prog 7 #[.int .u64 a, .int .u64 b] w fun r w' => r = .returned (.bool true) ∧ Below w.heap.size w w' := by
  obtain ⟨f1, f2, v0, v1⟩ := back4_facts a0 a1 b0 b1
  have k2 := fun w => fixed_Div a b a0 a1 b0 b1 w
  have k3 := fun w => fixed_Mul (fxV a b) b v0 v1 b0 b1 w
  obtain ⟨m0, m1⟩ := mulF_bd v0 b0
  generalize mulF (fxV a b) b = n at *
  generalize fxV a b = q at *
  generalize fxE a b = e at *
  by_cases he : e = 0
  · subst he
    obtain ⟨g1, g2⟩ := f2 rfl
    clear f1 f2
    go_enter Try.func7, Try.ntmps7
    go_wp2_with fail
    refine (awake4_any _).mono ?_
    rintro r w1 ⟨rfl, hb1⟩
    have hB1 : Below w.heap.size w w1 := by repeat' (first | (with_reducible exact Below.refl _ _) | (with_reducible assumption) | (with_reducible refine Below.trans ?_ (Below.mono hb1 ?_)) | (with_reducible refine Below.alloc ?_ ?_ _) | (with_reducible refine below_drewN ?_ _) | (with_reducible refine Below.drew ?_) | (with_reducible refine Below.setCell ?_ ?_ _) | go_size | omega | (simp; omega))
    have hS1 := hB1.size
    clear hb1
    go_wp2_with fail
    refine (k2 _).mono ?_
    rintro r w2 ⟨rfl, hb2⟩
    have hB2 : Below w.heap.size w w2 := by repeat' (first | (with_reducible exact Below.refl _ _) | (with_reducible assumption) | (with_reducible refine Below.trans ?_ (Below.mono hb2 ?_)) | (with_reducible refine Below.alloc ?_ ?_ _) | (with_reducible refine below_drewN ?_ _) | (with_reducible refine Below.drew ?_) | (with_reducible refine Below.setCell ?_ ?_ _) | go_size | omega | (simp; omega))
    have hS2 := hB2.size
    clear hb2
    go_wp2_with fail
    refine (k3 _).mono ?_
    rintro r w3 ⟨rfl, hb3⟩
    have hB3 : Below w.heap.size w w3 := by repeat' (first | (with_reducible exact Below.refl _ _) | (with_reducible assumption) | (with_reducible refine Below.trans ?_ (Below.mono hb3 ?_)) | (with_reducible refine Below.alloc ?_ ?_ _) | (with_reducible refine below_drewN ?_ _) | (with_reducible refine Below.drew ?_) | (with_reducible refine Below.setCell ?_ ?_ _) | go_size | omega | (simp; omega))
    have hS3 := hB3.size
    clear hb3
    go_wp2_with fail
    refine (belowE (fixed_Whole _ b0 b1 _)).mono ?_
    rintro r w4 ⟨rfl, hb4⟩
    have hB4 : Below w.heap.size w w4 := by repeat' (first | (with_reducible exact Below.refl _ _) | (with_reducible assumption) | (with_reducible refine Below.trans ?_ (Below.mono hb4 ?_)) | (with_reducible refine Below.alloc ?_ ?_ _) | (with_reducible refine below_drewN ?_ _) | (with_reducible refine Below.drew ?_) | (with_reducible refine Below.setCell ?_ ?_ _) | go_size | omega | (simp; omega))
    have hS4 := hB4.size
    clear hb4
    go_wp2_with fail
    go_ret
    exact ⟨rfl, hB4⟩
  · obtain ⟨rfl, g2⟩ := f1 he
    have he1 : (e != 0) = true := by simpa using he
    have he2 : (e == 0) = false := by simpa using he
    clear f1 f2 he k3 v0 v1
    go_enter Try.func7, Try.ntmps7
    go_wp2_with fail
    refine (awake4_any _).mono ?_
    rintro r w1 ⟨rfl, hb1⟩
    have hB1 : Below w.heap.size w w1 := by repeat' (first | (with_reducible exact Below.refl _ _) | (with_reducible assumption) | (with_reducible refine Below.trans ?_ (Below.mono hb1 ?_)) | (with_reducible refine Below.alloc ?_ ?_ _) | (with_reducible refine below_drewN ?_ _) | (with_reducible refine Below.drew ?_) | (with_reducible refine Below.setCell ?_ ?_ _) | go_size | omega | (simp; omega))
    have hS1 := hB1.size
    clear hb1
    go_wp2_with fail
    refine (k2 _).mono ?_
    rintro r w2 ⟨rfl, hb2⟩
    have hB2 : Below w.heap.size w w2 := by repeat' (first | (with_reducible exact Below.refl _ _) | (with_reducible assumption) | (with_reducible refine Below.trans ?_ (Below.mono hb2 ?_)) | (with_reducible refine Below.alloc ?_ ?_ _) | (with_reducible refine below_drewN ?_ _) | (with_reducible refine Below.drew ?_) | (with_reducible refine Below.setCell ?_ ?_ _) | go_size | omega | (simp; omega))
    have hS2 := hB2.size
    clear hb2
    go_wp2_with fail
    go_ret
    exact ⟨rfl, hB2⟩
theorem back4_law (a b : Int) (w0 : (Lit.int .u64 a).wf = true) (w1 : (Lit.int .u64 b).wf = true) (w : World) :
    Calls Try.prog 7 #[.int .u64 a, .int .u64 b] w fun r w' => r = .returned (.bool true) ∧ Below w.heap.size w w' :=
  back4_walk a b (u64c w0).1 (u64c w0).2 (u64c w1).1 (u64c w1).2 w
set_option maxRecDepth 100000 in
set_option maxHeartbeats 1000000 in
theorem tells4_walk (a b m : Int) (a0 : 0 ≤ a) (a1 : a < 18446744073709551616) (b0 : 0 ≤ b) (b1 : b < 18446744073709551616) (m0 : 0 ≤ m) (m1 : m < 18446744073709551616) (w : World) {s : Option Addr} {len cap : Nat} {Z : Nat → Int} (hZ : ∀ i, 0 ≤ Z i ∧ Z i < 18446744073709551616) (hl : IsInts w s len Z) :
    Calls Try.prog 3 #[.int .u64 a, .int .u64 b, .int .u64 m, .slice s len cap] w fun r w' => r = .returned (.bool true) ∧ Below w.heap.size w w' := by
  have HL := Lib.hid hl
  have HZ := Lib.hid hZ
  clear hl hZ
  rcases Nat.lt_or_ge 100 len with hlen | hlen
  · go_enter Try.func3, Try.ntmps3
    go_wp2_with fail
    refine (awake4_any _).mono ?_
    rintro r w1 ⟨rfl, hb1⟩
    have hB1 : Below w.heap.size w w1 := by repeat' (first | (with_reducible exact Below.refl _ _) | (with_reducible assumption) | (with_reducible refine Below.trans ?_ (Below.mono hb1 ?_)) | (with_reducible refine Below.alloc ?_ ?_ _) | (with_reducible refine below_drewN ?_ _) | (with_reducible refine Below.drew ?_) | (with_reducible refine Below.setCell ?_ ?_ _) | go_size | omega | (simp; omega))
    have hS1 := hB1.size
    clear hb1
    go_wp2_with fail
    go_ret
    exact ⟨rfl, hB1⟩
  · go_enter Try.func3, Try.ntmps3
    go_wp2_with fail
    refine (awake4_any _).mono ?_
    rintro r w1 ⟨rfl, hb1⟩
    have hB1 : Below w.heap.size w w1 := by repeat' (first | (with_reducible exact Below.refl _ _) | (with_reducible assumption) | (with_reducible refine Below.trans ?_ (Below.mono hb1 ?_)) | (with_reducible refine Below.alloc ?_ ?_ _) | (with_reducible refine below_drewN ?_ _) | (with_reducible refine Below.drew ?_) | (with_reducible refine Below.setCell ?_ ?_ _) | go_size | omega | (simp; omega))
    have hS1 := hB1.size
    clear hb1
    go_wp2_with fail
    refine (fixed_Of a b a0 a1 b0 b1 _).mono ?_
    rintro r w2 ⟨rfl, hb2⟩
    have hB2 : Below w.heap.size w w2 := by repeat' (first | (with_reducible exact Below.refl _ _) | (with_reducible assumption) | (with_reducible refine Below.trans ?_ (Below.mono hb2 ?_)) | (with_reducible refine Below.alloc ?_ ?_ _) | (with_reducible refine below_drewN ?_ _) | (with_reducible refine Below.drew ?_) | (with_reducible refine Below.setCell ?_ ?_ _) | go_size | omega | (simp; omega))
    have hS2 := hB2.size
    clear hb2
    go_wp2_with fail
    refine (ref4_Of a b a0 a1 b0 b1 _).mono ?_
    rintro r w3 ⟨rfl, hb3⟩
    have hB3 : Below w.heap.size w w3 := by repeat' (first | (with_reducible exact Below.refl _ _) | (with_reducible assumption) | (with_reducible refine Below.trans ?_ (Below.mono hb3 ?_)) | (with_reducible refine Below.alloc ?_ ?_ _) | (with_reducible refine below_drewN ?_ _) | (with_reducible refine Below.drew ?_) | (with_reducible refine Below.setCell ?_ ?_ _) | go_size | omega | (simp; omega))
    have hS3 := hB3.size
    clear hb3
    go_wp2_with fail
    refine (fixed_Div a b a0 a1 b0 b1 _).mono ?_
    rintro r w4 ⟨rfl, hb4⟩
    have hB4 : Below w.heap.size w w4 := by repeat' (first | (with_reducible exact Below.refl _ _) | (with_reducible assumption) | (with_reducible refine Below.trans ?_ (Below.mono hb4 ?_)) | (with_reducible refine Below.alloc ?_ ?_ _) | (with_reducible refine below_drewN ?_ _) | (with_reducible refine Below.drew ?_) | (with_reducible refine Below.setCell ?_ ?_ _) | go_size | omega | (simp; omega))
    have hS4 := hB4.size
    clear hb4
    go_wp2_with fail
    refine (ref4_Div a b a0 a1 b0 b1 _).mono ?_
    rintro r w5 ⟨rfl, hb5⟩
    have hB5 : Below w.heap.size w w5 := by repeat' (first | (with_reducible exact Below.refl _ _) | (with_reducible assumption) | (with_reducible refine Below.trans ?_ (Below.mono hb5 ?_)) | (with_reducible refine Below.alloc ?_ ?_ _) | (with_reducible refine below_drewN ?_ _) | (with_reducible refine Below.drew ?_) | (with_reducible refine Below.setCell ?_ ?_ _) | go_size | omega | (simp; omega))
    have hS5 := hB5.size
    clear hb5
    go_wp2_with fail
    refine (fixed_Mul a b a0 a1 b0 b1 _).mono ?_
    rintro r w6 ⟨rfl, hb6⟩
    have hB6 : Below w.heap.size w w6 := by repeat' (first | (with_reducible exact Below.refl _ _) | (with_reducible assumption) | (with_reducible refine Below.trans ?_ (Below.mono hb6 ?_)) | (with_reducible refine Below.alloc ?_ ?_ _) | (with_reducible refine below_drewN ?_ _) | (with_reducible refine Below.drew ?_) | (with_reducible refine Below.setCell ?_ ?_ _) | go_size | omega | (simp; omega))
    have hS6 := hB6.size
    clear hb6
    go_wp2_with fail
    refine (ref4_Mul a b a0 a1 b0 b1 _).mono ?_
    rintro r w7 ⟨rfl, hb7⟩
    have hB7 : Below w.heap.size w w7 := by repeat' (first | (with_reducible exact Below.refl _ _) | (with_reducible assumption) | (with_reducible refine Below.trans ?_ (Below.mono hb7 ?_)) | (with_reducible refine Below.alloc ?_ ?_ _) | (with_reducible refine below_drewN ?_ _) | (with_reducible refine Below.drew ?_) | (with_reducible refine Below.setCell ?_ ?_ _) | go_size | omega | (simp; omega))
    have hS7 := hB7.size
    clear hb7
    go_wp2_with fail
    refine (belowE (fixed_Whole a a0 a1 _)).mono ?_
    rintro r w8 ⟨rfl, hb8⟩
    have hB8 : Below w.heap.size w w8 := by repeat' (first | (with_reducible exact Below.refl _ _) | (with_reducible assumption) | (with_reducible refine Below.trans ?_ (Below.mono hb8 ?_)) | (with_reducible refine Below.alloc ?_ ?_ _) | (with_reducible refine below_drewN ?_ _) | (with_reducible refine Below.drew ?_) | (with_reducible refine Below.setCell ?_ ?_ _) | go_size | omega | (simp; omega))
    have hS8 := hB8.size
    clear hb8
    go_wp2_with fail
    refine (belowE (ref4_Whole a a0 a1 _)).mono ?_
    rintro r w9 ⟨rfl, hb9⟩
    have hB9 : Below w.heap.size w w9 := by repeat' (first | (with_reducible exact Below.refl _ _) | (with_reducible assumption) | (with_reducible refine Below.trans ?_ (Below.mono hb9 ?_)) | (with_reducible refine Below.alloc ?_ ?_ _) | (with_reducible refine below_drewN ?_ _) | (with_reducible refine Below.drew ?_) | (with_reducible refine Below.setCell ?_ ?_ _) | go_size | omega | (simp; omega))
    have hS9 := hB9.size
    clear hb9
    go_wp2_with fail
    refine (belowE (fixed_Part a a0 a1 _)).mono ?_
    rintro r w10 ⟨rfl, hb10⟩
    have hB10 : Below w.heap.size w w10 := by repeat' (first | (with_reducible exact Below.refl _ _) | (with_reducible assumption) | (with_reducible refine Below.trans ?_ (Below.mono hb10 ?_)) | (with_reducible refine Below.alloc ?_ ?_ _) | (with_reducible refine below_drewN ?_ _) | (with_reducible refine Below.drew ?_) | (with_reducible refine Below.setCell ?_ ?_ _) | go_size | omega | (simp; omega))
    have hS10 := hB10.size
    clear hb10
    go_wp2_with fail
    refine (belowE (ref4_Part a a0 a1 _)).mono ?_
    rintro r w11 ⟨rfl, hb11⟩
    have hB11 : Below w.heap.size w w11 := by repeat' (first | (with_reducible exact Below.refl _ _) | (with_reducible assumption) | (with_reducible refine Below.trans ?_ (Below.mono hb11 ?_)) | (with_reducible refine Below.alloc ?_ ?_ _) | (with_reducible refine below_drewN ?_ _) | (with_reducible refine Below.drew ?_) | (with_reducible refine Below.setCell ?_ ?_ _) | go_size | omega | (simp; omega))
    have hS11 := hB11.size
    clear hb11
    go_wp2_with fail
    refine (fixed_Mix a b m a0 a1 b0 b1 m0 m1 _).mono ?_
    rintro r w12 ⟨rfl, hb12⟩
    have hB12 : Below w.heap.size w w12 := by repeat' (first | (with_reducible exact Below.refl _ _) | (with_reducible assumption) | (with_reducible refine Below.trans ?_ (Below.mono hb12 ?_)) | (with_reducible refine Below.alloc ?_ ?_ _) | (with_reducible refine below_drewN ?_ _) | (with_reducible refine Below.drew ?_) | (with_reducible refine Below.setCell ?_ ?_ _) | go_size | omega | (simp; omega))
    have hS12 := hB12.size
    clear hb12
    go_wp2_with fail
    refine (ref4_Mix a b m a0 a1 b0 b1 m0 m1 _).mono ?_
    rintro r w13 ⟨rfl, hb13⟩
    have hB13 : Below w.heap.size w w13 := by repeat' (first | (with_reducible exact Below.refl _ _) | (with_reducible assumption) | (with_reducible refine Below.trans ?_ (Below.mono hb13 ?_)) | (with_reducible refine Below.alloc ?_ ?_ _) | (with_reducible refine below_drewN ?_ _) | (with_reducible refine Below.drew ?_) | (with_reducible refine Below.setCell ?_ ?_ _) | go_size | omega | (simp; omega))
    have hS13 := hB13.size
    clear hb13
    go_wp2_with fail
    refine (belowE (fixed_Sum (fun i => (HZ.out i).1) _ (HL.out.below hB13))).mono ?_
    rintro r w14 ⟨rfl, hb14⟩
    have hB14 : Below w.heap.size w w14 := by repeat' (first | (with_reducible exact Below.refl _ _) | (with_reducible assumption) | (with_reducible refine Below.trans ?_ (Below.mono hb14 ?_)) | (with_reducible refine Below.alloc ?_ ?_ _) | (with_reducible refine below_drewN ?_ _) | (with_reducible refine Below.drew ?_) | (with_reducible refine Below.setCell ?_ ?_ _) | go_size | omega | (simp; omega))
    have hS14 := hB14.size
    clear hb14
    go_wp2_with fail
    refine (belowE (ref4_Sum HZ.out _ (HL.out.below hB14))).mono ?_
    rintro r w15 ⟨rfl, hb15⟩
    have hB15 : Below w.heap.size w w15 := by repeat' (first | (with_reducible exact Below.refl _ _) | (with_reducible assumption) | (with_reducible refine Below.trans ?_ (Below.mono hb15 ?_)) | (with_reducible refine Below.alloc ?_ ?_ _) | (with_reducible refine below_drewN ?_ _) | (with_reducible refine Below.drew ?_) | (with_reducible refine Below.setCell ?_ ?_ _) | go_size | omega | (simp; omega))
    have hS15 := hB15.size
    clear hb15
    go_wp2_with fail
    go_ret
    exact ⟨rfl, hB15⟩
theorem tells4_law (a b m : Int) {s : Option Addr} {len cap : Nat} {Z : Nat → Int} (w0 : (Lit.int .u64 a).wf = true) (w1 : (Lit.int .u64 b).wf = true) (w2 : (Lit.int .u64 m).wf = true) (w : World) (hZ : ∀ i, 0 ≤ Z i ∧ Z i < 18446744073709551616) (hl : IsInts w s len Z) :
    Calls Try.prog 3 #[.int .u64 a, .int .u64 b, .int .u64 m, .slice s len cap] w fun r w' => r = .returned (.bool true) ∧ Below w.heap.size w w' :=
  tells4_walk a b m (u64c w0).1 (u64c w0).2 (u64c w1).1 (u64c w1).2 (u64c w2).1 (u64c w2).2 w hZ hl
end Go.Proofs.Ytgmgjbdbdekopaa
