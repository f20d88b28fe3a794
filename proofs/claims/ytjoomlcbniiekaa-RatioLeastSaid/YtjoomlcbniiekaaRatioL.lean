/- The walks of the laws of the layer ratio. -/
import Derived.Test.YtjoomlcbniiekaaRatioM
set_option linter.unusedVariables false
namespace Go.Proofs.Ytjoomlcbniiekaa
open Go.RowKit Go.Shelf
attribute [local go_sem ↓] lt_alloc

def cN4 (i : Nat) : Int := [1, 2, 1, 2].getD i 0
def cD4 (i : Nat) : Int := [0, 3, 2, 4].getD i 0
def cN1 (i : Nat) : Int := [1].getD i 0
def cD1 (i : Nat) : Int := [0].getD i 0
theorem cN4_U : InU cN4 := by intro i; unfold cN4; rcases i with _ | _ | _ | _ | i <;> simp
theorem cD4_U : InU cD4 := by intro i; unfold cD4; rcases i with _ | _ | _ | _ | i <;> simp
theorem cN1_U : InU cN1 := by intro i; unfold cN1; rcases i with _ | i <;> simp
theorem cD1_U : InU cD1 := by intro i; unfold cD1; rcases i with _ | i <;> simp
set_option maxRecDepth 100000 in
set_option maxHeartbeats 4000000 in
theorem awake3_any (w : World) : Calls Try.prog 9 #[] w fun r w' => r = .returned (.bool true) ∧ Below w.heap.size w w' := by
  have e1 : rCmp 1 3 2 6 = 0 := by decide
  have e2 : rErr 3 6 = 0 := by decide
  have e3 : rCmp 18446744073709551615 18446744073709551614 18446744073709551614 18446744073709551613 = -1 := by decide
  have e4 : rErr 0 1 = 20 := by decide
  have e5 : partV (7 * 5 / 4) 4 = 8 := by decide
  have e6 : partE (7 * 5 / 4) 4 = 0 := by decide
  have e7 : partV (ceilQ (7 * 5) 4) 4 = 9 := by decide
  have e8 : partE (ceilQ (7 * 5) 4) 4 = 0 := by decide
  have e9 : partV (nearQ (7 * 5) 4) 4 = 9 := by decide
  have e10 : partE (nearQ (7 * 5) 4) 4 = 0 := by decide
  have e11 : partE (9223372036854775808 * 2 / 1) 1 = 10 := by decide
  have e12 : partE (nearQ (1 * 1) 0) 0 = 20 := by decide
  have l1 : lst cN4 cD4 4 = (2, true) := by decide
  have l2 : lst cN1 cD1 1 = (0, false) := by decide
  go_enter Try.func9, Try.ntmps9
  go_wp2_with fail
  refine (ratio_Cmp 1 3 2 6 (by decide) (by decide) (by decide) (by decide) (by decide) (by decide) (by decide) (by decide) _).mono ?_
  rintro r w1 ⟨rfl, hb1⟩
  have hB1 : Below w.heap.size w w1 := by repeat' (first | (with_reducible exact Below.refl _ _) | (with_reducible assumption) | (with_reducible refine Below.trans ?_ (Below.mono hb1 ?_)) | (with_reducible refine Below.alloc ?_ ?_ _) | (with_reducible refine below_drewN ?_ _) | (with_reducible refine Below.drew ?_) | (with_reducible refine Below.setCell ?_ ?_ _) | go_size | omega | (simp; omega))
  have hS1 := hB1.size
  clear hb1
  go_wp2_with fail
  refine (ratio_Cmp _ _ _ _ (by decide) (by decide) (by decide) (by decide) (by decide) (by decide) (by decide) (by decide) _).mono ?_
  rintro r w2 ⟨rfl, hb2⟩
  have hB2 : Below w.heap.size w w2 := by repeat' (first | (with_reducible exact Below.refl _ _) | (with_reducible assumption) | (with_reducible refine Below.trans ?_ (Below.mono hb2 ?_)) | (with_reducible refine Below.alloc ?_ ?_ _) | (with_reducible refine below_drewN ?_ _) | (with_reducible refine Below.drew ?_) | (with_reducible refine Below.setCell ?_ ?_ _) | go_size | omega | (simp; omega))
  have hS2 := hB2.size
  clear hb2
  go_wp2_with fail
  refine (ratio_Cmp _ _ _ _ (by decide) (by decide) (by decide) (by decide) (by decide) (by decide) (by decide) (by decide) _).mono ?_
  rintro r w3 ⟨rfl, hb3⟩
  have hB3 : Below w.heap.size w w3 := by repeat' (first | (with_reducible exact Below.refl _ _) | (with_reducible assumption) | (with_reducible refine Below.trans ?_ (Below.mono hb3 ?_)) | (with_reducible refine Below.alloc ?_ ?_ _) | (with_reducible refine below_drewN ?_ _) | (with_reducible refine Below.drew ?_) | (with_reducible refine Below.setCell ?_ ?_ _) | go_size | omega | (simp; omega))
  have hS3 := hB3.size
  clear hb3
  go_wp2_with fail
  refine (ratio_Least w3.heap.size 0 4 4 cN4 cD4 cN4_U cD4_U (by decide) _ (by intro i hi; rcases i with _ | _ | _ | _ | i <;> first | omega | (simp [cN4, cD4, go_sem]; done))).mono ?_
  rintro r w4 ⟨rfl, hb4⟩
  have hB4 : Below w.heap.size w w4 := by repeat' (first | (with_reducible exact Below.refl _ _) | (with_reducible assumption) | (with_reducible refine Below.trans ?_ (Below.mono hb4 ?_)) | (with_reducible refine Below.alloc ?_ ?_ _) | (with_reducible refine below_drewN ?_ _) | (with_reducible refine Below.drew ?_) | (with_reducible refine Below.setCell ?_ ?_ _) | go_size | omega | (simp; omega))
  have hS4 := hB4.size
  clear hb4
  go_wp2_with fail
  refine (ratio_Least w4.heap.size 0 1 1 cN1 cD1 cN1_U cD1_U (by decide) _ (by intro i hi; rcases i with _ | i <;> first | omega | (simp [cN1, cD1, go_sem]; done))).mono ?_
  rintro r w5 ⟨rfl, hb5⟩
  have hB5 : Below w.heap.size w w5 := by repeat' (first | (with_reducible exact Below.refl _ _) | (with_reducible assumption) | (with_reducible refine Below.trans ?_ (Below.mono hb5 ?_)) | (with_reducible refine Below.alloc ?_ ?_ _) | (with_reducible refine below_drewN ?_ _) | (with_reducible refine Below.drew ?_) | (with_reducible refine Below.setCell ?_ ?_ _) | go_size | omega | (simp; omega))
  have hS5 := hB5.size
  clear hb5
  go_wp2_with fail
  refine (ratio_Floor _ _ _ (by decide) (by decide) (by decide) (by decide) (by decide) (by decide) _).mono ?_
  rintro r w6 ⟨rfl, hb6⟩
  have hB6 : Below w.heap.size w w6 := by repeat' (first | (with_reducible exact Below.refl _ _) | (with_reducible assumption) | (with_reducible refine Below.trans ?_ (Below.mono hb6 ?_)) | (with_reducible refine Below.alloc ?_ ?_ _) | (with_reducible refine below_drewN ?_ _) | (with_reducible refine Below.drew ?_) | (with_reducible refine Below.setCell ?_ ?_ _) | go_size | omega | (simp; omega))
  have hS6 := hB6.size
  clear hb6
  go_wp2_with fail
  refine (ratio_Ceil _ _ _ (by decide) (by decide) (by decide) (by decide) (by decide) (by decide) _).mono ?_
  rintro r w7 ⟨rfl, hb7⟩
  have hB7 : Below w.heap.size w w7 := by repeat' (first | (with_reducible exact Below.refl _ _) | (with_reducible assumption) | (with_reducible refine Below.trans ?_ (Below.mono hb7 ?_)) | (with_reducible refine Below.alloc ?_ ?_ _) | (with_reducible refine below_drewN ?_ _) | (with_reducible refine Below.drew ?_) | (with_reducible refine Below.setCell ?_ ?_ _) | go_size | omega | (simp; omega))
  have hS7 := hB7.size
  clear hb7
  go_wp2_with fail
  refine (ratio_Near _ _ _ (by decide) (by decide) (by decide) (by decide) (by decide) (by decide) _).mono ?_
  rintro r w8 ⟨rfl, hb8⟩
  have hB8 : Below w.heap.size w w8 := by repeat' (first | (with_reducible exact Below.refl _ _) | (with_reducible assumption) | (with_reducible refine Below.trans ?_ (Below.mono hb8 ?_)) | (with_reducible refine Below.alloc ?_ ?_ _) | (with_reducible refine below_drewN ?_ _) | (with_reducible refine Below.drew ?_) | (with_reducible refine Below.setCell ?_ ?_ _) | go_size | omega | (simp; omega))
  have hS8 := hB8.size
  clear hb8
  go_wp2_with fail
  refine (ratio_Floor _ _ _ (by decide) (by decide) (by decide) (by decide) (by decide) (by decide) _).mono ?_
  rintro r w9 ⟨rfl, hb9⟩
  have hB9 : Below w.heap.size w w9 := by repeat' (first | (with_reducible exact Below.refl _ _) | (with_reducible assumption) | (with_reducible refine Below.trans ?_ (Below.mono hb9 ?_)) | (with_reducible refine Below.alloc ?_ ?_ _) | (with_reducible refine below_drewN ?_ _) | (with_reducible refine Below.drew ?_) | (with_reducible refine Below.setCell ?_ ?_ _) | go_size | omega | (simp; omega))
  have hS9 := hB9.size
  clear hb9
  go_wp2_with fail
  refine (ratio_Near _ _ _ (by decide) (by decide) (by decide) (by decide) (by decide) (by decide) _).mono ?_
  rintro r w10 ⟨rfl, hb10⟩
  have hB10 : Below w.heap.size w w10 := by repeat' (first | (with_reducible exact Below.refl _ _) | (with_reducible assumption) | (with_reducible refine Below.trans ?_ (Below.mono hb10 ?_)) | (with_reducible refine Below.alloc ?_ ?_ _) | (with_reducible refine below_drewN ?_ _) | (with_reducible refine Below.drew ?_) | (with_reducible refine Below.setCell ?_ ?_ _) | go_size | omega | (simp; omega))
  have hS10 := hB10.size
  clear hb10
  go_wp2_with fail
  go_ret
  exact ⟨rfl, hB10⟩

theorem u64c {a : Int} (h : (Lit.int .u64 a).wf = true) : 0 ≤ a ∧ a < 18446744073709551616 := by have := bounds_u64 h; omega
theorem partE_0 {q c : Int} (hc : 0 ≤ c) : partE q c = 0 → 0 < c ∧ q < 18446744073709551616 ∧ partV q c = q := by
  unfold partE partV; repeat' split <;> omega
theorem nm {n : Int} : ∃ m, n = m := ⟨_, rfl⟩
theorem ceil_falls {p c d : Int} (p0 : 0 ≤ p) (c0 : 0 < c) (h : c ≤ d) : ceilQ p d ≤ ceilQ p c := by
  unfold ceilQ
  rw [show max d 1 = d from by omega, show max c 1 = c from by omega]
  have e := Int.emod_add_mul_ediv (p + (c - 1)) c
  have e2 := Int.emod_lt_of_pos (p + (c - 1)) c0
  have k0 : 0 ≤ (p + (c - 1)) / c := Int.ediv_nonneg (by omega) (by omega)
  generalize (p + (c - 1)) / c = k at *
  have h1 : k * c ≤ k * d := Int.mul_le_mul_of_nonneg_left h k0
  have h2 : c * k = k * c := Int.mul_comm _ _
  have h3 : (p + (d - 1)) / d < k + 1 := Int.ediv_lt_of_lt_mul (by omega) (by rw [Int.add_mul, Int.one_mul]; omega)
  omega
theorem rises_facts {a b c d : Int} (a0 : 0 ≤ a) (b0 : 0 ≤ b) (c0 : 0 ≤ c) (d0 : 0 ≤ d) :
    (partE (min a d * b / c) c = 0 → partE (max a d * b / c) c = 0 → partV (min a d * b / c) c ≤ partV (max a d * b / c) c) ∧
    (partE (min a d * b / c) c = 0 ∨ partE (max a d * b / c) c = partE (min a d * b / c) c) ∧
    (partE (ceilQ (a * b) (min c d)) (min c d) = 0 → partE (ceilQ (a * b) (max c d)) (max c d) = 0 → partV (ceilQ (a * b) (max c d)) (max c d) ≤ partV (ceilQ (a * b) (min c d)) (min c d)) := by
  have hm : min a d * b ≤ max a d * b := Int.mul_le_mul_of_nonneg_right (by omega) b0
  refine ⟨fun h1 h2 => ?_, ?_, fun h1 h2 => ?_⟩
  · obtain ⟨c1, _, e1⟩ := partE_0 c0 h1
    obtain ⟨_, _, e2⟩ := partE_0 c0 h2
    rw [e1, e2]; exact Int.ediv_le_ediv c1 hm
  · by_cases hc : c = 0
    · subst hc; right; rw [partE_z, partE_z]
    · have := Int.ediv_le_ediv (show 0 < c by omega) hm
      unfold partE; rw [if_neg hc, if_neg hc]; repeat' split <;> omega
  · obtain ⟨c1, _, e1⟩ := partE_0 (by omega) h1
    obtain ⟨_, _, e2⟩ := partE_0 (by omega) h2
    rw [e1, e2]; exact ceil_falls (Int.mul_nonneg a0 b0) c1 (by omega)
set_option maxRecDepth 100000 in
set_option maxHeartbeats 4000000 in
theorem rises_walk (a b c d : Int) (a0 : 0 ≤ a) (a1 : a < 18446744073709551616) (b0 : 0 ≤ b) (b1 : b < 18446744073709551616) (c0 : 0 ≤ c) (c1 : c < 18446744073709551616) (d0 : 0 ≤ d) (d1 : d < 18446744073709551616) (w : World) :
    Calls Try.prog 8 #[.int .u64 a, .int .u64 b, .int .u64 c, .int .u64 d] w fun r w' => r = .returned (.bool true) ∧ Below w.heap.size w w' := by
  obtain ⟨f1, f2, f3⟩ := rises_facts a0 b0 c0 d0
  have k2 := fun w => ratio_Floor (min a d) b c (by omega) (by omega) b0 b1 c0 c1 w
  have k3 := fun w => ratio_Floor (max a d) b c (by omega) (by omega) b0 b1 c0 c1 w
  have k4 := fun w => ratio_Ceil a b (min c d) a0 a1 b0 b1 (by omega) (by omega) w
  have k5 := fun w => ratio_Ceil a b (max c d) a0 a1 b0 b1 (by omega) (by omega) w
  generalize partE (min a d * b / c) c = e at *
  generalize partV (min a d * b / c) c = x at *
  generalize partE (max a d * b / c) c = f at *
  generalize partV (max a d * b / c) c = y at *
  generalize partE (ceilQ (a * b) (min c d)) (min c d) = g at *
  generalize partV (ceilQ (a * b) (min c d)) (min c d) = z at *
  generalize partE (ceilQ (a * b) (max c d)) (max c d) = h at *
  generalize partV (ceilQ (a * b) (max c d)) (max c d) = v at *
  have F1 := Lib.hid f1; have F2 := Lib.hid f2; have F3 := Lib.hid f3
  clear f1 f2 f3
  go_enter Try.func8, Try.ntmps8
  go_wp2_with fail
  refine (awake3_any _).mono ?_
  rintro r w1 ⟨rfl, hb1⟩
  have hB1 : Below w.heap.size w w1 := by repeat' (first | (with_reducible exact Below.refl _ _) | (with_reducible assumption) | (with_reducible refine Below.trans ?_ (Below.mono hb1 ?_)) | (with_reducible refine Below.alloc ?_ ?_ _) | (with_reducible refine below_drewN ?_ _) | (with_reducible refine Below.drew ?_) | (with_reducible refine Below.setCell ?_ ?_ _) | go_size | omega | (simp; omega))
  have hS1 := hB1.size
  clear hb1
  go_wp2_with fail
  refine (k2 _).mono ?_
  rintro r w2 ⟨rfl, hb2⟩
  have hB2 : Below w.heap.size w w2 := by repeat' (first | (with_reducible exact Below.refl _ _) | (with_reducible assumption) | (with_reducible refine Below.trans ?_ (Below.mono hb2 ?_)) | (with_reducible refine Below.alloc ?_ ?_ _) | (with_reducible refine below_drewN ?_ _) | (with_reducible refine Below.drew ?_) | (with_reducible refine Below.setCell ?_ ?_ _) | go_size | omega | (simp; omega))
  have hS2 := hB2.size
  clear hb2
  go_wp2_with fail
  refine (k3 _).mono ?_
  rintro r w3 ⟨rfl, hb3⟩
  have hB3 : Below w.heap.size w w3 := by repeat' (first | (with_reducible exact Below.refl _ _) | (with_reducible assumption) | (with_reducible refine Below.trans ?_ (Below.mono hb3 ?_)) | (with_reducible refine Below.alloc ?_ ?_ _) | (with_reducible refine below_drewN ?_ _) | (with_reducible refine Below.drew ?_) | (with_reducible refine Below.setCell ?_ ?_ _) | go_size | omega | (simp; omega))
  have hS3 := hB3.size
  clear hb3
  go_wp2_with fail
  refine (k4 _).mono ?_
  rintro r w4 ⟨rfl, hb4⟩
  have hB4 : Below w.heap.size w w4 := by repeat' (first | (with_reducible exact Below.refl _ _) | (with_reducible assumption) | (with_reducible refine Below.trans ?_ (Below.mono hb4 ?_)) | (with_reducible refine Below.alloc ?_ ?_ _) | (with_reducible refine below_drewN ?_ _) | (with_reducible refine Below.drew ?_) | (with_reducible refine Below.setCell ?_ ?_ _) | go_size | omega | (simp; omega))
  have hS4 := hB4.size
  clear hb4
  go_wp2_with fail
  refine (k5 _).mono ?_
  rintro r w5 ⟨rfl, hb5⟩
  have hB5 : Below w.heap.size w w5 := by repeat' (first | (with_reducible exact Below.refl _ _) | (with_reducible assumption) | (with_reducible refine Below.trans ?_ (Below.mono hb5 ?_)) | (with_reducible refine Below.alloc ?_ ?_ _) | (with_reducible refine below_drewN ?_ _) | (with_reducible refine Below.drew ?_) | (with_reducible refine Below.setCell ?_ ?_ _) | go_size | omega | (simp; omega))
  have hS5 := hB5.size
  clear hb5
  clear k2 k3 k4 k5
  go_wp2_with fail
  all_goals
    have oF1 := F1.out
    have oF2 := F2.out
    have oF3 := F3.out
    first
      | (go_ret; exact ⟨rfl, hB5⟩)
      | (exfalso; omega)
      | (go_ret; refine ⟨ret_b ?_, hB5⟩; first | assumption | (simp; omega) | (simp_all; done) | (rw [Bool.eq_iff_iff]; simp_all; done))
theorem rises_law (a b c d : Int) (w0 : (Lit.int .u64 a).wf = true) (w1 : (Lit.int .u64 b).wf = true) (w2 : (Lit.int .u64 c).wf = true) (w3 : (Lit.int .u64 d).wf = true) (w : World) :
    Calls Try.prog 8 #[.int .u64 a, .int .u64 b, .int .u64 c, .int .u64 d] w fun r w' => r = .returned (.bool true) ∧ Below w.heap.size w w' :=
  rises_walk a b c d (u64c w0).1 (u64c w0).2 (u64c w1).1 (u64c w1).2 (u64c w2).1 (u64c w2).2 (u64c w3).1 (u64c w3).2 w
end Go.Proofs.Ytjoomlcbniiekaa
