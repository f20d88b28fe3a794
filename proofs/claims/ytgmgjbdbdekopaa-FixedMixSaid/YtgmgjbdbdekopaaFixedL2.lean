/- The walks of the laws of the layer fixed, second part: FixedParts and FixedMix. -/
import Derived.Test.YtgmgjbdbdekopaaFixedL
set_option linter.unusedVariables false
namespace Go.Proofs.Ytgmgjbdbdekopaa
open Go.RowKit Go.Shelf
attribute [local go_sem ↓] lt_alloc

theorem fx_one {n : Int} (n0 : 0 ≤ n) (n1 : n < 65536) : fxV n 1 = n * 4294967296 ∧ fxE n 1 = 0 := by
  unfold fxV fxE partV partE
  rw [Int.ediv_one]
  exact ⟨by rw [if_neg (by decide), if_neg (by omega)], by rw [if_neg (by decide), if_neg (by omega)]⟩
theorem parts4_facts {a n m : Int} (a0 : 0 ≤ a) (a1 : a < 18446744073709551616) (n0 : 0 ≤ n) (n1 : n < 65536) (m0 : 0 ≤ m) (m1 : m < 65536) :
    mulF (n * 4294967296) (m * 4294967296) = n * m * 4294967296 ∧ mulF a 4294967296 = a ∧ 0 ≤ n * m ∧ n * m < 4294967296 := by
  have h0 := Int.mul_nonneg n0 m0
  have h1 : n * m ≤ 65535 * m := Int.mul_le_mul_of_nonneg_right (by omega) m0
  have e : n * 4294967296 * (m * 4294967296) = n * m * 18446744073709551616 := by grind
  unfold mulF
  rw [e]
  generalize n * m = p at *
  exact ⟨by omega, by omega, h0, by omega⟩
set_option maxRecDepth 100000 in
theorem parts4_walk (a n m : Int) (a0 : 0 ≤ a) (a1 : a < 18446744073709551616) (n0 : 0 ≤ n) (n1 : n < 65536) (m0 : 0 ≤ m) (m1 : m < 65536) (w : World) :
    Calls Try.prog 4 #[.int .u64 a, .int .u16 n, .int .u16 m] w fun r w' => r = .returned (.bool true) ∧ Below w.heap.size w w' := by
  obtain ⟨f1, f2, p0, p1⟩ := parts4_facts a0 a1 n0 n1 m0 m1
  have k2 := fun w => fixed_Of n 1 n0 (by omega) (by decide) (by decide) w
  have k3 := fun w => fixed_Of m 1 m0 (by omega) (by decide) (by decide) w
  rw [(fx_one n0 n1).1, (fx_one n0 n1).2] at k2
  rw [(fx_one m0 m1).1, (fx_one m0 m1).2] at k3
  have k4 := fun w => fixed_Mul (n * 4294967296) (m * 4294967296) (by omega) (by omega) (by omega) (by omega) w
  rw [f1] at k4
  have k10 := fun w => fixed_Mul a 4294967296 a0 a1 (by decide) (by decide) w
  rw [f2] at k10
  clear f1 f2
  have q1 : n * m * 4294967296 / 4294967296 = n * m := by omega
  have q2 : n * m * 4294967296 % 4294967296 = 0 := by omega
  have q3 : n * 4294967296 / 4294967296 = n := by omega
  have q4 : (a / 4294967296 * 4294967296 + a % 4294967296 == a) = true := by simp; omega
  have k5 := fun w => belowE (fixed_Whole a a0 a1 w)
  have k6 := fun w => belowE (fixed_Part a a0 a1 w)
  have k8 := fun w => belowE (fixed_Whole (n * m * 4294967296) (by omega) (by omega) w)
  have k9 := fun w => belowE (fixed_Part (n * m * 4294967296) (by omega) (by omega) w)
  have k11 := fun w => belowE (fixed_Whole (n * 4294967296) (by omega) (by omega) w)
  rw [q1] at k8
  rw [q2] at k9
  rw [q3] at k11
  clear q1 q2 q3
  go_enter Try.func4, Try.ntmps4
  go_wp2_with fail
  refine (awake4_any _).mono ?_
  rintro r w1 ⟨rfl, hb1⟩
  have hB1 : Below w.heap.size w w1 := by repeat' (first | (with_reducible exact Below.refl _ _) | (with_reducible assumption) | (with_reducible refine Below.trans ?_ (Below.mono hb1 ?_)) | (with_reducible refine Below.alloc ?_ ?_ _) | (with_reducible refine below_drewN ?_ _) | (with_reducible refine Below.drew ?_) | (with_reducible refine Below.setCell ?_ ?_ _) | go_size | omega | (simp; omega))
  have hS1 := hB1.size
  clear hb1
  go_wp2_with fail
  refine (k2 _).mono ?_
  rintro r w2 ⟨rfl, hb2⟩
  have hB2 : Below w.heap.size w w2 := by repeat' (first | (with_reducible exact Below.refl _ _) | (with_reducible assumption) | (with_reducible refine Below.trans ?_ (Below.mono hb2 ?_)) | (with_reducible refine Below.alloc ?_ ?_ _) | (with_reducible refine below_drewN ?_ _) | (with_reducible refine Below.drew ?_) | (with_reducible refine Below.setCell ?_ ?_ _) | go_size | omega | (simp; omega))
  have hS2 := hB2.size
  clear hb2
  go_wp2_with fail
  refine (k3 _).mono ?_
  rintro r w3 ⟨rfl, hb3⟩
  have hB3 : Below w.heap.size w w3 := by repeat' (first | (with_reducible exact Below.refl _ _) | (with_reducible assumption) | (with_reducible refine Below.trans ?_ (Below.mono hb3 ?_)) | (with_reducible refine Below.alloc ?_ ?_ _) | (with_reducible refine below_drewN ?_ _) | (with_reducible refine Below.drew ?_) | (with_reducible refine Below.setCell ?_ ?_ _) | go_size | omega | (simp; omega))
  have hS3 := hB3.size
  clear hb3
  go_wp2_with fail
  refine (k4 _).mono ?_
  rintro r w4 ⟨rfl, hb4⟩
  have hB4 : Below w.heap.size w w4 := by repeat' (first | (with_reducible exact Below.refl _ _) | (with_reducible assumption) | (with_reducible refine Below.trans ?_ (Below.mono hb4 ?_)) | (with_reducible refine Below.alloc ?_ ?_ _) | (with_reducible refine below_drewN ?_ _) | (with_reducible refine Below.drew ?_) | (with_reducible refine Below.setCell ?_ ?_ _) | go_size | omega | (simp; omega))
  have hS4 := hB4.size
  clear hb4
  go_wp2_with fail
  refine (k5 _).mono ?_
  rintro r w5 ⟨rfl, hb5⟩
  have hB5 : Below w.heap.size w w5 := by repeat' (first | (with_reducible exact Below.refl _ _) | (with_reducible assumption) | (with_reducible refine Below.trans ?_ (Below.mono hb5 ?_)) | (with_reducible refine Below.alloc ?_ ?_ _) | (with_reducible refine below_drewN ?_ _) | (with_reducible refine Below.drew ?_) | (with_reducible refine Below.setCell ?_ ?_ _) | go_size | omega | (simp; omega))
  have hS5 := hB5.size
  clear hb5
  go_wp2_with fail
  refine (k6 _).mono ?_
  rintro r w6 ⟨rfl, hb6⟩
  have hB6 : Below w.heap.size w w6 := by repeat' (first | (with_reducible exact Below.refl _ _) | (with_reducible assumption) | (with_reducible refine Below.trans ?_ (Below.mono hb6 ?_)) | (with_reducible refine Below.alloc ?_ ?_ _) | (with_reducible refine below_drewN ?_ _) | (with_reducible refine Below.drew ?_) | (with_reducible refine Below.setCell ?_ ?_ _) | go_size | omega | (simp; omega))
  have hS6 := hB6.size
  clear hb6
  go_wp2_with fail
  refine (k6 _).mono ?_
  rintro r w7 ⟨rfl, hb7⟩
  have hB7 : Below w.heap.size w w7 := by repeat' (first | (with_reducible exact Below.refl _ _) | (with_reducible assumption) | (with_reducible refine Below.trans ?_ (Below.mono hb7 ?_)) | (with_reducible refine Below.alloc ?_ ?_ _) | (with_reducible refine below_drewN ?_ _) | (with_reducible refine Below.drew ?_) | (with_reducible refine Below.setCell ?_ ?_ _) | go_size | omega | (simp; omega))
  have hS7 := hB7.size
  clear hb7
  go_wp2_with fail
  refine (k8 _).mono ?_
  rintro r w8 ⟨rfl, hb8⟩
  have hB8 : Below w.heap.size w w8 := by repeat' (first | (with_reducible exact Below.refl _ _) | (with_reducible assumption) | (with_reducible refine Below.trans ?_ (Below.mono hb8 ?_)) | (with_reducible refine Below.alloc ?_ ?_ _) | (with_reducible refine below_drewN ?_ _) | (with_reducible refine Below.drew ?_) | (with_reducible refine Below.setCell ?_ ?_ _) | go_size | omega | (simp; omega))
  have hS8 := hB8.size
  clear hb8
  go_wp2_with fail
  refine (k9 _).mono ?_
  rintro r w9 ⟨rfl, hb9⟩
  have hB9 : Below w.heap.size w w9 := by repeat' (first | (with_reducible exact Below.refl _ _) | (with_reducible assumption) | (with_reducible refine Below.trans ?_ (Below.mono hb9 ?_)) | (with_reducible refine Below.alloc ?_ ?_ _) | (with_reducible refine below_drewN ?_ _) | (with_reducible refine Below.drew ?_) | (with_reducible refine Below.setCell ?_ ?_ _) | go_size | omega | (simp; omega))
  have hS9 := hB9.size
  clear hb9
  go_wp2_with fail
  refine (k10 _).mono ?_
  rintro r w10 ⟨rfl, hb10⟩
  have hB10 : Below w.heap.size w w10 := by repeat' (first | (with_reducible exact Below.refl _ _) | (with_reducible assumption) | (with_reducible refine Below.trans ?_ (Below.mono hb10 ?_)) | (with_reducible refine Below.alloc ?_ ?_ _) | (with_reducible refine below_drewN ?_ _) | (with_reducible refine Below.drew ?_) | (with_reducible refine Below.setCell ?_ ?_ _) | go_size | omega | (simp; omega))
  have hS10 := hB10.size
  clear hb10
  go_wp2_with fail
  refine (k11 _).mono ?_
  rintro r w11 ⟨rfl, hb11⟩
  have hB11 : Below w.heap.size w w11 := by repeat' (first | (with_reducible exact Below.refl _ _) | (with_reducible assumption) | (with_reducible refine Below.trans ?_ (Below.mono hb11 ?_)) | (with_reducible refine Below.alloc ?_ ?_ _) | (with_reducible refine below_drewN ?_ _) | (with_reducible refine Below.drew ?_) | (with_reducible refine Below.setCell ?_ ?_ _) | go_size | omega | (simp; omega))
  have hS11 := hB11.size
  clear hb11
  go_wp2_with fail
  go_ret
  exact ⟨rfl, hB11⟩
theorem parts4_law (a n m : Int) (w0 : (Lit.int .u64 a).wf = true) (w1 : (Lit.int .u16 n).wf = true) (w2 : (Lit.int .u16 m).wf = true) (w : World) :
    Calls Try.prog 4 #[.int .u64 a, .int .u16 n, .int .u16 m] w fun r w' => r = .returned (.bool true) ∧ Below w.heap.size w w' := by
  have h1 := bounds_u16 w1; have h2 := bounds_u16 w2
  exact parts4_walk a n m (u64c w0).1 (u64c w0).2 (by omega) (by omega) (by omega) (by omega) w
theorem mix_rises {a b w v : Int} (hab : a ≤ b) (h : w ≤ v) : mixF a b w ≤ mixF a b v := by
  have h1 : (b - a) * min w 4294967296 ≤ (b - a) * min v 4294967296 := Int.mul_le_mul_of_nonneg_left (by omega) (by omega)
  unfold mixF
  have e : ∀ x : Int, b * x + a * (4294967296 - x) = (b - a) * x + a * 4294967296 := fun x => by grind
  rw [e, e]
  omega
theorem mix_facts {a b w v : Int} (a0 : 0 ≤ a) (a1 : a < 18446744073709551616) (b0 : 0 ≤ b) (b1 : b < 18446744073709551616) (w0 : 0 ≤ w) (v0 : 0 ≤ v) :
    mixF a b 0 = a ∧ mixF a b (max w 4294967296) = b ∧ mixF a a w = a := by
  have hB := mixF_bd a0 a1 a0 a1 w0
  refine ⟨?_, ?_, by omega⟩
  · unfold mixF; rw [show min (0 : Int) 4294967296 = 0 from by decide]; omega
  · unfold mixF; rw [show min (max w 4294967296) 4294967296 = 4294967296 from by omega]; omega
set_option maxRecDepth 100000 in
theorem mix4_walk (a b m v : Int) (a0 : 0 ≤ a) (a1 : a < 18446744073709551616) (b0 : 0 ≤ b) (b1 : b < 18446744073709551616) (m0 : 0 ≤ m) (m1 : m < 18446744073709551616) (v0 : 0 ≤ v) (v1 : v < 18446744073709551616) (w : World) :
    Calls Try.prog 5 #[.int .u64 a, .int .u64 b, .int .u64 m, .int .u64 v] w fun r w' => r = .returned (.bool true) ∧ Below w.heap.size w w' := by
  obtain ⟨f1, f2, f3⟩ := mix_facts (v := v) a0 a1 b0 b1 m0 v0
  obtain ⟨g1, g2⟩ := mixF_bd a0 a1 b0 b1 m0
  have k2 := fun w => fixed_Mix a b m a0 a1 b0 b1 m0 m1 w
  have k3 := fun w => fixed_Mix a b v a0 a1 b0 b1 v0 v1 w
  have k4 := fun w => fixed_Mix a b 0 a0 a1 b0 b1 (by decide) (by decide) w
  have k5 := fun w => fixed_Mix a b (max m 4294967296) a0 a1 b0 b1 (by omega) (by omega) w
  have k6 := fun w => fixed_Mix a a m a0 a1 a0 a1 m0 m1 w
  have r1 : a ≤ b → m ≤ v → mixF a b m ≤ mixF a b v := mix_rises
  have r2 : a ≤ b → v ≤ m → mixF a b v ≤ mixF a b m := mix_rises
  rw [f1] at k4
  rw [f2] at k5
  rw [f3] at k6
  clear f1 f2 f3
  generalize mixF a b m = x at *
  generalize mixF a b v = y at *
  rcases Int.lt_or_le b a with hab | hab
  · clear r1 r2
    go_enter Try.func5, Try.ntmps5
    go_wp2_with fail
    refine (awake4_any _).mono ?_
    rintro r w1 ⟨rfl, hb1⟩
    have hB1 : Below w.heap.size w w1 := by repeat' (first | (with_reducible exact Below.refl _ _) | (with_reducible assumption) | (with_reducible refine Below.trans ?_ (Below.mono hb1 ?_)) | (with_reducible refine Below.alloc ?_ ?_ _) | (with_reducible refine below_drewN ?_ _) | (with_reducible refine Below.drew ?_) | (with_reducible refine Below.setCell ?_ ?_ _) | go_size | omega | (simp; omega))
    have hS1 := hB1.size
    clear hb1
    go_wp2_with fail
    refine (k2 _).mono ?_
    rintro r w2 ⟨rfl, hb2⟩
    have hB2 : Below w.heap.size w w2 := by repeat' (first | (with_reducible exact Below.refl _ _) | (with_reducible assumption) | (with_reducible refine Below.trans ?_ (Below.mono hb2 ?_)) | (with_reducible refine Below.alloc ?_ ?_ _) | (with_reducible refine below_drewN ?_ _) | (with_reducible refine Below.drew ?_) | (with_reducible refine Below.setCell ?_ ?_ _) | go_size | omega | (simp; omega))
    have hS2 := hB2.size
    clear hb2
    go_wp2_with fail
    refine (k3 _).mono ?_
    rintro r w3 ⟨rfl, hb3⟩
    have hB3 : Below w.heap.size w w3 := by repeat' (first | (with_reducible exact Below.refl _ _) | (with_reducible assumption) | (with_reducible refine Below.trans ?_ (Below.mono hb3 ?_)) | (with_reducible refine Below.alloc ?_ ?_ _) | (with_reducible refine below_drewN ?_ _) | (with_reducible refine Below.drew ?_) | (with_reducible refine Below.setCell ?_ ?_ _) | go_size | omega | (simp; omega))
    have hS3 := hB3.size
    clear hb3
    go_wp2_with fail
    refine (k4 _).mono ?_
    rintro r w4 ⟨rfl, hb4⟩
    have hB4 : Below w.heap.size w w4 := by repeat' (first | (with_reducible exact Below.refl _ _) | (with_reducible assumption) | (with_reducible refine Below.trans ?_ (Below.mono hb4 ?_)) | (with_reducible refine Below.alloc ?_ ?_ _) | (with_reducible refine below_drewN ?_ _) | (with_reducible refine Below.drew ?_) | (with_reducible refine Below.setCell ?_ ?_ _) | go_size | omega | (simp; omega))
    have hS4 := hB4.size
    clear hb4
    go_wp2_with fail
    refine (k5 _).mono ?_
    rintro r w5 ⟨rfl, hb5⟩
    have hB5 : Below w.heap.size w w5 := by repeat' (first | (with_reducible exact Below.refl _ _) | (with_reducible assumption) | (with_reducible refine Below.trans ?_ (Below.mono hb5 ?_)) | (with_reducible refine Below.alloc ?_ ?_ _) | (with_reducible refine below_drewN ?_ _) | (with_reducible refine Below.drew ?_) | (with_reducible refine Below.setCell ?_ ?_ _) | go_size | omega | (simp; omega))
    have hS5 := hB5.size
    clear hb5
    go_wp2_with fail
    refine (k6 _).mono ?_
    rintro r w6 ⟨rfl, hb6⟩
    have hB6 : Below w.heap.size w w6 := by repeat' (first | (with_reducible exact Below.refl _ _) | (with_reducible assumption) | (with_reducible refine Below.trans ?_ (Below.mono hb6 ?_)) | (with_reducible refine Below.alloc ?_ ?_ _) | (with_reducible refine below_drewN ?_ _) | (with_reducible refine Below.drew ?_) | (with_reducible refine Below.setCell ?_ ?_ _) | go_size | omega | (simp; omega))
    have hS6 := hB6.size
    clear hb6
    go_wp2_with fail
    go_ret
    exact ⟨rfl, hB6⟩
  · rcases Int.lt_or_le v m with hmv | hmv
    · have hx := r2 hab (by omega)
      have hmin : min m v = v := by omega
      have hne : (v == m) = false := by simp; omega
      clear r1 r2
      go_enter Try.func5, Try.ntmps5
      go_wp2_with fail
      refine (awake4_any _).mono ?_
      rintro r w1 ⟨rfl, hb1⟩
      have hB1 : Below w.heap.size w w1 := by repeat' (first | (with_reducible exact Below.refl _ _) | (with_reducible assumption) | (with_reducible refine Below.trans ?_ (Below.mono hb1 ?_)) | (with_reducible refine Below.alloc ?_ ?_ _) | (with_reducible refine below_drewN ?_ _) | (with_reducible refine Below.drew ?_) | (with_reducible refine Below.setCell ?_ ?_ _) | go_size | omega | (simp; omega))
      have hS1 := hB1.size
      clear hb1
      go_wp2_with fail
      refine (k2 _).mono ?_
      rintro r w2 ⟨rfl, hb2⟩
      have hB2 : Below w.heap.size w w2 := by repeat' (first | (with_reducible exact Below.refl _ _) | (with_reducible assumption) | (with_reducible refine Below.trans ?_ (Below.mono hb2 ?_)) | (with_reducible refine Below.alloc ?_ ?_ _) | (with_reducible refine below_drewN ?_ _) | (with_reducible refine Below.drew ?_) | (with_reducible refine Below.setCell ?_ ?_ _) | go_size | omega | (simp; omega))
      have hS2 := hB2.size
      clear hb2
      go_wp2_with fail
      refine (k3 _).mono ?_
      rintro r w3 ⟨rfl, hb3⟩
      have hB3 : Below w.heap.size w w3 := by repeat' (first | (with_reducible exact Below.refl _ _) | (with_reducible assumption) | (with_reducible refine Below.trans ?_ (Below.mono hb3 ?_)) | (with_reducible refine Below.alloc ?_ ?_ _) | (with_reducible refine below_drewN ?_ _) | (with_reducible refine Below.drew ?_) | (with_reducible refine Below.setCell ?_ ?_ _) | go_size | omega | (simp; omega))
      have hS3 := hB3.size
      clear hb3
      go_wp2_with fail
      refine (k4 _).mono ?_
      rintro r w4 ⟨rfl, hb4⟩
      have hB4 : Below w.heap.size w w4 := by repeat' (first | (with_reducible exact Below.refl _ _) | (with_reducible assumption) | (with_reducible refine Below.trans ?_ (Below.mono hb4 ?_)) | (with_reducible refine Below.alloc ?_ ?_ _) | (with_reducible refine below_drewN ?_ _) | (with_reducible refine Below.drew ?_) | (with_reducible refine Below.setCell ?_ ?_ _) | go_size | omega | (simp; omega))
      have hS4 := hB4.size
      clear hb4
      go_wp2_with fail
      refine (k5 _).mono ?_
      rintro r w5 ⟨rfl, hb5⟩
      have hB5 : Below w.heap.size w w5 := by repeat' (first | (with_reducible exact Below.refl _ _) | (with_reducible assumption) | (with_reducible refine Below.trans ?_ (Below.mono hb5 ?_)) | (with_reducible refine Below.alloc ?_ ?_ _) | (with_reducible refine below_drewN ?_ _) | (with_reducible refine Below.drew ?_) | (with_reducible refine Below.setCell ?_ ?_ _) | go_size | omega | (simp; omega))
      have hS5 := hB5.size
      clear hb5
      go_wp2_with fail
      refine (k6 _).mono ?_
      rintro r w6 ⟨rfl, hb6⟩
      have hB6 : Below w.heap.size w w6 := by repeat' (first | (with_reducible exact Below.refl _ _) | (with_reducible assumption) | (with_reducible refine Below.trans ?_ (Below.mono hb6 ?_)) | (with_reducible refine Below.alloc ?_ ?_ _) | (with_reducible refine below_drewN ?_ _) | (with_reducible refine Below.drew ?_) | (with_reducible refine Below.setCell ?_ ?_ _) | go_size | omega | (simp; omega))
      have hS6 := hB6.size
      clear hb6
      go_wp2_with fail
      go_ret
      exact ⟨rfl, hB6⟩
    · have hx := r1 hab hmv
      have hmin : min m v = m := by omega
      clear r1 r2
      go_enter Try.func5, Try.ntmps5
      go_wp2_with fail
      refine (awake4_any _).mono ?_
      rintro r w1 ⟨rfl, hb1⟩
      have hB1 : Below w.heap.size w w1 := by repeat' (first | (with_reducible exact Below.refl _ _) | (with_reducible assumption) | (with_reducible refine Below.trans ?_ (Below.mono hb1 ?_)) | (with_reducible refine Below.alloc ?_ ?_ _) | (with_reducible refine below_drewN ?_ _) | (with_reducible refine Below.drew ?_) | (with_reducible refine Below.setCell ?_ ?_ _) | go_size | omega | (simp; omega))
      have hS1 := hB1.size
      clear hb1
      go_wp2_with fail
      refine (k2 _).mono ?_
      rintro r w2 ⟨rfl, hb2⟩
      have hB2 : Below w.heap.size w w2 := by repeat' (first | (with_reducible exact Below.refl _ _) | (with_reducible assumption) | (with_reducible refine Below.trans ?_ (Below.mono hb2 ?_)) | (with_reducible refine Below.alloc ?_ ?_ _) | (with_reducible refine below_drewN ?_ _) | (with_reducible refine Below.drew ?_) | (with_reducible refine Below.setCell ?_ ?_ _) | go_size | omega | (simp; omega))
      have hS2 := hB2.size
      clear hb2
      go_wp2_with fail
      refine (k3 _).mono ?_
      rintro r w3 ⟨rfl, hb3⟩
      have hB3 : Below w.heap.size w w3 := by repeat' (first | (with_reducible exact Below.refl _ _) | (with_reducible assumption) | (with_reducible refine Below.trans ?_ (Below.mono hb3 ?_)) | (with_reducible refine Below.alloc ?_ ?_ _) | (with_reducible refine below_drewN ?_ _) | (with_reducible refine Below.drew ?_) | (with_reducible refine Below.setCell ?_ ?_ _) | go_size | omega | (simp; omega))
      have hS3 := hB3.size
      clear hb3
      go_wp2_with fail
      refine (k4 _).mono ?_
      rintro r w4 ⟨rfl, hb4⟩
      have hB4 : Below w.heap.size w w4 := by repeat' (first | (with_reducible exact Below.refl _ _) | (with_reducible assumption) | (with_reducible refine Below.trans ?_ (Below.mono hb4 ?_)) | (with_reducible refine Below.alloc ?_ ?_ _) | (with_reducible refine below_drewN ?_ _) | (with_reducible refine Below.drew ?_) | (with_reducible refine Below.setCell ?_ ?_ _) | go_size | omega | (simp; omega))
      have hS4 := hB4.size
      clear hb4
      go_wp2_with fail
      refine (k5 _).mono ?_
      rintro r w5 ⟨rfl, hb5⟩
      have hB5 : Below w.heap.size w w5 := by repeat' (first | (with_reducible exact Below.refl _ _) | (with_reducible assumption) | (with_reducible refine Below.trans ?_ (Below.mono hb5 ?_)) | (with_reducible refine Below.alloc ?_ ?_ _) | (with_reducible refine below_drewN ?_ _) | (with_reducible refine Below.drew ?_) | (with_reducible refine Below.setCell ?_ ?_ _) | go_size | omega | (simp; omega))
      have hS5 := hB5.size
      clear hb5
      go_wp2_with fail
      refine (k6 _).mono ?_
      rintro r w6 ⟨rfl, hb6⟩
      have hB6 : Below w.heap.size w w6 := by repeat' (first | (with_reducible exact Below.refl _ _) | (with_reducible assumption) | (with_reducible refine Below.trans ?_ (Below.mono hb6 ?_)) | (with_reducible refine Below.alloc ?_ ?_ _) | (with_reducible refine below_drewN ?_ _) | (with_reducible refine Below.drew ?_) | (with_reducible refine Below.setCell ?_ ?_ _) | go_size | omega | (simp; omega))
      have hS6 := hB6.size
      clear hb6
      go_wp2_with fail
      go_ret
      exact ⟨rfl, hB6⟩
theorem mix4_law (a b m v : Int) (w0 : (Lit.int .u64 a).wf = true) (w1 : (Lit.int .u64 b).wf = true) (w2 : (Lit.int .u64 m).wf = true) (w3 : (Lit.int .u64 v).wf = true) (w : World) :
    Calls Try.prog 5 #[.int .u64 a, .int .u64 b, .int .u64 m, .int .u64 v] w fun r w' => r = .returned (.bool true) ∧ Below w.heap.size w w' :=
  mix4_walk a b m v (u64c w0).1 (u64c w0).2 (u64c w1).1 (u64c w1).2 (u64c w2).1 (u64c w2).2 (u64c w3).1 (u64c w3).2 w
end Go.Proofs.Ytgmgjbdbdekopaa
