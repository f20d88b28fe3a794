/- The walks of the laws of the layer expo: ExpoRatio. -/
import Derived.Test.YtecacdghlefpfaaDoorExpoL
set_option linter.unusedVariables false
namespace Go.Proofs.YtecacdghlefpfaaDoor
open Go.RowKit Go.Shelf
attribute [local go_sem ↓] lt_alloc

theorem exR_same {a b k : Int} (k0 : 0 < k) : exR (a * k) (b * k) = exR a b := by
  unfold exR fxE fxV partE partV
  by_cases hb : b = 0
  · subst hb; simp
  · have hk : ¬ b * k = 0 := by
      intro h
      rcases Int.mul_eq_zero.1 h with h | h <;> omega
    rw [if_neg hb, if_neg hk]
    have e : a * k * 4294967296 / (b * k) = a * 4294967296 / b := by
      rw [show a * k * 4294967296 = a * 4294967296 * k from by grind]
      exact Int.mul_ediv_mul_of_pos_left _ _ k0
    rw [e, if_neg hb, if_neg hk]
theorem exR_zero {b : Int} (b0 : 0 < b) : exR 0 b = 4294967296 := by
  have e1 : fxE 0 b = 0 := by unfold fxE; rw [Int.zero_mul, Int.zero_ediv]; exact partE_lt b0 (by decide)
  have e2 : fxV 0 b = 0 := by unfold fxV; rw [Int.zero_mul, Int.zero_ediv]; exact partV_lt b0 (by decide)
  unfold exR; rw [if_pos e1, e2]; decide +kernel
set_option maxRecDepth 100000 in
set_option maxHeartbeats 4000000 in
theorem ratio5_walk (a b k d l : Int) (a0 : 0 ≤ a) (a1 : a < 4294967296) (b0 : 0 ≤ b) (b1 : b < 4294967296) (k0 : 0 ≤ k) (k1 : k < 4294967296) (d0 : 0 ≤ d) (d1 : d < 4294967296) (l0 : 0 ≤ l) (l1 : l < 4294967296) (w : World) (hP : PW w) :
    Calls Tryd.prog 6 #[.int .u32 a, .int .u32 b, .int .u32 k, .int .u32 d, .int .u32 l] w fun r w' => r = .returned (.bool true) ∧ Below w.heap.size w w' := by
  have HP := Lib.hid hP
  clear hP
  have p1 : 0 ≤ a * k ∧ a * k < 18446744073709551616 := by
    have h1 := Int.mul_nonneg a0 k0
    have h2 : a * k ≤ 4294967295 * k := Int.mul_le_mul_of_nonneg_right (by omega) k0
    omega
  have p2 : 0 ≤ b * k ∧ b * k < 18446744073709551616 := by
    have h1 := Int.mul_nonneg b0 k0
    have h2 : b * k ≤ 4294967295 * k := Int.mul_le_mul_of_nonneg_right (by omega) k0
    omega
  obtain ⟨p1, p1'⟩ := p1
  obtain ⟨p2, p2'⟩ := p2
  have c1 := fun w h => expo_Ratio a b a0 (by omega) b0 (by omega) w h
  have c2 := fun w h => expo_Ratio (a * k) (b * k) p1 p1' p2 p2' w h
  have c3 := fun w h => expo_Below (max d l) a b (by omega) (by omega) a0 (by omega) b0 (by omega) w h
  have c4 := fun w h => expo_Below (min d l) a b (by omega) (by omega) a0 (by omega) b0 (by omega) w h
  have c5 := fun w h => expo_Below d 0 b d0 d1 (by decide) (by decide) b0 (by omega) w h
  have e5 : 0 < b → d < exR 0 b := fun h => by rw [exR_zero h]; omega
  have es : k = 0 → exR (a * k) (b * k) = 0 := fun h => by subst h; rw [Int.mul_zero, Int.mul_zero]; decide +kernel
  have et : 0 < k → exR (a * k) (b * k) = exR a b := exR_same
  generalize exR (a * k) (b * k) = m at *
  generalize exR a b = n at *
  generalize exR 0 b = z at *
  rcases Int.lt_or_eq_of_le k0 with hk | hk
  · have hk0 : (k == 0) = false := by simp; omega
    have hmn := et hk
    obtain rfl : n = m := hmn.symm
    clear es et
    rcases Int.lt_or_eq_of_le a0 with ha | ha
    · clear e5
      by_cases hh : max d l < n
      · have hm : min d l < n := by omega
        go_enter Tryd.func6, Tryd.ntmps6
        go_wp2_with fail
        refine (awake5_any _ HP.out).mono ?_
        rintro r w1 ⟨rfl, hb1⟩
        have hB1 : Below w.heap.size w w1 := by repeat' (first | (with_reducible exact Below.refl _ _) | (with_reducible assumption) | (with_reducible refine Below.trans ?_ (Below.mono hb1 ?_)) | (with_reducible refine Below.alloc ?_ ?_ _) | (with_reducible refine below_drewN ?_ _) | (with_reducible refine Below.drew ?_) | (with_reducible refine Below.setCell ?_ ?_ _) | go_size | omega | (simp; omega))
        have hS1 := hB1.size
        clear hb1
        go_wp2_with fail
        refine (c1 _ (HP.out.below hB1)).mono ?_
        rintro r w2 ⟨rfl, hb2⟩
        have hB2 : Below w.heap.size w w2 := by repeat' (first | (with_reducible exact Below.refl _ _) | (with_reducible assumption) | (with_reducible refine Below.trans ?_ (Below.mono hb2 ?_)) | (with_reducible refine Below.alloc ?_ ?_ _) | (with_reducible refine below_drewN ?_ _) | (with_reducible refine Below.drew ?_) | (with_reducible refine Below.setCell ?_ ?_ _) | go_size | omega | (simp; omega))
        have hS2 := hB2.size
        clear hb2
        go_wp2_with fail
        refine (c2 _ (HP.out.below hB2)).mono ?_
        rintro r w3 ⟨rfl, hb3⟩
        have hB3 : Below w.heap.size w w3 := by repeat' (first | (with_reducible exact Below.refl _ _) | (with_reducible assumption) | (with_reducible refine Below.trans ?_ (Below.mono hb3 ?_)) | (with_reducible refine Below.alloc ?_ ?_ _) | (with_reducible refine below_drewN ?_ _) | (with_reducible refine Below.drew ?_) | (with_reducible refine Below.setCell ?_ ?_ _) | go_size | omega | (simp; omega))
        have hS3 := hB3.size
        clear hb3
        go_wp2_with fail
        refine (c3 _ (HP.out.below hB3)).mono ?_
        rintro r w4 ⟨rfl, hb4⟩
        have hB4 : Below w.heap.size w w4 := by repeat' (first | (with_reducible exact Below.refl _ _) | (with_reducible assumption) | (with_reducible refine Below.trans ?_ (Below.mono hb4 ?_)) | (with_reducible refine Below.alloc ?_ ?_ _) | (with_reducible refine below_drewN ?_ _) | (with_reducible refine Below.drew ?_) | (with_reducible refine Below.setCell ?_ ?_ _) | go_size | omega | (simp; omega))
        have hS4 := hB4.size
        clear hb4
        go_wp2_with fail
        refine (c4 _ (HP.out.below hB4)).mono ?_
        rintro r w5 ⟨rfl, hb5⟩
        have hB5 : Below w.heap.size w w5 := by repeat' (first | (with_reducible exact Below.refl _ _) | (with_reducible assumption) | (with_reducible refine Below.trans ?_ (Below.mono hb5 ?_)) | (with_reducible refine Below.alloc ?_ ?_ _) | (with_reducible refine below_drewN ?_ _) | (with_reducible refine Below.drew ?_) | (with_reducible refine Below.setCell ?_ ?_ _) | go_size | omega | (simp; omega))
        have hS5 := hB5.size
        clear hb5
        go_wp2_with fail
        go_ret
        exact ⟨rfl, hB5⟩
      · have hh2 : n ≤ max d l := by omega
        clear hh
        go_enter Tryd.func6, Tryd.ntmps6
        go_wp2_with fail
        refine (awake5_any _ HP.out).mono ?_
        rintro r w1 ⟨rfl, hb1⟩
        have hB1 : Below w.heap.size w w1 := by repeat' (first | (with_reducible exact Below.refl _ _) | (with_reducible assumption) | (with_reducible refine Below.trans ?_ (Below.mono hb1 ?_)) | (with_reducible refine Below.alloc ?_ ?_ _) | (with_reducible refine below_drewN ?_ _) | (with_reducible refine Below.drew ?_) | (with_reducible refine Below.setCell ?_ ?_ _) | go_size | omega | (simp; omega))
        have hS1 := hB1.size
        clear hb1
        go_wp2_with fail
        refine (c1 _ (HP.out.below hB1)).mono ?_
        rintro r w2 ⟨rfl, hb2⟩
        have hB2 : Below w.heap.size w w2 := by repeat' (first | (with_reducible exact Below.refl _ _) | (with_reducible assumption) | (with_reducible refine Below.trans ?_ (Below.mono hb2 ?_)) | (with_reducible refine Below.alloc ?_ ?_ _) | (with_reducible refine below_drewN ?_ _) | (with_reducible refine Below.drew ?_) | (with_reducible refine Below.setCell ?_ ?_ _) | go_size | omega | (simp; omega))
        have hS2 := hB2.size
        clear hb2
        go_wp2_with fail
        refine (c2 _ (HP.out.below hB2)).mono ?_
        rintro r w3 ⟨rfl, hb3⟩
        have hB3 : Below w.heap.size w w3 := by repeat' (first | (with_reducible exact Below.refl _ _) | (with_reducible assumption) | (with_reducible refine Below.trans ?_ (Below.mono hb3 ?_)) | (with_reducible refine Below.alloc ?_ ?_ _) | (with_reducible refine below_drewN ?_ _) | (with_reducible refine Below.drew ?_) | (with_reducible refine Below.setCell ?_ ?_ _) | go_size | omega | (simp; omega))
        have hS3 := hB3.size
        clear hb3
        go_wp2_with fail
        refine (c3 _ (HP.out.below hB3)).mono ?_
        rintro r w4 ⟨rfl, hb4⟩
        have hB4 : Below w.heap.size w w4 := by repeat' (first | (with_reducible exact Below.refl _ _) | (with_reducible assumption) | (with_reducible refine Below.trans ?_ (Below.mono hb4 ?_)) | (with_reducible refine Below.alloc ?_ ?_ _) | (with_reducible refine below_drewN ?_ _) | (with_reducible refine Below.drew ?_) | (with_reducible refine Below.setCell ?_ ?_ _) | go_size | omega | (simp; omega))
        have hS4 := hB4.size
        clear hb4
        go_wp2_with fail
        go_ret
        exact ⟨rfl, hB4⟩
    · subst ha
      (try simp only [Int.zero_mul] at c2)
      rcases Int.lt_or_eq_of_le b0 with hb | hb
      · have hz := e5 hb
        have hb0 : (b == 0) = false := by simp; omega
        clear e5
        by_cases hh : max d l < n
        · have hm : min d l < n := by omega
          go_enter Tryd.func6, Tryd.ntmps6
          go_wp2_with fail
          refine (awake5_any _ HP.out).mono ?_
          rintro r w1 ⟨rfl, hb1⟩
          have hB1 : Below w.heap.size w w1 := by repeat' (first | (with_reducible exact Below.refl _ _) | (with_reducible assumption) | (with_reducible refine Below.trans ?_ (Below.mono hb1 ?_)) | (with_reducible refine Below.alloc ?_ ?_ _) | (with_reducible refine below_drewN ?_ _) | (with_reducible refine Below.drew ?_) | (with_reducible refine Below.setCell ?_ ?_ _) | go_size | omega | (simp; omega))
          have hS1 := hB1.size
          clear hb1
          go_wp2_with fail
          refine (c1 _ (HP.out.below hB1)).mono ?_
          rintro r w2 ⟨rfl, hb2⟩
          have hB2 : Below w.heap.size w w2 := by repeat' (first | (with_reducible exact Below.refl _ _) | (with_reducible assumption) | (with_reducible refine Below.trans ?_ (Below.mono hb2 ?_)) | (with_reducible refine Below.alloc ?_ ?_ _) | (with_reducible refine below_drewN ?_ _) | (with_reducible refine Below.drew ?_) | (with_reducible refine Below.setCell ?_ ?_ _) | go_size | omega | (simp; omega))
          have hS2 := hB2.size
          clear hb2
          go_wp2_with fail
          refine (c2 _ (HP.out.below hB2)).mono ?_
          rintro r w3 ⟨rfl, hb3⟩
          have hB3 : Below w.heap.size w w3 := by repeat' (first | (with_reducible exact Below.refl _ _) | (with_reducible assumption) | (with_reducible refine Below.trans ?_ (Below.mono hb3 ?_)) | (with_reducible refine Below.alloc ?_ ?_ _) | (with_reducible refine below_drewN ?_ _) | (with_reducible refine Below.drew ?_) | (with_reducible refine Below.setCell ?_ ?_ _) | go_size | omega | (simp; omega))
          have hS3 := hB3.size
          clear hb3
          go_wp2_with fail
          refine (c3 _ (HP.out.below hB3)).mono ?_
          rintro r w4 ⟨rfl, hb4⟩
          have hB4 : Below w.heap.size w w4 := by repeat' (first | (with_reducible exact Below.refl _ _) | (with_reducible assumption) | (with_reducible refine Below.trans ?_ (Below.mono hb4 ?_)) | (with_reducible refine Below.alloc ?_ ?_ _) | (with_reducible refine below_drewN ?_ _) | (with_reducible refine Below.drew ?_) | (with_reducible refine Below.setCell ?_ ?_ _) | go_size | omega | (simp; omega))
          have hS4 := hB4.size
          clear hb4
          go_wp2_with fail
          refine (c4 _ (HP.out.below hB4)).mono ?_
          rintro r w5 ⟨rfl, hb5⟩
          have hB5 : Below w.heap.size w w5 := by repeat' (first | (with_reducible exact Below.refl _ _) | (with_reducible assumption) | (with_reducible refine Below.trans ?_ (Below.mono hb5 ?_)) | (with_reducible refine Below.alloc ?_ ?_ _) | (with_reducible refine below_drewN ?_ _) | (with_reducible refine Below.drew ?_) | (with_reducible refine Below.setCell ?_ ?_ _) | go_size | omega | (simp; omega))
          have hS5 := hB5.size
          clear hb5
          go_wp2_with fail
          refine (c5 _ (HP.out.below hB5)).mono ?_
          rintro r w6 ⟨rfl, hb6⟩
          have hB6 : Below w.heap.size w w6 := by repeat' (first | (with_reducible exact Below.refl _ _) | (with_reducible assumption) | (with_reducible refine Below.trans ?_ (Below.mono hb6 ?_)) | (with_reducible refine Below.alloc ?_ ?_ _) | (with_reducible refine below_drewN ?_ _) | (with_reducible refine Below.drew ?_) | (with_reducible refine Below.setCell ?_ ?_ _) | go_size | omega | (simp; omega))
          have hS6 := hB6.size
          clear hb6
          go_wp2_with fail
          go_ret
          exact ⟨rfl, hB6⟩
        · have hh2 : n ≤ max d l := by omega
          clear hh
          go_enter Tryd.func6, Tryd.ntmps6
          go_wp2_with fail
          refine (awake5_any _ HP.out).mono ?_
          rintro r w1 ⟨rfl, hb1⟩
          have hB1 : Below w.heap.size w w1 := by repeat' (first | (with_reducible exact Below.refl _ _) | (with_reducible assumption) | (with_reducible refine Below.trans ?_ (Below.mono hb1 ?_)) | (with_reducible refine Below.alloc ?_ ?_ _) | (with_reducible refine below_drewN ?_ _) | (with_reducible refine Below.drew ?_) | (with_reducible refine Below.setCell ?_ ?_ _) | go_size | omega | (simp; omega))
          have hS1 := hB1.size
          clear hb1
          go_wp2_with fail
          refine (c1 _ (HP.out.below hB1)).mono ?_
          rintro r w2 ⟨rfl, hb2⟩
          have hB2 : Below w.heap.size w w2 := by repeat' (first | (with_reducible exact Below.refl _ _) | (with_reducible assumption) | (with_reducible refine Below.trans ?_ (Below.mono hb2 ?_)) | (with_reducible refine Below.alloc ?_ ?_ _) | (with_reducible refine below_drewN ?_ _) | (with_reducible refine Below.drew ?_) | (with_reducible refine Below.setCell ?_ ?_ _) | go_size | omega | (simp; omega))
          have hS2 := hB2.size
          clear hb2
          go_wp2_with fail
          refine (c2 _ (HP.out.below hB2)).mono ?_
          rintro r w3 ⟨rfl, hb3⟩
          have hB3 : Below w.heap.size w w3 := by repeat' (first | (with_reducible exact Below.refl _ _) | (with_reducible assumption) | (with_reducible refine Below.trans ?_ (Below.mono hb3 ?_)) | (with_reducible refine Below.alloc ?_ ?_ _) | (with_reducible refine below_drewN ?_ _) | (with_reducible refine Below.drew ?_) | (with_reducible refine Below.setCell ?_ ?_ _) | go_size | omega | (simp; omega))
          have hS3 := hB3.size
          clear hb3
          go_wp2_with fail
          refine (c3 _ (HP.out.below hB3)).mono ?_
          rintro r w4 ⟨rfl, hb4⟩
          have hB4 : Below w.heap.size w w4 := by repeat' (first | (with_reducible exact Below.refl _ _) | (with_reducible assumption) | (with_reducible refine Below.trans ?_ (Below.mono hb4 ?_)) | (with_reducible refine Below.alloc ?_ ?_ _) | (with_reducible refine below_drewN ?_ _) | (with_reducible refine Below.drew ?_) | (with_reducible refine Below.setCell ?_ ?_ _) | go_size | omega | (simp; omega))
          have hS4 := hB4.size
          clear hb4
          go_wp2_with fail
          refine (c5 _ (HP.out.below hB4)).mono ?_
          rintro r w6 ⟨rfl, hb6⟩
          have hB6 : Below w.heap.size w w6 := by repeat' (first | (with_reducible exact Below.refl _ _) | (with_reducible assumption) | (with_reducible refine Below.trans ?_ (Below.mono hb6 ?_)) | (with_reducible refine Below.alloc ?_ ?_ _) | (with_reducible refine below_drewN ?_ _) | (with_reducible refine Below.drew ?_) | (with_reducible refine Below.setCell ?_ ?_ _) | go_size | omega | (simp; omega))
          have hS6 := hB6.size
          clear hb6
          go_wp2_with fail
          go_ret
          exact ⟨rfl, hB6⟩
      · subst hb
        (try simp only [Int.zero_mul] at c2)
        clear e5
        by_cases hh : max d l < n
        · have hm : min d l < n := by omega
          go_enter Tryd.func6, Tryd.ntmps6
          go_wp2_with fail
          refine (awake5_any _ HP.out).mono ?_
          rintro r w1 ⟨rfl, hb1⟩
          have hB1 : Below w.heap.size w w1 := by repeat' (first | (with_reducible exact Below.refl _ _) | (with_reducible assumption) | (with_reducible refine Below.trans ?_ (Below.mono hb1 ?_)) | (with_reducible refine Below.alloc ?_ ?_ _) | (with_reducible refine below_drewN ?_ _) | (with_reducible refine Below.drew ?_) | (with_reducible refine Below.setCell ?_ ?_ _) | go_size | omega | (simp; omega))
          have hS1 := hB1.size
          clear hb1
          go_wp2_with fail
          refine (c1 _ (HP.out.below hB1)).mono ?_
          rintro r w2 ⟨rfl, hb2⟩
          have hB2 : Below w.heap.size w w2 := by repeat' (first | (with_reducible exact Below.refl _ _) | (with_reducible assumption) | (with_reducible refine Below.trans ?_ (Below.mono hb2 ?_)) | (with_reducible refine Below.alloc ?_ ?_ _) | (with_reducible refine below_drewN ?_ _) | (with_reducible refine Below.drew ?_) | (with_reducible refine Below.setCell ?_ ?_ _) | go_size | omega | (simp; omega))
          have hS2 := hB2.size
          clear hb2
          go_wp2_with fail
          refine (c2 _ (HP.out.below hB2)).mono ?_
          rintro r w3 ⟨rfl, hb3⟩
          have hB3 : Below w.heap.size w w3 := by repeat' (first | (with_reducible exact Below.refl _ _) | (with_reducible assumption) | (with_reducible refine Below.trans ?_ (Below.mono hb3 ?_)) | (with_reducible refine Below.alloc ?_ ?_ _) | (with_reducible refine below_drewN ?_ _) | (with_reducible refine Below.drew ?_) | (with_reducible refine Below.setCell ?_ ?_ _) | go_size | omega | (simp; omega))
          have hS3 := hB3.size
          clear hb3
          go_wp2_with fail
          refine (c3 _ (HP.out.below hB3)).mono ?_
          rintro r w4 ⟨rfl, hb4⟩
          have hB4 : Below w.heap.size w w4 := by repeat' (first | (with_reducible exact Below.refl _ _) | (with_reducible assumption) | (with_reducible refine Below.trans ?_ (Below.mono hb4 ?_)) | (with_reducible refine Below.alloc ?_ ?_ _) | (with_reducible refine below_drewN ?_ _) | (with_reducible refine Below.drew ?_) | (with_reducible refine Below.setCell ?_ ?_ _) | go_size | omega | (simp; omega))
          have hS4 := hB4.size
          clear hb4
          go_wp2_with fail
          refine (c4 _ (HP.out.below hB4)).mono ?_
          rintro r w5 ⟨rfl, hb5⟩
          have hB5 : Below w.heap.size w w5 := by repeat' (first | (with_reducible exact Below.refl _ _) | (with_reducible assumption) | (with_reducible refine Below.trans ?_ (Below.mono hb5 ?_)) | (with_reducible refine Below.alloc ?_ ?_ _) | (with_reducible refine below_drewN ?_ _) | (with_reducible refine Below.drew ?_) | (with_reducible refine Below.setCell ?_ ?_ _) | go_size | omega | (simp; omega))
          have hS5 := hB5.size
          clear hb5
          go_wp2_with fail
          go_ret
          exact ⟨rfl, hB5⟩
        · have hh2 : n ≤ max d l := by omega
          clear hh
          go_enter Tryd.func6, Tryd.ntmps6
          go_wp2_with fail
          refine (awake5_any _ HP.out).mono ?_
          rintro r w1 ⟨rfl, hb1⟩
          have hB1 : Below w.heap.size w w1 := by repeat' (first | (with_reducible exact Below.refl _ _) | (with_reducible assumption) | (with_reducible refine Below.trans ?_ (Below.mono hb1 ?_)) | (with_reducible refine Below.alloc ?_ ?_ _) | (with_reducible refine below_drewN ?_ _) | (with_reducible refine Below.drew ?_) | (with_reducible refine Below.setCell ?_ ?_ _) | go_size | omega | (simp; omega))
          have hS1 := hB1.size
          clear hb1
          go_wp2_with fail
          refine (c1 _ (HP.out.below hB1)).mono ?_
          rintro r w2 ⟨rfl, hb2⟩
          have hB2 : Below w.heap.size w w2 := by repeat' (first | (with_reducible exact Below.refl _ _) | (with_reducible assumption) | (with_reducible refine Below.trans ?_ (Below.mono hb2 ?_)) | (with_reducible refine Below.alloc ?_ ?_ _) | (with_reducible refine below_drewN ?_ _) | (with_reducible refine Below.drew ?_) | (with_reducible refine Below.setCell ?_ ?_ _) | go_size | omega | (simp; omega))
          have hS2 := hB2.size
          clear hb2
          go_wp2_with fail
          refine (c2 _ (HP.out.below hB2)).mono ?_
          rintro r w3 ⟨rfl, hb3⟩
          have hB3 : Below w.heap.size w w3 := by repeat' (first | (with_reducible exact Below.refl _ _) | (with_reducible assumption) | (with_reducible refine Below.trans ?_ (Below.mono hb3 ?_)) | (with_reducible refine Below.alloc ?_ ?_ _) | (with_reducible refine below_drewN ?_ _) | (with_reducible refine Below.drew ?_) | (with_reducible refine Below.setCell ?_ ?_ _) | go_size | omega | (simp; omega))
          have hS3 := hB3.size
          clear hb3
          go_wp2_with fail
          refine (c3 _ (HP.out.below hB3)).mono ?_
          rintro r w4 ⟨rfl, hb4⟩
          have hB4 : Below w.heap.size w w4 := by repeat' (first | (with_reducible exact Below.refl _ _) | (with_reducible assumption) | (with_reducible refine Below.trans ?_ (Below.mono hb4 ?_)) | (with_reducible refine Below.alloc ?_ ?_ _) | (with_reducible refine below_drewN ?_ _) | (with_reducible refine Below.drew ?_) | (with_reducible refine Below.setCell ?_ ?_ _) | go_size | omega | (simp; omega))
          have hS4 := hB4.size
          clear hb4
          go_wp2_with fail
          go_ret
          exact ⟨rfl, hB4⟩
  · subst hk
    (try simp only [Int.mul_zero] at c2)
    obtain rfl : 0 = m := (es rfl).symm
    clear es et
    rcases Int.lt_or_eq_of_le a0 with ha | ha
    · clear e5
      by_cases hh : max d l < n
      · have hm : min d l < n := by omega
        go_enter Tryd.func6, Tryd.ntmps6
        go_wp2_with fail
        refine (awake5_any _ HP.out).mono ?_
        rintro r w1 ⟨rfl, hb1⟩
        have hB1 : Below w.heap.size w w1 := by repeat' (first | (with_reducible exact Below.refl _ _) | (with_reducible assumption) | (with_reducible refine Below.trans ?_ (Below.mono hb1 ?_)) | (with_reducible refine Below.alloc ?_ ?_ _) | (with_reducible refine below_drewN ?_ _) | (with_reducible refine Below.drew ?_) | (with_reducible refine Below.setCell ?_ ?_ _) | go_size | omega | (simp; omega))
        have hS1 := hB1.size
        clear hb1
        go_wp2_with fail
        refine (c1 _ (HP.out.below hB1)).mono ?_
        rintro r w2 ⟨rfl, hb2⟩
        have hB2 : Below w.heap.size w w2 := by repeat' (first | (with_reducible exact Below.refl _ _) | (with_reducible assumption) | (with_reducible refine Below.trans ?_ (Below.mono hb2 ?_)) | (with_reducible refine Below.alloc ?_ ?_ _) | (with_reducible refine below_drewN ?_ _) | (with_reducible refine Below.drew ?_) | (with_reducible refine Below.setCell ?_ ?_ _) | go_size | omega | (simp; omega))
        have hS2 := hB2.size
        clear hb2
        go_wp2_with fail
        refine (c2 _ (HP.out.below hB2)).mono ?_
        rintro r w3 ⟨rfl, hb3⟩
        have hB3 : Below w.heap.size w w3 := by repeat' (first | (with_reducible exact Below.refl _ _) | (with_reducible assumption) | (with_reducible refine Below.trans ?_ (Below.mono hb3 ?_)) | (with_reducible refine Below.alloc ?_ ?_ _) | (with_reducible refine below_drewN ?_ _) | (with_reducible refine Below.drew ?_) | (with_reducible refine Below.setCell ?_ ?_ _) | go_size | omega | (simp; omega))
        have hS3 := hB3.size
        clear hb3
        go_wp2_with fail
        refine (c3 _ (HP.out.below hB3)).mono ?_
        rintro r w4 ⟨rfl, hb4⟩
        have hB4 : Below w.heap.size w w4 := by repeat' (first | (with_reducible exact Below.refl _ _) | (with_reducible assumption) | (with_reducible refine Below.trans ?_ (Below.mono hb4 ?_)) | (with_reducible refine Below.alloc ?_ ?_ _) | (with_reducible refine below_drewN ?_ _) | (with_reducible refine Below.drew ?_) | (with_reducible refine Below.setCell ?_ ?_ _) | go_size | omega | (simp; omega))
        have hS4 := hB4.size
        clear hb4
        go_wp2_with fail
        refine (c4 _ (HP.out.below hB4)).mono ?_
        rintro r w5 ⟨rfl, hb5⟩
        have hB5 : Below w.heap.size w w5 := by repeat' (first | (with_reducible exact Below.refl _ _) | (with_reducible assumption) | (with_reducible refine Below.trans ?_ (Below.mono hb5 ?_)) | (with_reducible refine Below.alloc ?_ ?_ _) | (with_reducible refine below_drewN ?_ _) | (with_reducible refine Below.drew ?_) | (with_reducible refine Below.setCell ?_ ?_ _) | go_size | omega | (simp; omega))
        have hS5 := hB5.size
        clear hb5
        go_wp2_with fail
        go_ret
        exact ⟨rfl, hB5⟩
      · have hh2 : n ≤ max d l := by omega
        clear hh
        go_enter Tryd.func6, Tryd.ntmps6
        go_wp2_with fail
        refine (awake5_any _ HP.out).mono ?_
        rintro r w1 ⟨rfl, hb1⟩
        have hB1 : Below w.heap.size w w1 := by repeat' (first | (with_reducible exact Below.refl _ _) | (with_reducible assumption) | (with_reducible refine Below.trans ?_ (Below.mono hb1 ?_)) | (with_reducible refine Below.alloc ?_ ?_ _) | (with_reducible refine below_drewN ?_ _) | (with_reducible refine Below.drew ?_) | (with_reducible refine Below.setCell ?_ ?_ _) | go_size | omega | (simp; omega))
        have hS1 := hB1.size
        clear hb1
        go_wp2_with fail
        refine (c1 _ (HP.out.below hB1)).mono ?_
        rintro r w2 ⟨rfl, hb2⟩
        have hB2 : Below w.heap.size w w2 := by repeat' (first | (with_reducible exact Below.refl _ _) | (with_reducible assumption) | (with_reducible refine Below.trans ?_ (Below.mono hb2 ?_)) | (with_reducible refine Below.alloc ?_ ?_ _) | (with_reducible refine below_drewN ?_ _) | (with_reducible refine Below.drew ?_) | (with_reducible refine Below.setCell ?_ ?_ _) | go_size | omega | (simp; omega))
        have hS2 := hB2.size
        clear hb2
        go_wp2_with fail
        refine (c2 _ (HP.out.below hB2)).mono ?_
        rintro r w3 ⟨rfl, hb3⟩
        have hB3 : Below w.heap.size w w3 := by repeat' (first | (with_reducible exact Below.refl _ _) | (with_reducible assumption) | (with_reducible refine Below.trans ?_ (Below.mono hb3 ?_)) | (with_reducible refine Below.alloc ?_ ?_ _) | (with_reducible refine below_drewN ?_ _) | (with_reducible refine Below.drew ?_) | (with_reducible refine Below.setCell ?_ ?_ _) | go_size | omega | (simp; omega))
        have hS3 := hB3.size
        clear hb3
        go_wp2_with fail
        refine (c3 _ (HP.out.below hB3)).mono ?_
        rintro r w4 ⟨rfl, hb4⟩
        have hB4 : Below w.heap.size w w4 := by repeat' (first | (with_reducible exact Below.refl _ _) | (with_reducible assumption) | (with_reducible refine Below.trans ?_ (Below.mono hb4 ?_)) | (with_reducible refine Below.alloc ?_ ?_ _) | (with_reducible refine below_drewN ?_ _) | (with_reducible refine Below.drew ?_) | (with_reducible refine Below.setCell ?_ ?_ _) | go_size | omega | (simp; omega))
        have hS4 := hB4.size
        clear hb4
        go_wp2_with fail
        go_ret
        exact ⟨rfl, hB4⟩
    · subst ha
      (try simp only [Int.zero_mul] at c2)
      rcases Int.lt_or_eq_of_le b0 with hb | hb
      · have hz := e5 hb
        have hb0 : (b == 0) = false := by simp; omega
        clear e5
        by_cases hh : max d l < n
        · have hm : min d l < n := by omega
          go_enter Tryd.func6, Tryd.ntmps6
          go_wp2_with fail
          refine (awake5_any _ HP.out).mono ?_
          rintro r w1 ⟨rfl, hb1⟩
          have hB1 : Below w.heap.size w w1 := by repeat' (first | (with_reducible exact Below.refl _ _) | (with_reducible assumption) | (with_reducible refine Below.trans ?_ (Below.mono hb1 ?_)) | (with_reducible refine Below.alloc ?_ ?_ _) | (with_reducible refine below_drewN ?_ _) | (with_reducible refine Below.drew ?_) | (with_reducible refine Below.setCell ?_ ?_ _) | go_size | omega | (simp; omega))
          have hS1 := hB1.size
          clear hb1
          go_wp2_with fail
          refine (c1 _ (HP.out.below hB1)).mono ?_
          rintro r w2 ⟨rfl, hb2⟩
          have hB2 : Below w.heap.size w w2 := by repeat' (first | (with_reducible exact Below.refl _ _) | (with_reducible assumption) | (with_reducible refine Below.trans ?_ (Below.mono hb2 ?_)) | (with_reducible refine Below.alloc ?_ ?_ _) | (with_reducible refine below_drewN ?_ _) | (with_reducible refine Below.drew ?_) | (with_reducible refine Below.setCell ?_ ?_ _) | go_size | omega | (simp; omega))
          have hS2 := hB2.size
          clear hb2
          go_wp2_with fail
          refine (c2 _ (HP.out.below hB2)).mono ?_
          rintro r w3 ⟨rfl, hb3⟩
          have hB3 : Below w.heap.size w w3 := by repeat' (first | (with_reducible exact Below.refl _ _) | (with_reducible assumption) | (with_reducible refine Below.trans ?_ (Below.mono hb3 ?_)) | (with_reducible refine Below.alloc ?_ ?_ _) | (with_reducible refine below_drewN ?_ _) | (with_reducible refine Below.drew ?_) | (with_reducible refine Below.setCell ?_ ?_ _) | go_size | omega | (simp; omega))
          have hS3 := hB3.size
          clear hb3
          go_wp2_with fail
          refine (c3 _ (HP.out.below hB3)).mono ?_
          rintro r w4 ⟨rfl, hb4⟩
          have hB4 : Below w.heap.size w w4 := by repeat' (first | (with_reducible exact Below.refl _ _) | (with_reducible assumption) | (with_reducible refine Below.trans ?_ (Below.mono hb4 ?_)) | (with_reducible refine Below.alloc ?_ ?_ _) | (with_reducible refine below_drewN ?_ _) | (with_reducible refine Below.drew ?_) | (with_reducible refine Below.setCell ?_ ?_ _) | go_size | omega | (simp; omega))
          have hS4 := hB4.size
          clear hb4
          go_wp2_with fail
          refine (c4 _ (HP.out.below hB4)).mono ?_
          rintro r w5 ⟨rfl, hb5⟩
          have hB5 : Below w.heap.size w w5 := by repeat' (first | (with_reducible exact Below.refl _ _) | (with_reducible assumption) | (with_reducible refine Below.trans ?_ (Below.mono hb5 ?_)) | (with_reducible refine Below.alloc ?_ ?_ _) | (with_reducible refine below_drewN ?_ _) | (with_reducible refine Below.drew ?_) | (with_reducible refine Below.setCell ?_ ?_ _) | go_size | omega | (simp; omega))
          have hS5 := hB5.size
          clear hb5
          go_wp2_with fail
          refine (c5 _ (HP.out.below hB5)).mono ?_
          rintro r w6 ⟨rfl, hb6⟩
          have hB6 : Below w.heap.size w w6 := by repeat' (first | (with_reducible exact Below.refl _ _) | (with_reducible assumption) | (with_reducible refine Below.trans ?_ (Below.mono hb6 ?_)) | (with_reducible refine Below.alloc ?_ ?_ _) | (with_reducible refine below_drewN ?_ _) | (with_reducible refine Below.drew ?_) | (with_reducible refine Below.setCell ?_ ?_ _) | go_size | omega | (simp; omega))
          have hS6 := hB6.size
          clear hb6
          go_wp2_with fail
          go_ret
          exact ⟨rfl, hB6⟩
        · have hh2 : n ≤ max d l := by omega
          clear hh
          go_enter Tryd.func6, Tryd.ntmps6
          go_wp2_with fail
          refine (awake5_any _ HP.out).mono ?_
          rintro r w1 ⟨rfl, hb1⟩
          have hB1 : Below w.heap.size w w1 := by repeat' (first | (with_reducible exact Below.refl _ _) | (with_reducible assumption) | (with_reducible refine Below.trans ?_ (Below.mono hb1 ?_)) | (with_reducible refine Below.alloc ?_ ?_ _) | (with_reducible refine below_drewN ?_ _) | (with_reducible refine Below.drew ?_) | (with_reducible refine Below.setCell ?_ ?_ _) | go_size | omega | (simp; omega))
          have hS1 := hB1.size
          clear hb1
          go_wp2_with fail
          refine (c1 _ (HP.out.below hB1)).mono ?_
          rintro r w2 ⟨rfl, hb2⟩
          have hB2 : Below w.heap.size w w2 := by repeat' (first | (with_reducible exact Below.refl _ _) | (with_reducible assumption) | (with_reducible refine Below.trans ?_ (Below.mono hb2 ?_)) | (with_reducible refine Below.alloc ?_ ?_ _) | (with_reducible refine below_drewN ?_ _) | (with_reducible refine Below.drew ?_) | (with_reducible refine Below.setCell ?_ ?_ _) | go_size | omega | (simp; omega))
          have hS2 := hB2.size
          clear hb2
          go_wp2_with fail
          refine (c2 _ (HP.out.below hB2)).mono ?_
          rintro r w3 ⟨rfl, hb3⟩
          have hB3 : Below w.heap.size w w3 := by repeat' (first | (with_reducible exact Below.refl _ _) | (with_reducible assumption) | (with_reducible refine Below.trans ?_ (Below.mono hb3 ?_)) | (with_reducible refine Below.alloc ?_ ?_ _) | (with_reducible refine below_drewN ?_ _) | (with_reducible refine Below.drew ?_) | (with_reducible refine Below.setCell ?_ ?_ _) | go_size | omega | (simp; omega))
          have hS3 := hB3.size
          clear hb3
          go_wp2_with fail
          refine (c3 _ (HP.out.below hB3)).mono ?_
          rintro r w4 ⟨rfl, hb4⟩
          have hB4 : Below w.heap.size w w4 := by repeat' (first | (with_reducible exact Below.refl _ _) | (with_reducible assumption) | (with_reducible refine Below.trans ?_ (Below.mono hb4 ?_)) | (with_reducible refine Below.alloc ?_ ?_ _) | (with_reducible refine below_drewN ?_ _) | (with_reducible refine Below.drew ?_) | (with_reducible refine Below.setCell ?_ ?_ _) | go_size | omega | (simp; omega))
          have hS4 := hB4.size
          clear hb4
          go_wp2_with fail
          refine (c5 _ (HP.out.below hB4)).mono ?_
          rintro r w6 ⟨rfl, hb6⟩
          have hB6 : Below w.heap.size w w6 := by repeat' (first | (with_reducible exact Below.refl _ _) | (with_reducible assumption) | (with_reducible refine Below.trans ?_ (Below.mono hb6 ?_)) | (with_reducible refine Below.alloc ?_ ?_ _) | (with_reducible refine below_drewN ?_ _) | (with_reducible refine Below.drew ?_) | (with_reducible refine Below.setCell ?_ ?_ _) | go_size | omega | (simp; omega))
          have hS6 := hB6.size
          clear hb6
          go_wp2_with fail
          go_ret
          exact ⟨rfl, hB6⟩
      · subst hb
        (try simp only [Int.zero_mul] at c2)
        clear e5
        by_cases hh : max d l < n
        · have hm : min d l < n := by omega
          go_enter Tryd.func6, Tryd.ntmps6
          go_wp2_with fail
          refine (awake5_any _ HP.out).mono ?_
          rintro r w1 ⟨rfl, hb1⟩
          have hB1 : Below w.heap.size w w1 := by repeat' (first | (with_reducible exact Below.refl _ _) | (with_reducible assumption) | (with_reducible refine Below.trans ?_ (Below.mono hb1 ?_)) | (with_reducible refine Below.alloc ?_ ?_ _) | (with_reducible refine below_drewN ?_ _) | (with_reducible refine Below.drew ?_) | (with_reducible refine Below.setCell ?_ ?_ _) | go_size | omega | (simp; omega))
          have hS1 := hB1.size
          clear hb1
          go_wp2_with fail
          refine (c1 _ (HP.out.below hB1)).mono ?_
          rintro r w2 ⟨rfl, hb2⟩
          have hB2 : Below w.heap.size w w2 := by repeat' (first | (with_reducible exact Below.refl _ _) | (with_reducible assumption) | (with_reducible refine Below.trans ?_ (Below.mono hb2 ?_)) | (with_reducible refine Below.alloc ?_ ?_ _) | (with_reducible refine below_drewN ?_ _) | (with_reducible refine Below.drew ?_) | (with_reducible refine Below.setCell ?_ ?_ _) | go_size | omega | (simp; omega))
          have hS2 := hB2.size
          clear hb2
          go_wp2_with fail
          refine (c2 _ (HP.out.below hB2)).mono ?_
          rintro r w3 ⟨rfl, hb3⟩
          have hB3 : Below w.heap.size w w3 := by repeat' (first | (with_reducible exact Below.refl _ _) | (with_reducible assumption) | (with_reducible refine Below.trans ?_ (Below.mono hb3 ?_)) | (with_reducible refine Below.alloc ?_ ?_ _) | (with_reducible refine below_drewN ?_ _) | (with_reducible refine Below.drew ?_) | (with_reducible refine Below.setCell ?_ ?_ _) | go_size | omega | (simp; omega))
          have hS3 := hB3.size
          clear hb3
          go_wp2_with fail
          refine (c3 _ (HP.out.below hB3)).mono ?_
          rintro r w4 ⟨rfl, hb4⟩
          have hB4 : Below w.heap.size w w4 := by repeat' (first | (with_reducible exact Below.refl _ _) | (with_reducible assumption) | (with_reducible refine Below.trans ?_ (Below.mono hb4 ?_)) | (with_reducible refine Below.alloc ?_ ?_ _) | (with_reducible refine below_drewN ?_ _) | (with_reducible refine Below.drew ?_) | (with_reducible refine Below.setCell ?_ ?_ _) | go_size | omega | (simp; omega))
          have hS4 := hB4.size
          clear hb4
          go_wp2_with fail
          refine (c4 _ (HP.out.below hB4)).mono ?_
          rintro r w5 ⟨rfl, hb5⟩
          have hB5 : Below w.heap.size w w5 := by repeat' (first | (with_reducible exact Below.refl _ _) | (with_reducible assumption) | (with_reducible refine Below.trans ?_ (Below.mono hb5 ?_)) | (with_reducible refine Below.alloc ?_ ?_ _) | (with_reducible refine below_drewN ?_ _) | (with_reducible refine Below.drew ?_) | (with_reducible refine Below.setCell ?_ ?_ _) | go_size | omega | (simp; omega))
          have hS5 := hB5.size
          clear hb5
          go_wp2_with fail
          go_ret
          exact ⟨rfl, hB5⟩
        · have hh2 : n ≤ max d l := by omega
          clear hh
          go_enter Tryd.func6, Tryd.ntmps6
          go_wp2_with fail
          refine (awake5_any _ HP.out).mono ?_
          rintro r w1 ⟨rfl, hb1⟩
          have hB1 : Below w.heap.size w w1 := by repeat' (first | (with_reducible exact Below.refl _ _) | (with_reducible assumption) | (with_reducible refine Below.trans ?_ (Below.mono hb1 ?_)) | (with_reducible refine Below.alloc ?_ ?_ _) | (with_reducible refine below_drewN ?_ _) | (with_reducible refine Below.drew ?_) | (with_reducible refine Below.setCell ?_ ?_ _) | go_size | omega | (simp; omega))
          have hS1 := hB1.size
          clear hb1
          go_wp2_with fail
          refine (c1 _ (HP.out.below hB1)).mono ?_
          rintro r w2 ⟨rfl, hb2⟩
          have hB2 : Below w.heap.size w w2 := by repeat' (first | (with_reducible exact Below.refl _ _) | (with_reducible assumption) | (with_reducible refine Below.trans ?_ (Below.mono hb2 ?_)) | (with_reducible refine Below.alloc ?_ ?_ _) | (with_reducible refine below_drewN ?_ _) | (with_reducible refine Below.drew ?_) | (with_reducible refine Below.setCell ?_ ?_ _) | go_size | omega | (simp; omega))
          have hS2 := hB2.size
          clear hb2
          go_wp2_with fail
          refine (c2 _ (HP.out.below hB2)).mono ?_
          rintro r w3 ⟨rfl, hb3⟩
          have hB3 : Below w.heap.size w w3 := by repeat' (first | (with_reducible exact Below.refl _ _) | (with_reducible assumption) | (with_reducible refine Below.trans ?_ (Below.mono hb3 ?_)) | (with_reducible refine Below.alloc ?_ ?_ _) | (with_reducible refine below_drewN ?_ _) | (with_reducible refine Below.drew ?_) | (with_reducible refine Below.setCell ?_ ?_ _) | go_size | omega | (simp; omega))
          have hS3 := hB3.size
          clear hb3
          go_wp2_with fail
          refine (c3 _ (HP.out.below hB3)).mono ?_
          rintro r w4 ⟨rfl, hb4⟩
          have hB4 : Below w.heap.size w w4 := by repeat' (first | (with_reducible exact Below.refl _ _) | (with_reducible assumption) | (with_reducible refine Below.trans ?_ (Below.mono hb4 ?_)) | (with_reducible refine Below.alloc ?_ ?_ _) | (with_reducible refine below_drewN ?_ _) | (with_reducible refine Below.drew ?_) | (with_reducible refine Below.setCell ?_ ?_ _) | go_size | omega | (simp; omega))
          have hS4 := hB4.size
          clear hb4
          go_wp2_with fail
          go_ret
          exact ⟨rfl, hB4⟩
theorem ratio5_law (a b k d l : Int) (w0 : (Lit.int .u32 a).wf = true) (w1 : (Lit.int .u32 b).wf = true) (w2 : (Lit.int .u32 k).wf = true) (w3 : (Lit.int .u32 d).wf = true) (w4 : (Lit.int .u32 l).wf = true) (w : World) (hP : PW w) :
    Calls Tryd.prog 6 #[.int .u32 a, .int .u32 b, .int .u32 k, .int .u32 d, .int .u32 l] w fun r w' => r = .returned (.bool true) ∧ Below w.heap.size w w' :=
  ratio5_walk a b k d l (u32c w0).1 (u32c w0).2 (u32c w1).1 (u32c w1).2 (u32c w2).1 (u32c w2).2 (u32c w3).1 (u32c w3).2 (u32c w4).1 (u32c w4).2 w hP
end Go.Proofs.YtecacdghlefpfaaDoor
