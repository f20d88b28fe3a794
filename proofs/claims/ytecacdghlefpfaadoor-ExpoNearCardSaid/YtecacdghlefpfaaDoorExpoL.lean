/- The walks of the laws of the layer expo: awake, ExpoFalls, ExpoSums, ExpoRatio. -/
import Derived.Test.YtecacdghlefpfaaDoorExpoC
set_option linter.unusedVariables false
namespace Go.Proofs.YtecacdghlefpfaaDoor
open Go.RowKit Go.Shelf
attribute [local go_sem ↓] lt_alloc

theorem u64c {a : Int} (h : (Lit.int .u64 a).wf = true) : 0 ≤ a ∧ a < 18446744073709551616 := by have := bounds_u64 h; omega
theorem u32c {a : Int} (h : (Lit.int .u32 a).wf = true) : 0 ≤ a ∧ a < 4294967296 := by have := bounds_u32 h; omega
set_option maxRecDepth 100000 in
theorem awake5_any (w : World) (hP : PW w) : Calls Tryd.prog 8 #[] w fun r w' => r = .returned (.bool true) ∧ Below w.heap.size w w' := by
  have HP := Lib.hid hP
  clear hP
  have e1 : exV 0 = 4294967296 := by decide +kernel
  have e2 : exV 4294967296 = 1580030168 := by decide +kernel
  have e3 : exV 137438953472 = 0 := by decide +kernel
  have e4 : exV 18446744073709551615 = 0 := by decide +kernel
  have e5 : exR 7 7 = 1580030168 := by decide +kernel
  have e6 : exR 7 0 = 0 := by decide +kernel
  have e7 : exR 0 7 = 4294967296 := by decide +kernel
  have e8 : exR 1 1 = 1580030168 := by decide +kernel
  go_enter Tryd.func8, Tryd.ntmps8
  go_wp2_with fail
  refine (expo_Of _ (by decide) (by decide) _ HP.out).mono ?_
  rintro r w1 ⟨rfl, hb1⟩
  have hB1 : Below w.heap.size w w1 := by repeat' (first | (with_reducible exact Below.refl _ _) | (with_reducible assumption) | (with_reducible refine Below.trans ?_ (Below.mono hb1 ?_)) | (with_reducible refine Below.alloc ?_ ?_ _) | (with_reducible refine below_drewN ?_ _) | (with_reducible refine Below.drew ?_) | (with_reducible refine Below.setCell ?_ ?_ _) | go_size | omega | (simp; omega))
  have hS1 := hB1.size
  clear hb1
  go_wp2_with fail
  refine (expo_Of _ (by decide) (by decide) _ (HP.out.below hB1)).mono ?_
  rintro r w2 ⟨rfl, hb2⟩
  have hB2 : Below w.heap.size w w2 := by repeat' (first | (with_reducible exact Below.refl _ _) | (with_reducible assumption) | (with_reducible refine Below.trans ?_ (Below.mono hb2 ?_)) | (with_reducible refine Below.alloc ?_ ?_ _) | (with_reducible refine below_drewN ?_ _) | (with_reducible refine Below.drew ?_) | (with_reducible refine Below.setCell ?_ ?_ _) | go_size | omega | (simp; omega))
  have hS2 := hB2.size
  clear hb2
  go_wp2_with fail
  refine (expo_Of _ (by decide) (by decide) _ (HP.out.below hB2)).mono ?_
  rintro r w3 ⟨rfl, hb3⟩
  have hB3 : Below w.heap.size w w3 := by repeat' (first | (with_reducible exact Below.refl _ _) | (with_reducible assumption) | (with_reducible refine Below.trans ?_ (Below.mono hb3 ?_)) | (with_reducible refine Below.alloc ?_ ?_ _) | (with_reducible refine below_drewN ?_ _) | (with_reducible refine Below.drew ?_) | (with_reducible refine Below.setCell ?_ ?_ _) | go_size | omega | (simp; omega))
  have hS3 := hB3.size
  clear hb3
  go_wp2_with fail
  refine (expo_Of _ (by decide) (by decide) _ (HP.out.below hB3)).mono ?_
  rintro r w4 ⟨rfl, hb4⟩
  have hB4 : Below w.heap.size w w4 := by repeat' (first | (with_reducible exact Below.refl _ _) | (with_reducible assumption) | (with_reducible refine Below.trans ?_ (Below.mono hb4 ?_)) | (with_reducible refine Below.alloc ?_ ?_ _) | (with_reducible refine below_drewN ?_ _) | (with_reducible refine Below.drew ?_) | (with_reducible refine Below.setCell ?_ ?_ _) | go_size | omega | (simp; omega))
  have hS4 := hB4.size
  clear hb4
  go_wp2_with fail
  refine (expo_Ratio _ _ (by decide) (by decide) (by decide) (by decide) _ (HP.out.below hB4)).mono ?_
  rintro r w5 ⟨rfl, hb5⟩
  have hB5 : Below w.heap.size w w5 := by repeat' (first | (with_reducible exact Below.refl _ _) | (with_reducible assumption) | (with_reducible refine Below.trans ?_ (Below.mono hb5 ?_)) | (with_reducible refine Below.alloc ?_ ?_ _) | (with_reducible refine below_drewN ?_ _) | (with_reducible refine Below.drew ?_) | (with_reducible refine Below.setCell ?_ ?_ _) | go_size | omega | (simp; omega))
  have hS5 := hB5.size
  clear hb5
  go_wp2_with fail
  refine (expo_Of _ (by decide) (by decide) _ (HP.out.below hB5)).mono ?_
  rintro r w6 ⟨rfl, hb6⟩
  have hB6 : Below w.heap.size w w6 := by repeat' (first | (with_reducible exact Below.refl _ _) | (with_reducible assumption) | (with_reducible refine Below.trans ?_ (Below.mono hb6 ?_)) | (with_reducible refine Below.alloc ?_ ?_ _) | (with_reducible refine below_drewN ?_ _) | (with_reducible refine Below.drew ?_) | (with_reducible refine Below.setCell ?_ ?_ _) | go_size | omega | (simp; omega))
  have hS6 := hB6.size
  clear hb6
  go_wp2_with fail
  refine (expo_Ratio _ _ (by decide) (by decide) (by decide) (by decide) _ (HP.out.below hB6)).mono ?_
  rintro r w7 ⟨rfl, hb7⟩
  have hB7 : Below w.heap.size w w7 := by repeat' (first | (with_reducible exact Below.refl _ _) | (with_reducible assumption) | (with_reducible refine Below.trans ?_ (Below.mono hb7 ?_)) | (with_reducible refine Below.alloc ?_ ?_ _) | (with_reducible refine below_drewN ?_ _) | (with_reducible refine Below.drew ?_) | (with_reducible refine Below.setCell ?_ ?_ _) | go_size | omega | (simp; omega))
  have hS7 := hB7.size
  clear hb7
  go_wp2_with fail
  refine (expo_Ratio _ _ (by decide) (by decide) (by decide) (by decide) _ (HP.out.below hB7)).mono ?_
  rintro r w8 ⟨rfl, hb8⟩
  have hB8 : Below w.heap.size w w8 := by repeat' (first | (with_reducible exact Below.refl _ _) | (with_reducible assumption) | (with_reducible refine Below.trans ?_ (Below.mono hb8 ?_)) | (with_reducible refine Below.alloc ?_ ?_ _) | (with_reducible refine below_drewN ?_ _) | (with_reducible refine Below.drew ?_) | (with_reducible refine Below.setCell ?_ ?_ _) | go_size | omega | (simp; omega))
  have hS8 := hB8.size
  clear hb8
  go_wp2_with fail
  refine (expo_Below _ _ _ (by decide) (by decide) (by decide) (by decide) (by decide) (by decide) _ (HP.out.below hB8)).mono ?_
  rintro r w9 ⟨rfl, hb9⟩
  have hB9 : Below w.heap.size w w9 := by repeat' (first | (with_reducible exact Below.refl _ _) | (with_reducible assumption) | (with_reducible refine Below.trans ?_ (Below.mono hb9 ?_)) | (with_reducible refine Below.alloc ?_ ?_ _) | (with_reducible refine below_drewN ?_ _) | (with_reducible refine Below.drew ?_) | (with_reducible refine Below.setCell ?_ ?_ _) | go_size | omega | (simp; omega))
  have hS9 := hB9.size
  clear hb9
  go_wp2_with fail
  refine (expo_Below _ _ _ (by decide) (by decide) (by decide) (by decide) (by decide) (by decide) _ (HP.out.below hB9)).mono ?_
  rintro r w10 ⟨rfl, hb10⟩
  have hB10 : Below w.heap.size w w10 := by repeat' (first | (with_reducible exact Below.refl _ _) | (with_reducible assumption) | (with_reducible refine Below.trans ?_ (Below.mono hb10 ?_)) | (with_reducible refine Below.alloc ?_ ?_ _) | (with_reducible refine below_drewN ?_ _) | (with_reducible refine Below.drew ?_) | (with_reducible refine Below.setCell ?_ ?_ _) | go_size | omega | (simp; omega))
  have hS10 := hB10.size
  clear hb10
  go_wp2_with fail
  go_ret
  exact ⟨rfl, hB10⟩
set_option maxRecDepth 100000 in
theorem falls_walk (x y : Int) (x0 : 0 ≤ x) (x1 : x < 18446744073709551616) (y0 : 0 ≤ y) (y1 : y < 18446744073709551616) (w : World) (hP : PW w) :
    Calls Tryd.prog 5 #[.int .u64 x, .int .u64 y] w fun r w' => r = .returned (.bool true) ∧ Below w.heap.size w w' := by
  have HP := Lib.hid hP
  clear hP
  have f1 := exV_falls (show 0 ≤ min x y % 137438953472 by omega) (show 0 ≤ (max x y - min x y) % 137438953472 by omega)
  obtain ⟨v0, v1⟩ := exV_bd (min x y % 137438953472)
  obtain ⟨u0, u1⟩ := exV_bd (min x y % 137438953472 + (max x y - min x y) % 137438953472)
  have k1 := fun w h => expo_Of (min x y % 137438953472) (by omega) (by omega) w h
  have k2 := fun w h => expo_Of (min x y % 137438953472 + (max x y - min x y) % 137438953472) (by omega) (by omega) w h
  generalize exV (min x y % 137438953472 + (max x y - min x y) % 137438953472) = q at *
  generalize exV (min x y % 137438953472) = p at *
  go_enter Tryd.func5, Tryd.ntmps5
  go_wp2_with fail
  refine (awake5_any _ HP.out).mono ?_
  rintro r w1 ⟨rfl, hb1⟩
  have hB1 : Below w.heap.size w w1 := by repeat' (first | (with_reducible exact Below.refl _ _) | (with_reducible assumption) | (with_reducible refine Below.trans ?_ (Below.mono hb1 ?_)) | (with_reducible refine Below.alloc ?_ ?_ _) | (with_reducible refine below_drewN ?_ _) | (with_reducible refine Below.drew ?_) | (with_reducible refine Below.setCell ?_ ?_ _) | go_size | omega | (simp; omega))
  have hS1 := hB1.size
  clear hb1
  go_wp2_with fail
  refine (k1 _ (HP.out.below hB1)).mono ?_
  rintro r w2 ⟨rfl, hb2⟩
  have hB2 : Below w.heap.size w w2 := by repeat' (first | (with_reducible exact Below.refl _ _) | (with_reducible assumption) | (with_reducible refine Below.trans ?_ (Below.mono hb2 ?_)) | (with_reducible refine Below.alloc ?_ ?_ _) | (with_reducible refine below_drewN ?_ _) | (with_reducible refine Below.drew ?_) | (with_reducible refine Below.setCell ?_ ?_ _) | go_size | omega | (simp; omega))
  have hS2 := hB2.size
  clear hb2
  go_wp2_with fail
  refine (k2 _ (HP.out.below hB2)).mono ?_
  rintro r w3 ⟨rfl, hb3⟩
  have hB3 : Below w.heap.size w w3 := by repeat' (first | (with_reducible exact Below.refl _ _) | (with_reducible assumption) | (with_reducible refine Below.trans ?_ (Below.mono hb3 ?_)) | (with_reducible refine Below.alloc ?_ ?_ _) | (with_reducible refine below_drewN ?_ _) | (with_reducible refine Below.drew ?_) | (with_reducible refine Below.setCell ?_ ?_ _) | go_size | omega | (simp; omega))
  have hS3 := hB3.size
  clear hb3
  go_wp2_with fail
  refine (k1 _ (HP.out.below hB3)).mono ?_
  rintro r w4 ⟨rfl, hb4⟩
  have hB4 : Below w.heap.size w w4 := by repeat' (first | (with_reducible exact Below.refl _ _) | (with_reducible assumption) | (with_reducible refine Below.trans ?_ (Below.mono hb4 ?_)) | (with_reducible refine Below.alloc ?_ ?_ _) | (with_reducible refine below_drewN ?_ _) | (with_reducible refine Below.drew ?_) | (with_reducible refine Below.setCell ?_ ?_ _) | go_size | omega | (simp; omega))
  have hS4 := hB4.size
  clear hb4
  go_wp2_with fail
  go_ret
  exact ⟨rfl, hB4⟩
theorem falls_law (x y : Int) (w0 : (Lit.int .u64 x).wf = true) (w1 : (Lit.int .u64 y).wf = true) (w : World) (hP : PW w) :
    Calls Tryd.prog 5 #[.int .u64 x, .int .u64 y] w fun r w' => r = .returned (.bool true) ∧ Below w.heap.size w w' :=
  falls_walk x y (u64c w0).1 (u64c w0).2 (u64c w1).1 (u64c w1).2 w hP
theorem mulF_small {a b : Int} (a0 : 0 ≤ a) (a1 : a ≤ 4294967296) (b0 : 0 ≤ b) (b1 : b ≤ 4294967296) : mulF a b = a * b / 4294967296 := by
  have h := Int.mul_le_mul_of_nonneg_right a1 b0
  unfold mulF; omega
set_option maxRecDepth 100000 in
theorem sums_walk (x y : Int) (x0 : 0 ≤ x) (x1 : x < 18446744073709551616) (y0 : 0 ≤ y) (y1 : y < 18446744073709551616) (w : World) (hP : PW w) :
    Calls Tryd.prog 7 #[.int .u64 x, .int .u64 y] w fun r w' => r = .returned (.bool true) ∧ Below w.heap.size w w' := by
  have HP := Lib.hid hP
  clear hP
  obtain ⟨f1, f2⟩ := exV_sums (show 0 ≤ x % 68719476736 by omega) (show 0 ≤ y % 68719476736 by omega) (by omega)
  obtain ⟨v0, v1⟩ := exV_bd (x % 68719476736)
  obtain ⟨u0, u1⟩ := exV_bd (y % 68719476736)
  obtain ⟨t0, t1⟩ := exV_bd (x % 68719476736 + y % 68719476736)
  rw [← mulF_small v0 v1 u0 u1] at f1 f2
  obtain ⟨m0, m1⟩ := mulF_bd v0 u0
  have k1 := fun w h => expo_Of (x % 68719476736 + y % 68719476736) (by omega) (by omega) w h
  have k2 := fun w h => expo_Of (x % 68719476736) (by omega) (by omega) w h
  have k3 := fun w h => expo_Of (y % 68719476736) (by omega) (by omega) w h
  have k4 := fun w => fixed_Mul (exV (x % 68719476736)) (exV (y % 68719476736)) v0 (by omega) u0 (by omega) w
  generalize mulF (exV (x % 68719476736)) (exV (y % 68719476736)) = m at *
  generalize exV (x % 68719476736 + y % 68719476736) = n at *
  generalize exV (x % 68719476736) = p at *
  generalize exV (y % 68719476736) = q at *
  go_enter Tryd.func7, Tryd.ntmps7
  go_wp2_with fail
  refine (awake5_any _ HP.out).mono ?_
  rintro r w1 ⟨rfl, hb1⟩
  have hB1 : Below w.heap.size w w1 := by repeat' (first | (with_reducible exact Below.refl _ _) | (with_reducible assumption) | (with_reducible refine Below.trans ?_ (Below.mono hb1 ?_)) | (with_reducible refine Below.alloc ?_ ?_ _) | (with_reducible refine below_drewN ?_ _) | (with_reducible refine Below.drew ?_) | (with_reducible refine Below.setCell ?_ ?_ _) | go_size | omega | (simp; omega))
  have hS1 := hB1.size
  clear hb1
  go_wp2_with fail
  refine (k1 _ (HP.out.below hB1)).mono ?_
  rintro r w2 ⟨rfl, hb2⟩
  have hB2 : Below w.heap.size w w2 := by repeat' (first | (with_reducible exact Below.refl _ _) | (with_reducible assumption) | (with_reducible refine Below.trans ?_ (Below.mono hb2 ?_)) | (with_reducible refine Below.alloc ?_ ?_ _) | (with_reducible refine below_drewN ?_ _) | (with_reducible refine Below.drew ?_) | (with_reducible refine Below.setCell ?_ ?_ _) | go_size | omega | (simp; omega))
  have hS2 := hB2.size
  clear hb2
  go_wp2_with fail
  refine (k2 _ (HP.out.below hB2)).mono ?_
  rintro r w3 ⟨rfl, hb3⟩
  have hB3 : Below w.heap.size w w3 := by repeat' (first | (with_reducible exact Below.refl _ _) | (with_reducible assumption) | (with_reducible refine Below.trans ?_ (Below.mono hb3 ?_)) | (with_reducible refine Below.alloc ?_ ?_ _) | (with_reducible refine below_drewN ?_ _) | (with_reducible refine Below.drew ?_) | (with_reducible refine Below.setCell ?_ ?_ _) | go_size | omega | (simp; omega))
  have hS3 := hB3.size
  clear hb3
  go_wp2_with fail
  refine (k3 _ (HP.out.below hB3)).mono ?_
  rintro r w4 ⟨rfl, hb4⟩
  have hB4 : Below w.heap.size w w4 := by repeat' (first | (with_reducible exact Below.refl _ _) | (with_reducible assumption) | (with_reducible refine Below.trans ?_ (Below.mono hb4 ?_)) | (with_reducible refine Below.alloc ?_ ?_ _) | (with_reducible refine below_drewN ?_ _) | (with_reducible refine Below.drew ?_) | (with_reducible refine Below.setCell ?_ ?_ _) | go_size | omega | (simp; omega))
  have hS4 := hB4.size
  clear hb4
  go_wp2_with fail
  refine (k4 _).mono ?_
  rintro r w5 ⟨rfl, hb5⟩
  have hB5 : Below w.heap.size w w5 := by repeat' (first | (with_reducible exact Below.refl _ _) | (with_reducible assumption) | (with_reducible refine Below.trans ?_ (Below.mono hb5 ?_)) | (with_reducible refine Below.alloc ?_ ?_ _) | (with_reducible refine below_drewN ?_ _) | (with_reducible refine Below.drew ?_) | (with_reducible refine Below.setCell ?_ ?_ _) | go_size | omega | (simp; omega))
  have hS5 := hB5.size
  clear hb5
  go_wp2_with fail
  go_ret
  exact ⟨rfl, hB5⟩
theorem sums_law (x y : Int) (w0 : (Lit.int .u64 x).wf = true) (w1 : (Lit.int .u64 y).wf = true) (w : World) (hP : PW w) :
    Calls Tryd.prog 7 #[.int .u64 x, .int .u64 y] w fun r w' => r = .returned (.bool true) ∧ Below w.heap.size w w' :=
  sums_walk x y (u64c w0).1 (u64c w0).2 (u64c w1).1 (u64c w1).2 w hP
end Go.Proofs.YtecacdghlefpfaaDoor
