/- The walk of the law ExpoTells. -/
import Derived.Test.YtecacdghlefpfaaDoorExpoL
import Derived.Test.YtecacdghlefpfaaDoorExpoR
set_option linter.unusedVariables false
namespace Go.Proofs.YtecacdghlefpfaaDoor
open Go.RowKit Go.Shelf
attribute [local go_sem ↓] lt_alloc

set_option maxRecDepth 100000 in
set_option maxHeartbeats 1000000 in
theorem tells5_walk (x a b d : Int) (x0 : 0 ≤ x) (x1 : x < 18446744073709551616) (a0 : 0 ≤ a) (a1 : a < 18446744073709551616) (b0 : 0 ≤ b) (b1 : b < 18446744073709551616) (d0 : 0 ≤ d) (d1 : d < 4294967296) (w : World) (hP : PW w) :
    Calls Tryd.prog 3 #[.int .u64 x, .int .u64 a, .int .u64 b, .int .u32 d] w fun r w' => r = .returned (.bool true) ∧ Below w.heap.size w w' := by
  have HP := Lib.hid hP
  clear hP
  have c1 := fun w h => expo_Of x x0 x1 w h
  have c2 := fun w => ref5_Of x x0 x1 w
  have c3 := fun w h => expo_Ratio a b a0 a1 b0 b1 w h
  have c4 := fun w => ref5_Ratio a b a0 a1 b0 b1 w
  have c5 := fun w h => expo_Below d a b d0 d1 a0 a1 b0 b1 w h
  generalize exV x = v at *
  generalize exR a b = r at *
  have hd : (d < r) = (d < r) := rfl
  go_enter Tryd.func3, Tryd.ntmps3
  go_wp2_with fail
  refine (awake5_any _ HP.out).mono ?_
  rintro r w1 ⟨rfl, hb1⟩
  have hB1 : Below w.heap.size w w1 := by repeat' (first | (with_reducible exact Below.refl _ _) | (with_reducible assumption) | (with_reducible refine Below.trans ?_ (Below.mono hb1 ?_)) | (with_reducible refine Below.alloc ?_ ?_ _) | (with_reducible refine below_drewN ?_ _) | (with_reducible refine Below.drew ?_) | (with_reducible refine Below.setCell ?_ ?_ _) | go_size | omega | (simp; omega))
  have hS1 := hB1.size
  clear hb1
  go_wp2_with fail
  refine (c4 _).mono ?_
  rintro r w2 ⟨rfl, hb2⟩
  have hB2 : Below w.heap.size w w2 := by repeat' (first | (with_reducible exact Below.refl _ _) | (with_reducible assumption) | (with_reducible refine Below.trans ?_ (Below.mono hb2 ?_)) | (with_reducible refine Below.alloc ?_ ?_ _) | (with_reducible refine below_drewN ?_ _) | (with_reducible refine Below.drew ?_) | (with_reducible refine Below.setCell ?_ ?_ _) | go_size | omega | (simp; omega))
  have hS2 := hB2.size
  clear hb2
  go_wp2_with fail
  refine (c1 _ (HP.out.below hB2)).mono ?_
  rintro r w3 ⟨rfl, hb3⟩
  have hB3 : Below w.heap.size w w3 := by repeat' (first | (with_reducible exact Below.refl _ _) | (with_reducible assumption) | (with_reducible refine Below.trans ?_ (Below.mono hb3 ?_)) | (with_reducible refine Below.alloc ?_ ?_ _) | (with_reducible refine below_drewN ?_ _) | (with_reducible refine Below.drew ?_) | (with_reducible refine Below.setCell ?_ ?_ _) | go_size | omega | (simp; omega))
  have hS3 := hB3.size
  clear hb3
  go_wp2_with fail
  refine (c2 _).mono ?_
  rintro r w4 ⟨rfl, hb4⟩
  have hB4 : Below w.heap.size w w4 := by repeat' (first | (with_reducible exact Below.refl _ _) | (with_reducible assumption) | (with_reducible refine Below.trans ?_ (Below.mono hb4 ?_)) | (with_reducible refine Below.alloc ?_ ?_ _) | (with_reducible refine below_drewN ?_ _) | (with_reducible refine Below.drew ?_) | (with_reducible refine Below.setCell ?_ ?_ _) | go_size | omega | (simp; omega))
  have hS4 := hB4.size
  clear hb4
  go_wp2_with fail
  refine (c3 _ (HP.out.below hB4)).mono ?_
  rintro r w5 ⟨rfl, hb5⟩
  have hB5 : Below w.heap.size w w5 := by repeat' (first | (with_reducible exact Below.refl _ _) | (with_reducible assumption) | (with_reducible refine Below.trans ?_ (Below.mono hb5 ?_)) | (with_reducible refine Below.alloc ?_ ?_ _) | (with_reducible refine below_drewN ?_ _) | (with_reducible refine Below.drew ?_) | (with_reducible refine Below.setCell ?_ ?_ _) | go_size | omega | (simp; omega))
  have hS5 := hB5.size
  clear hb5
  go_wp2_with fail
  refine (c4 _).mono ?_
  rintro r w6 ⟨rfl, hb6⟩
  have hB6 : Below w.heap.size w w6 := by repeat' (first | (with_reducible exact Below.refl _ _) | (with_reducible assumption) | (with_reducible refine Below.trans ?_ (Below.mono hb6 ?_)) | (with_reducible refine Below.alloc ?_ ?_ _) | (with_reducible refine below_drewN ?_ _) | (with_reducible refine Below.drew ?_) | (with_reducible refine Below.setCell ?_ ?_ _) | go_size | omega | (simp; omega))
  have hS6 := hB6.size
  clear hb6
  go_wp2_with fail
  refine (c5 _ (HP.out.below hB6)).mono ?_
  rintro r w7 ⟨rfl, hb7⟩
  have hB7 : Below w.heap.size w w7 := by repeat' (first | (with_reducible exact Below.refl _ _) | (with_reducible assumption) | (with_reducible refine Below.trans ?_ (Below.mono hb7 ?_)) | (with_reducible refine Below.alloc ?_ ?_ _) | (with_reducible refine below_drewN ?_ _) | (with_reducible refine Below.drew ?_) | (with_reducible refine Below.setCell ?_ ?_ _) | go_size | omega | (simp; omega))
  have hS7 := hB7.size
  clear hb7
  go_wp2_with fail
  go_ret
  exact ⟨rfl, hB7⟩
theorem tells5_law (x a b d : Int) (w0 : (Lit.int .u64 x).wf = true) (w1 : (Lit.int .u64 a).wf = true) (w2 : (Lit.int .u64 b).wf = true) (w3 : (Lit.int .u32 d).wf = true) (w : World) (hP : PW w) :
    Calls Tryd.prog 3 #[.int .u64 x, .int .u64 a, .int .u64 b, .int .u32 d] w fun r w' => r = .returned (.bool true) ∧ Below w.heap.size w w' :=
  tells5_walk x a b d (u64c w0).1 (u64c w0).2 (u64c w1).1 (u64c w1).2 (u64c w2).1 (u64c w2).2 (u32c w3).1 (u32c w3).2 w hP
end Go.Proofs.YtecacdghlefpfaaDoor
