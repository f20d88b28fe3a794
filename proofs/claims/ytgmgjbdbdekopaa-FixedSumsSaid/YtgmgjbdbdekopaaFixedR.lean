/- The walks of the document's answer for the layer fixed. -/
import Derived.Test.YtgmgjbdbdekopaaFixedC
import Derived.Test.YtgmgjbdbdekopaaRatioR
import Derived.Test.YtgmgjbdbdekopaaWordR
set_option linter.unusedVariables false
namespace Go.Proofs.Ytgmgjbdbdekopaa
open Go.RowKit Go.Shelf
attribute [local go_sem ↓] lt_alloc

theorem ref4_Of (a b : Int) (a0 : 0 ≤ a) (a1 : a < 18446744073709551616) (b0 : 0 ≤ b) (b1 : b < 18446744073709551616) (w : World) :
    Calls Try.prog 11 #[.int .u64 a, .int .u64 b] w fun e w' => e = .returned (.tuple #[.int .u64 (fxV a b), .int .i64 (fxE a b)]) ∧ Below w.heap.size w w' := by
  go_enter Try.func11, Try.ntmps11
  go_wp2_with (go_at_call 25; refine (ref3_Floor a 4294967296 b a0 a1 (by decide) (by decide) b0 b1 _).mono ?_; rintro e w' ⟨rfl, hb⟩)
  go_ret2
  exact ⟨rfl, hb⟩
theorem ref4_Div (a b : Int) (a0 : 0 ≤ a) (a1 : a < 18446744073709551616) (b0 : 0 ≤ b) (b1 : b < 18446744073709551616) (w : World) :
    Calls Try.prog 13 #[.int .u64 a, .int .u64 b] w fun e w' => e = .returned (.tuple #[.int .u64 (fxV a b), .int .i64 (fxE a b)]) ∧ Below w.heap.size w w' := by
  go_enter Try.func13, Try.ntmps13
  go_wp2_with (go_at_call 25; refine (ref3_Floor a 4294967296 b a0 a1 (by decide) (by decide) b0 b1 _).mono ?_; rintro e w' ⟨rfl, hb⟩)
  go_ret2
  exact ⟨rfl, hb⟩
theorem ref4_Mul (a b : Int) (a0 : 0 ≤ a) (a1 : a < 18446744073709551616) (b0 : 0 ≤ b) (b1 : b < 18446744073709551616) (w : World) :
    Calls Try.prog 15 #[.int .u64 a, .int .u64 b] w fun e w' => e = .returned (.int .u64 (mulF a b)) ∧ Below w.heap.size w w' := by
  obtain ⟨m1, m2⟩ := mulF_of a0 b0
  have k := fun w => ref3_Floor a b 4294967296 a0 a1 b0 b1 (by decide) (by decide) w
  generalize partE (a * b / 4294967296) 4294967296 = e at *
  generalize partV (a * b / 4294967296) 4294967296 = v at *
  by_cases he : e = 0
  · subst he
    have M := Lib.hid (m1 rfl)
    clear m1 m2
    go_enter Try.func15, Try.ntmps15
    go_wp2_with (go_at_call 25; refine (k _).mono ?_; rintro e w' ⟨rfl, hb⟩)
    go_ret
    exact ⟨ret_u M.out, hb⟩
  · have M := Lib.hid (m2 he)
    have he1 : (e != 0) = true := by simpa using he
    clear m1 m2 he
    go_enter Try.func15, Try.ntmps15
    go_wp2_with (go_at_call 25; refine (k _).mono ?_; rintro e w' ⟨rfl, hb⟩)
    go_ret
    exact ⟨ret_u M.out, hb⟩
theorem ref4_Whole (a : Int) (a0 : 0 ≤ a) (a1 : a < 18446744073709551616) (w : World) :
    Calls Try.prog 17 #[.int .u64 a] w fun e w' => e = .returned (.int .u64 (a / 4294967296)) ∧ w = w' := by
  go_enter Try.func17, Try.ntmps17
  go_wp2_with fail
  go_ret
  exact ⟨rfl, rfl⟩
theorem ref4_Part (a : Int) (a0 : 0 ≤ a) (a1 : a < 18446744073709551616) (w : World) :
    Calls Try.prog 19 #[.int .u64 a] w fun e w' => e = .returned (.int .u64 (a % 4294967296)) ∧ w = w' := by
  go_enter Try.func19, Try.ntmps19
  go_wp2_with fail
  go_ret
  exact ⟨rfl, rfl⟩
set_option maxHeartbeats 1000000 in
theorem ref4_Mix (a b m : Int) (a0 : 0 ≤ a) (a1 : a < 18446744073709551616) (b0 : 0 ≤ b) (b1 : b < 18446744073709551616) (m0 : 0 ≤ m) (m1 : m < 18446744073709551616) (w : World) :
    Calls Try.prog 21 #[.int .u64 a, .int .u64 b, .int .u64 m] w fun e w' => e = .returned (.int .u64 (mixF a b m)) ∧ Below w.heap.size w w' := by
  obtain ⟨h1, h2, h3, h4⟩ := mix_bd a0 a1 b0 b1 m0
  have hB := mixF_bd a0 a1 b0 b1 m0
  have c1 := fun w => ref2_Mul a (4294967296 - min m 4294967296) a0 a1 (by omega) (by omega) w
  have c2 := fun w => ref2_Mul b (min m 4294967296) b0 b1 (by omega) (by omega) w
  have c3 := fun w => ref2_Add (wHi (a * (4294967296 - min m 4294967296))) (wLo (a * (4294967296 - min m 4294967296))) (wHi (b * min m 4294967296)) (wLo (b * min m 4294967296)) (wHi_bd _).1 (wHi_bd _).2 (wLo_bd _).1 (wLo_bd _).2 (wHi_bd _).1 (wHi_bd _).2 (wLo_bd _).1 (wLo_bd _).2 w
  rw [wN_of h1 (by omega), wN_of h2 (by omega), Int.add_comm (a * (4294967296 - min m 4294967296))] at c3
  have c4 := fun w => ref2_DivP (wHi (b * min m 4294967296 + a * (4294967296 - min m 4294967296))) (wLo (b * min m 4294967296 + a * (4294967296 - min m 4294967296))) 4294967296 (wHi_bd _).1 (wHi_bd _).2 (wLo_bd _).1 (wLo_bd _).2 (by decide) (by decide) w
  rw [wN_of (by omega) (by omega)] at c4
  have e3 : wLo ((b * min m 4294967296 + a * (4294967296 - min m 4294967296)) / 4294967296) = mixF a b m := by
    show wLo (mixF a b m) = _
    unfold wLo; omega
  rw [e3] at c4
  clear e3 h1 h2 h3 h4 hB
  generalize wHi ((b * min m 4294967296 + a * (4294967296 - min m 4294967296)) / 4294967296) = z at *
  generalize (b * min m 4294967296 + a * (4294967296 - min m 4294967296)) % 4294967296 = z' at *
  generalize wOver (b * min m 4294967296 + a * (4294967296 - min m 4294967296)) = o at *
  generalize wHi (b * min m 4294967296 + a * (4294967296 - min m 4294967296)) = X2 at *
  generalize wLo (b * min m 4294967296 + a * (4294967296 - min m 4294967296)) = Y2 at *
  generalize wHi (b * min m 4294967296) = X1 at *
  generalize wLo (b * min m 4294967296) = Y1 at *
  generalize wHi (a * (4294967296 - min m 4294967296)) = X0 at *
  generalize wLo (a * (4294967296 - min m 4294967296)) = Y0 at *
  generalize mixF a b m = M at *
  rcases Int.lt_or_le 4294967296 m with hm | hm
  · rw [show min m 4294967296 = 4294967296 from by omega] at c1 c2
    go_enter Try.func21, Try.ntmps21
    go_wp2_with fail
    refine (c1 _).mono ?_
    rintro r w1 ⟨rfl, hb1⟩
    have hB1 : Below w.heap.size w w1 := by repeat' (first | (with_reducible exact Below.refl _ _) | (with_reducible assumption) | (with_reducible refine Below.trans ?_ (Below.mono hb1 ?_)) | (with_reducible refine Below.alloc ?_ ?_ _) | (with_reducible refine below_drewN ?_ _) | (with_reducible refine Below.drew ?_) | (with_reducible refine Below.setCell ?_ ?_ _) | go_size | omega | (simp; omega))
    have hS1 := hB1.size
    clear hb1
    go_wp2_with fail
    refine (c2 _).mono ?_
    rintro r w2 ⟨rfl, hb2⟩
    have hB2 : Below w.heap.size w w2 := by repeat' (first | (with_reducible exact Below.refl _ _) | (with_reducible assumption) | (with_reducible refine Below.trans ?_ (Below.mono hb2 ?_)) | (with_reducible refine Below.alloc ?_ ?_ _) | (with_reducible refine below_drewN ?_ _) | (with_reducible refine Below.drew ?_) | (with_reducible refine Below.setCell ?_ ?_ _) | go_size | omega | (simp; omega))
    have hS2 := hB2.size
    clear hb2
    go_wp2_with fail
    refine (c3 _).mono ?_
    rintro r w3 ⟨rfl, hb3⟩
    have hB3 : Below w.heap.size w w3 := by repeat' (first | (with_reducible exact Below.refl _ _) | (with_reducible assumption) | (with_reducible refine Below.trans ?_ (Below.mono hb3 ?_)) | (with_reducible refine Below.alloc ?_ ?_ _) | (with_reducible refine below_drewN ?_ _) | (with_reducible refine Below.drew ?_) | (with_reducible refine Below.setCell ?_ ?_ _) | go_size | omega | (simp; omega))
    have hS3 := hB3.size
    clear hb3
    go_wp2_with fail
    refine (c4 _).mono ?_
    rintro r w4 ⟨rfl, hb4⟩
    have hB4 : Below w.heap.size w w4 := by repeat' (first | (with_reducible exact Below.refl _ _) | (with_reducible assumption) | (with_reducible refine Below.trans ?_ (Below.mono hb4 ?_)) | (with_reducible refine Below.alloc ?_ ?_ _) | (with_reducible refine below_drewN ?_ _) | (with_reducible refine Below.drew ?_) | (with_reducible refine Below.setCell ?_ ?_ _) | go_size | omega | (simp; omega))
    have hS4 := hB4.size
    clear hb4
    go_wp2_with fail
    go_ret
    exact ⟨rfl, by repeat' (first | (with_reducible exact Below.refl _ _) | (with_reducible assumption) | (with_reducible refine Below.alloc ?_ ?_ _) | (with_reducible refine below_drewN ?_ _) | (with_reducible refine Below.drew ?_) | (with_reducible refine Below.setCell ?_ ?_ _) | go_size | omega | (simp; omega))⟩
  · rw [show min m 4294967296 = m from by omega] at c1 c2
    go_enter Try.func21, Try.ntmps21
    go_wp2_with fail
    refine (c1 _).mono ?_
    rintro r w1 ⟨rfl, hb1⟩
    have hB1 : Below w.heap.size w w1 := by repeat' (first | (with_reducible exact Below.refl _ _) | (with_reducible assumption) | (with_reducible refine Below.trans ?_ (Below.mono hb1 ?_)) | (with_reducible refine Below.alloc ?_ ?_ _) | (with_reducible refine below_drewN ?_ _) | (with_reducible refine Below.drew ?_) | (with_reducible refine Below.setCell ?_ ?_ _) | go_size | omega | (simp; omega))
    have hS1 := hB1.size
    clear hb1
    go_wp2_with fail
    refine (c2 _).mono ?_
    rintro r w2 ⟨rfl, hb2⟩
    have hB2 : Below w.heap.size w w2 := by repeat' (first | (with_reducible exact Below.refl _ _) | (with_reducible assumption) | (with_reducible refine Below.trans ?_ (Below.mono hb2 ?_)) | (with_reducible refine Below.alloc ?_ ?_ _) | (with_reducible refine below_drewN ?_ _) | (with_reducible refine Below.drew ?_) | (with_reducible refine Below.setCell ?_ ?_ _) | go_size | omega | (simp; omega))
    have hS2 := hB2.size
    clear hb2
    go_wp2_with fail
    refine (c3 _).mono ?_
    rintro r w3 ⟨rfl, hb3⟩
    have hB3 : Below w.heap.size w w3 := by repeat' (first | (with_reducible exact Below.refl _ _) | (with_reducible assumption) | (with_reducible refine Below.trans ?_ (Below.mono hb3 ?_)) | (with_reducible refine Below.alloc ?_ ?_ _) | (with_reducible refine below_drewN ?_ _) | (with_reducible refine Below.drew ?_) | (with_reducible refine Below.setCell ?_ ?_ _) | go_size | omega | (simp; omega))
    have hS3 := hB3.size
    clear hb3
    go_wp2_with fail
    refine (c4 _).mono ?_
    rintro r w4 ⟨rfl, hb4⟩
    have hB4 : Below w.heap.size w w4 := by repeat' (first | (with_reducible exact Below.refl _ _) | (with_reducible assumption) | (with_reducible refine Below.trans ?_ (Below.mono hb4 ?_)) | (with_reducible refine Below.alloc ?_ ?_ _) | (with_reducible refine below_drewN ?_ _) | (with_reducible refine Below.drew ?_) | (with_reducible refine Below.setCell ?_ ?_ _) | go_size | omega | (simp; omega))
    have hS4 := hB4.size
    clear hb4
    go_wp2_with fail
    go_ret
    exact ⟨rfl, by repeat' (first | (with_reducible exact Below.refl _ _) | (with_reducible assumption) | (with_reducible refine Below.alloc ?_ ?_ _) | (with_reducible refine below_drewN ?_ _) | (with_reducible refine Below.drew ?_) | (with_reducible refine Below.setCell ?_ ?_ _) | go_size | omega | (simp; omega))⟩
theorem ref4_Sum {a : Option Addr} {len cap : Nat} {Z : Nat → Int} (hZ : ∀ i, 0 ≤ Z i ∧ Z i < 18446744073709551616) (w : World) (h : IsInts w a len Z) :
    Calls Try.prog 23 #[.slice a len cap] w fun e w' => e = .returned (.int .u64 (sumF Z len)) ∧ w = w' := by
  rcases h with rfl | ⟨b, off, rfl, hl, hr⟩
  · go_enter Try.func23, Try.ntmps23
    go_wp2_with fail
    refine wp_loop_rounds 2 ?_
    rw [rounds_succ]
    go_wp2_with fail
    go_ret
    exact ⟨rfl, rfl⟩
  · have HR := Lib.hid hr
    have HZ := Lib.hid hZ
    clear hr hZ
    go_enter Try.func23, Try.ntmps23
    go_wp2_with fail
    go_loop [3, 4] (fun s i => ∃ k : Nat, k ≤ len ∧ i = .int .i64 k ∧ s = .int .u64 (sumF Z k)) (fun _ i => len - (intOf i).toNat)
    case atStart => exact ⟨0, Nat.zero_le _, rfl, rfl⟩
    case round =>
      obtain ⟨k, hk, rfl, rfl⟩ := hrel
      by_cases hlt : k < len
      · have q := HR.out k hlt
        obtain ⟨z0, z1⟩ := HZ.out k
        obtain ⟨s0, s1⟩ := sumF_bd (fun i => (HZ.out i).1) k
        go_wp2_with (go_at_call 35; refine (ref_Add _ _ s0 z0 z1 _).mono ?_; rintro e w' ⟨rfl, rfl⟩)
        exact ⟨⟨k + 1, by omega, by go_num, rfl⟩, by simp [intOf]; omega⟩
      · obtain rfl : k = len := by omega
        go_wp2_with fail
        go_ret
        exact ⟨rfl, rfl⟩
end Go.Proofs.Ytgmgjbdbdekopaa
