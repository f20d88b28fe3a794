/- The walks of the laws of the layer wide, fifth part: WideProducts. -/
import Derived.Test.YtglbgbgfenndgaaWideL1
set_option linter.unusedVariables false
namespace Go.Proofs.Ytglbgbgfenndgaa
open Go.RowKit Go.Shelf
attribute [local go_sem ↓] lt_alloc

theorem prod_facts {a b c s : Int} (a0 : 0 ≤ a) (a1 : a < 18446744073709551616) (b0 : 0 ≤ b) (b1 : b < 18446744073709551616) (c0 : 0 ≤ c) (c1 : c < 18446744073709551616) (hs : s = (b + c) % 18446744073709551616) :
    wN (wHi (a * b)) (wLo (a * b)) + wN (wHi (a * c)) (wLo (a * c)) = a * b + a * c ∧ (s < b ∨ (wOver (a * b + a * c) = false ∧ a * s = a * b + a * c)) := by
  have p := mul_bd a0 a1 b0 b1
  have q := mul_bd a0 a1 c0 c1
  refine ⟨by rw [wN_of p.1 (by omega), wN_of q.1 (by omega)], ?_⟩
  by_cases h : b + c < 18446744073709551616
  · right
    have e : s = b + c := by omega
    have r := mul_bd a0 a1 (show 0 ≤ b + c by omega) h
    rw [Int.mul_add] at r
    rw [e, Int.mul_add]
    refine ⟨?_, rfl⟩
    unfold wOver; simp only [decide_eq_false_iff_not]; omega
  · left; omega
theorem prod_div {a b : Int} (a0 : 0 ≤ a) (a1 : a < 18446744073709551616) (b0 : 0 < b) : wHi (a * b / b) = 0 ∧ wLo (a * b / b) = a ∧ a * b % b = 0 := by
  rw [Int.mul_ediv_cancel _ (show b ≠ 0 by omega), Int.mul_emod_left]
  unfold wHi wLo; omega
set_option maxRecDepth 100000 in
set_option maxHeartbeats 1000000 in
theorem prod_core1 (a b c s H1 L1 H2 L2 X Y H3 L3 Q0 Q1 E : Int) (o : Bool) (b0 : 0 ≤ b) (b1 : b < 18446744073709551616) (c0 : 0 ≤ c) (c1 : c < 18446744073709551616) (w : World)
    (hs : IntKind.u64.wrap (b + c) = s) (hlb : decide (s < b) = false) (hone : false = false → o = false ∧ X = H3 ∧ Y = L3) (hb : (b == 0) = false) (hbp : decide (0 < b) = true)
    (hE : (E == 20) = false) (hQ : false = false → Q0 = 0 ∧ Q1 = a)
    (k1 : ∀ w, Calls Try.prog 16 #[.int .u64 a, .int .u64 b] w fun r w' => r = .returned (.agg #[.int .u64 H1, .int .u64 L1]) ∧ Below w.heap.size w w')
    (k1' : ∀ w, Calls Try.prog 16 #[.int .u64 b, .int .u64 a] w fun r w' => r = .returned (.agg #[.int .u64 H1, .int .u64 L1]) ∧ Below w.heap.size w w')
    (k2 : ∀ w, Calls Try.prog 16 #[.int .u64 a, .int .u64 c] w fun r w' => r = .returned (.agg #[.int .u64 H2, .int .u64 L2]) ∧ Below w.heap.size w w')
    (k3 : ∀ w, Calls Try.prog 16 #[.int .u64 a, .int .u64 s] w fun r w' => r = .returned (.agg #[.int .u64 H3, .int .u64 L3]) ∧ Below w.heap.size w w')
    (k4 : ∀ w, Calls Try.prog 16 #[.int .u64 a, .int .u64 1] w fun r w' => r = .returned (.agg #[.int .u64 0, .int .u64 a]) ∧ Below w.heap.size w w')
    (k5 : ∀ w, Calls Try.prog 10 #[.agg #[.int .u64 H1, .int .u64 L1], .agg #[.int .u64 H2, .int .u64 L2]] w fun r w' => r = .returned (.tuple #[.agg #[.int .u64 X, .int .u64 Y], .bool o]) ∧ Below w.heap.size w w')
    (k6 : ∀ w, Calls Try.prog 14 #[.agg #[.int .u64 H1, .int .u64 L1], .int .u64 b] w fun r w' => r = .returned (.tuple #[.agg #[.int .u64 Q0, .int .u64 Q1], .int .u64 0, .int .i64 E]) ∧ Below w.heap.size w w')
    (k7 : ∀ w, Calls Try.prog 22 #[.int .u64 a] w fun r w' => r = .returned (.agg #[.int .u64 0, .int .u64 a]) ∧ Below w.heap.size w w') :
    Calls Try.prog 6 #[.int .u64 a, .int .u64 b, .int .u64 c] w fun r w' => r = .returned (.bool true) ∧ Below w.heap.size w w' := by
  obtain ⟨rfl, rfl, rfl⟩ := hone rfl
  obtain ⟨rfl, rfl⟩ := hQ rfl
  clear hone hQ
  go_enter Try.func6, Try.ntmps6
  go_wp2_with fail
  refine (awake2_any _).mono ?_
  rintro r w1 ⟨rfl, hb1⟩
  have hB1 : Below w.heap.size w w1 := by repeat' (first | (with_reducible exact Below.refl _ _) | (with_reducible assumption) | (with_reducible refine Below.trans ?_ (Below.mono hb1 ?_)) | (with_reducible refine Below.alloc ?_ ?_ _) | (with_reducible refine below_drewN ?_ _) | (with_reducible refine Below.drew ?_) | (with_reducible refine Below.setCell ?_ ?_ _) | go_size | omega | (simp; omega))
  have hS1 := hB1.size
  clear hb1
  go_wp2_with fail
  refine (k1 _).mono ?_
  rintro r w2 ⟨rfl, hb2⟩
  have hB2 : Below w.heap.size w w2 := by repeat' (first | (with_reducible exact Below.refl _ _) | (with_reducible assumption) | (with_reducible refine Below.trans ?_ (Below.mono hb2 ?_)) | (with_reducible refine Below.alloc ?_ ?_ _) | (with_reducible refine below_drewN ?_ _) | (with_reducible refine Below.drew ?_) | (with_reducible refine Below.setCell ?_ ?_ _) | go_size | omega | (simp; omega))
  have hS2 := hB2.size
  clear hb2
  go_wp2_with fail
  refine (k2 _).mono ?_
  rintro r w3 ⟨rfl, hb3⟩
  have hB3 : Below w.heap.size w w3 := by repeat' (first | (with_reducible exact Below.refl _ _) | (with_reducible assumption) | (with_reducible refine Below.trans ?_ (Below.mono hb3 ?_)) | (with_reducible refine Below.alloc ?_ ?_ _) | (with_reducible refine below_drewN ?_ _) | (with_reducible refine Below.drew ?_) | (with_reducible refine Below.setCell ?_ ?_ _) | go_size | omega | (simp; omega))
  have hS3 := hB3.size
  clear hb3
  go_wp2_with fail
  refine (k5 _).mono ?_
  rintro r w4 ⟨rfl, hb4⟩
  have hB4 : Below w.heap.size w w4 := by repeat' (first | (with_reducible exact Below.refl _ _) | (with_reducible assumption) | (with_reducible refine Below.trans ?_ (Below.mono hb4 ?_)) | (with_reducible refine Below.alloc ?_ ?_ _) | (with_reducible refine below_drewN ?_ _) | (with_reducible refine Below.drew ?_) | (with_reducible refine Below.setCell ?_ ?_ _) | go_size | omega | (simp; omega))
  have hS4 := hB4.size
  clear hb4
  go_upto_region 4 with fail
  refine forget (fun W => W.cell? ⟨w4.heap.size, 0, none⟩ = some (.int .u64 X) ∧ W.cell? ⟨w4.heap.size, 1, none⟩ = some (.int .u64 Y) ∧ Below w.heap.size w W) ⟨?_, ?_, ?_⟩ ?_
  · repeat (first | (with_reducible assumption) | (simp (maxDischargeDepth := 9) [go_sem]; done) | refine keepA _ ?_ | refine keepD _ ?_)
  · repeat (first | (with_reducible assumption) | (simp (maxDischargeDepth := 9) [go_sem]; done) | refine keepA _ ?_ | refine keepD _ ?_)
  · repeat' (first | (with_reducible exact Below.refl _ _) | (with_reducible assumption) | (with_reducible refine Below.alloc ?_ ?_ _) | (with_reducible refine below_drewN ?_ _) | (with_reducible refine Below.drew ?_) | (with_reducible refine Below.setCell ?_ ?_ _) | go_size | omega | (simp; omega))
  rintro W ⟨c1, c2, hB⟩
  have u1 := Under.cell c1; have u2 := Under.cell c2
  clear c1 c2
  (refine region_under (by kernel_rfl) (by kernel_rfl) ?_; (repeat (first | go_big_quiet_step ((go_at_call 16; exact quietU (k3 _))) | quiet_step ((go_at_call 16; exact quietU (k3 _))))); refine wpQuiet_nil ?_; intro _ hw'; obtain ⟨x, hw''⟩ := hw'; subst hw''; go_wp2_with fail)
  have hBx : Below w.heap.size w x.w := hB.trans (x.2.mono hB.size)
  have hSx : w.heap.size ≤ x.w.heap.size := hBx.size
  clear u1 u2
  go_wp2_with fail
  refine (k1 _).mono ?_
  rintro r w5 ⟨rfl, hb5⟩
  have hB5 : Below w.heap.size w w5 := by repeat' (first | (with_reducible exact Below.refl _ _) | (with_reducible assumption) | (with_reducible refine Below.trans ?_ (Below.mono hb5 ?_)) | (with_reducible refine Below.alloc ?_ ?_ _) | (with_reducible refine below_drewN ?_ _) | (with_reducible refine Below.drew ?_) | (with_reducible refine Below.setCell ?_ ?_ _) | go_size | omega | (simp; omega))
  have hS5 := hB5.size
  clear hb5
  go_wp2_with fail
  refine (k6 _).mono ?_
  rintro r w6 ⟨rfl, hb6⟩
  have hB6 : Below w.heap.size w w6 := by repeat' (first | (with_reducible exact Below.refl _ _) | (with_reducible assumption) | (with_reducible refine Below.trans ?_ (Below.mono hb6 ?_)) | (with_reducible refine Below.alloc ?_ ?_ _) | (with_reducible refine below_drewN ?_ _) | (with_reducible refine Below.drew ?_) | (with_reducible refine Below.setCell ?_ ?_ _) | go_size | omega | (simp; omega))
  have hS6 := hB6.size
  clear hb6
  go_upto_region 6 with fail
  refine forget (fun W => W.cell? ⟨w6.heap.size, 0, none⟩ = some (.int .u64 0) ∧ W.cell? ⟨w6.heap.size, 1, none⟩ = some (.int .u64 Q1) ∧ Below w.heap.size w W) ⟨?_, ?_, ?_⟩ ?_
  · repeat (first | (with_reducible assumption) | (simp (maxDischargeDepth := 9) [go_sem]; done) | refine keepA _ ?_ | refine keepD _ ?_)
  · repeat (first | (with_reducible assumption) | (simp (maxDischargeDepth := 9) [go_sem]; done) | refine keepA _ ?_ | refine keepD _ ?_)
  · repeat' (first | (with_reducible exact Below.refl _ _) | (with_reducible assumption) | (with_reducible refine Below.alloc ?_ ?_ _) | (with_reducible refine below_drewN ?_ _) | (with_reducible refine Below.drew ?_) | (with_reducible refine Below.setCell ?_ ?_ _) | go_size | omega | (simp; omega))
  rintro W' ⟨c1, c2, hB'⟩
  have u1 := Under.cell c1; have u2 := Under.cell c2
  clear c1 c2
  (refine region_under (by kernel_rfl) (by kernel_rfl) ?_; (repeat (first | go_big_quiet_step ((first | (go_at_call 16; with_reducible exact quietU (k1 _)) | (go_at_call 16; with_reducible exact quietU (k1' _)) | (go_at_call 16; with_reducible exact quietU (k4 _)) | (go_at_call 22; exact quietU (k7 _)))) | quiet_step ((first | (go_at_call 16; with_reducible exact quietU (k1 _)) | (go_at_call 16; with_reducible exact quietU (k1' _)) | (go_at_call 16; with_reducible exact quietU (k4 _)) | (go_at_call 22; exact quietU (k7 _)))))); refine wpQuiet_nil ?_; intro _ hw'; obtain ⟨x, hw''⟩ := hw'; subst hw''; go_wp2_with fail)
  go_ret
  exact ⟨rfl, hB'.trans (x.2.mono hB'.size)⟩
set_option maxRecDepth 100000 in
set_option maxHeartbeats 1000000 in
theorem prod_core2 (a b c s H1 L1 H2 L2 X Y H3 L3 Q0 Q1 E : Int) (o : Bool) (b0 : 0 ≤ b) (b1 : b < 18446744073709551616) (c0 : 0 ≤ c) (c1 : c < 18446744073709551616) (w : World)
    (hs : IntKind.u64.wrap (b + c) = s) (hlb : decide (s < b) = false) (hone : false = false → o = false ∧ X = H3 ∧ Y = L3) (hb : (b == 0) = true) (hbp : decide (0 < b) = false)
    (hE : (E == 20) = true) (hQ : true = false → Q0 = 0 ∧ Q1 = a)
    (k1 : ∀ w, Calls Try.prog 16 #[.int .u64 a, .int .u64 b] w fun r w' => r = .returned (.agg #[.int .u64 H1, .int .u64 L1]) ∧ Below w.heap.size w w')
    (k1' : ∀ w, Calls Try.prog 16 #[.int .u64 b, .int .u64 a] w fun r w' => r = .returned (.agg #[.int .u64 H1, .int .u64 L1]) ∧ Below w.heap.size w w')
    (k2 : ∀ w, Calls Try.prog 16 #[.int .u64 a, .int .u64 c] w fun r w' => r = .returned (.agg #[.int .u64 H2, .int .u64 L2]) ∧ Below w.heap.size w w')
    (k3 : ∀ w, Calls Try.prog 16 #[.int .u64 a, .int .u64 s] w fun r w' => r = .returned (.agg #[.int .u64 H3, .int .u64 L3]) ∧ Below w.heap.size w w')
    (k4 : ∀ w, Calls Try.prog 16 #[.int .u64 a, .int .u64 1] w fun r w' => r = .returned (.agg #[.int .u64 0, .int .u64 a]) ∧ Below w.heap.size w w')
    (k5 : ∀ w, Calls Try.prog 10 #[.agg #[.int .u64 H1, .int .u64 L1], .agg #[.int .u64 H2, .int .u64 L2]] w fun r w' => r = .returned (.tuple #[.agg #[.int .u64 X, .int .u64 Y], .bool o]) ∧ Below w.heap.size w w')
    (k6 : ∀ w, Calls Try.prog 14 #[.agg #[.int .u64 H1, .int .u64 L1], .int .u64 b] w fun r w' => r = .returned (.tuple #[.agg #[.int .u64 Q0, .int .u64 Q1], .int .u64 0, .int .i64 E]) ∧ Below w.heap.size w w')
    (k7 : ∀ w, Calls Try.prog 22 #[.int .u64 a] w fun r w' => r = .returned (.agg #[.int .u64 0, .int .u64 a]) ∧ Below w.heap.size w w') :
    Calls Try.prog 6 #[.int .u64 a, .int .u64 b, .int .u64 c] w fun r w' => r = .returned (.bool true) ∧ Below w.heap.size w w' := by
  obtain ⟨rfl, rfl, rfl⟩ := hone rfl
  clear hone hQ
  obtain rfl : E = 20 := by simpa using hE
  obtain rfl : b = 0 := by simpa using hb
  obtain rfl : s = c := by rw [IntKind.wrap_u64] at hs; omega
  clear hs
  go_enter Try.func6, Try.ntmps6
  go_wp2_with fail
  refine (awake2_any _).mono ?_
  rintro r w1 ⟨rfl, hb1⟩
  have hB1 : Below w.heap.size w w1 := by repeat' (first | (with_reducible exact Below.refl _ _) | (with_reducible assumption) | (with_reducible refine Below.trans ?_ (Below.mono hb1 ?_)) | (with_reducible refine Below.alloc ?_ ?_ _) | (with_reducible refine below_drewN ?_ _) | (with_reducible refine Below.drew ?_) | (with_reducible refine Below.setCell ?_ ?_ _) | go_size | omega | (simp; omega))
  have hS1 := hB1.size
  clear hb1
  go_wp2_with fail
  refine (k1 _).mono ?_
  rintro r w2 ⟨rfl, hb2⟩
  have hB2 : Below w.heap.size w w2 := by repeat' (first | (with_reducible exact Below.refl _ _) | (with_reducible assumption) | (with_reducible refine Below.trans ?_ (Below.mono hb2 ?_)) | (with_reducible refine Below.alloc ?_ ?_ _) | (with_reducible refine below_drewN ?_ _) | (with_reducible refine Below.drew ?_) | (with_reducible refine Below.setCell ?_ ?_ _) | go_size | omega | (simp; omega))
  have hS2 := hB2.size
  clear hb2
  go_wp2_with fail
  refine (k2 _).mono ?_
  rintro r w3 ⟨rfl, hb3⟩
  have hB3 : Below w.heap.size w w3 := by repeat' (first | (with_reducible exact Below.refl _ _) | (with_reducible assumption) | (with_reducible refine Below.trans ?_ (Below.mono hb3 ?_)) | (with_reducible refine Below.alloc ?_ ?_ _) | (with_reducible refine below_drewN ?_ _) | (with_reducible refine Below.drew ?_) | (with_reducible refine Below.setCell ?_ ?_ _) | go_size | omega | (simp; omega))
  have hS3 := hB3.size
  clear hb3
  go_wp2_with fail
  refine (k5 _).mono ?_
  rintro r w4 ⟨rfl, hb4⟩
  have hB4 : Below w.heap.size w w4 := by repeat' (first | (with_reducible exact Below.refl _ _) | (with_reducible assumption) | (with_reducible refine Below.trans ?_ (Below.mono hb4 ?_)) | (with_reducible refine Below.alloc ?_ ?_ _) | (with_reducible refine below_drewN ?_ _) | (with_reducible refine Below.drew ?_) | (with_reducible refine Below.setCell ?_ ?_ _) | go_size | omega | (simp; omega))
  have hS4 := hB4.size
  clear hb4
  go_upto_region 4 with fail
  refine forget (fun W => W.cell? ⟨w4.heap.size, 0, none⟩ = some (.int .u64 X) ∧ W.cell? ⟨w4.heap.size, 1, none⟩ = some (.int .u64 Y) ∧ Below w.heap.size w W) ⟨?_, ?_, ?_⟩ ?_
  · repeat (first | (with_reducible assumption) | (simp (maxDischargeDepth := 9) [go_sem]; done) | refine keepA _ ?_ | refine keepD _ ?_)
  · repeat (first | (with_reducible assumption) | (simp (maxDischargeDepth := 9) [go_sem]; done) | refine keepA _ ?_ | refine keepD _ ?_)
  · repeat' (first | (with_reducible exact Below.refl _ _) | (with_reducible assumption) | (with_reducible refine Below.alloc ?_ ?_ _) | (with_reducible refine below_drewN ?_ _) | (with_reducible refine Below.drew ?_) | (with_reducible refine Below.setCell ?_ ?_ _) | go_size | omega | (simp; omega))
  rintro W ⟨c1, c2, hB⟩
  have u1 := Under.cell c1; have u2 := Under.cell c2
  clear c1 c2
  (refine region_under (by kernel_rfl) (by kernel_rfl) ?_; (repeat (first | go_big_quiet_step ((go_at_call 16; exact quietU (k3 _))) | quiet_step ((go_at_call 16; exact quietU (k3 _))))); refine wpQuiet_nil ?_; intro _ hw'; obtain ⟨x, hw''⟩ := hw'; subst hw''; go_wp2_with fail)
  have hBx : Below w.heap.size w x.w := hB.trans (x.2.mono hB.size)
  have hSx : w.heap.size ≤ x.w.heap.size := hBx.size
  clear u1 u2
  go_wp2_with fail
  refine (k1 _).mono ?_
  rintro r w5 ⟨rfl, hb5⟩
  have hB5 : Below w.heap.size w w5 := by repeat' (first | (with_reducible exact Below.refl _ _) | (with_reducible assumption) | (with_reducible refine Below.trans ?_ (Below.mono hb5 ?_)) | (with_reducible refine Below.alloc ?_ ?_ _) | (with_reducible refine below_drewN ?_ _) | (with_reducible refine Below.drew ?_) | (with_reducible refine Below.setCell ?_ ?_ _) | go_size | omega | (simp; omega))
  have hS5 := hB5.size
  clear hb5
  go_wp2_with fail
  refine (k6 _).mono ?_
  rintro r w6 ⟨rfl, hb6⟩
  have hB6 : Below w.heap.size w w6 := by repeat' (first | (with_reducible exact Below.refl _ _) | (with_reducible assumption) | (with_reducible refine Below.trans ?_ (Below.mono hb6 ?_)) | (with_reducible refine Below.alloc ?_ ?_ _) | (with_reducible refine below_drewN ?_ _) | (with_reducible refine Below.drew ?_) | (with_reducible refine Below.setCell ?_ ?_ _) | go_size | omega | (simp; omega))
  have hS6 := hB6.size
  clear hb6
  go_upto_region 6 with fail
  refine forget (fun W => W.cell? ⟨w6.heap.size, 0, none⟩ = some (.int .u64 Q0) ∧ W.cell? ⟨w6.heap.size, 1, none⟩ = some (.int .u64 Q1) ∧ Below w.heap.size w W) ⟨?_, ?_, ?_⟩ ?_
  · repeat (first | (with_reducible assumption) | (simp (maxDischargeDepth := 9) [go_sem]; done) | refine keepA _ ?_ | refine keepD _ ?_)
  · repeat (first | (with_reducible assumption) | (simp (maxDischargeDepth := 9) [go_sem]; done) | refine keepA _ ?_ | refine keepD _ ?_)
  · repeat' (first | (with_reducible exact Below.refl _ _) | (with_reducible assumption) | (with_reducible refine Below.alloc ?_ ?_ _) | (with_reducible refine below_drewN ?_ _) | (with_reducible refine Below.drew ?_) | (with_reducible refine Below.setCell ?_ ?_ _) | go_size | omega | (simp; omega))
  rintro W' ⟨c1, c2, hB'⟩
  have u1 := Under.cell c1; have u2 := Under.cell c2
  clear c1 c2
  (refine region_under (by kernel_rfl) (by kernel_rfl) ?_; (repeat (first | go_big_quiet_step ((first | (go_at_call 16; with_reducible exact quietU (k1 _)) | (go_at_call 16; with_reducible exact quietU (k1' _)) | (go_at_call 16; with_reducible exact quietU (k4 _)) | (go_at_call 22; exact quietU (k7 _)))) | quiet_step ((first | (go_at_call 16; with_reducible exact quietU (k1 _)) | (go_at_call 16; with_reducible exact quietU (k1' _)) | (go_at_call 16; with_reducible exact quietU (k4 _)) | (go_at_call 22; exact quietU (k7 _)))))); refine wpQuiet_nil ?_; intro _ hw'; obtain ⟨x, hw''⟩ := hw'; subst hw''; go_wp2_with fail)
  go_ret
  exact ⟨rfl, hB'.trans (x.2.mono hB'.size)⟩
set_option maxRecDepth 100000 in
set_option maxHeartbeats 1000000 in
theorem prod_core3 (a b c s H1 L1 H2 L2 X Y H3 L3 Q0 Q1 E : Int) (o : Bool) (b0 : 0 ≤ b) (b1 : b < 18446744073709551616) (c0 : 0 ≤ c) (c1 : c < 18446744073709551616) (w : World)
    (hs : IntKind.u64.wrap (b + c) = s) (hlb : decide (s < b) = true) (hone : true = false → o = false ∧ X = H3 ∧ Y = L3) (hb : (b == 0) = false) (hbp : decide (0 < b) = true)
    (hE : (E == 20) = false) (hQ : false = false → Q0 = 0 ∧ Q1 = a)
    (k1 : ∀ w, Calls Try.prog 16 #[.int .u64 a, .int .u64 b] w fun r w' => r = .returned (.agg #[.int .u64 H1, .int .u64 L1]) ∧ Below w.heap.size w w')
    (k1' : ∀ w, Calls Try.prog 16 #[.int .u64 b, .int .u64 a] w fun r w' => r = .returned (.agg #[.int .u64 H1, .int .u64 L1]) ∧ Below w.heap.size w w')
    (k2 : ∀ w, Calls Try.prog 16 #[.int .u64 a, .int .u64 c] w fun r w' => r = .returned (.agg #[.int .u64 H2, .int .u64 L2]) ∧ Below w.heap.size w w')
    (k3 : ∀ w, Calls Try.prog 16 #[.int .u64 a, .int .u64 s] w fun r w' => r = .returned (.agg #[.int .u64 H3, .int .u64 L3]) ∧ Below w.heap.size w w')
    (k4 : ∀ w, Calls Try.prog 16 #[.int .u64 a, .int .u64 1] w fun r w' => r = .returned (.agg #[.int .u64 0, .int .u64 a]) ∧ Below w.heap.size w w')
    (k5 : ∀ w, Calls Try.prog 10 #[.agg #[.int .u64 H1, .int .u64 L1], .agg #[.int .u64 H2, .int .u64 L2]] w fun r w' => r = .returned (.tuple #[.agg #[.int .u64 X, .int .u64 Y], .bool o]) ∧ Below w.heap.size w w')
    (k6 : ∀ w, Calls Try.prog 14 #[.agg #[.int .u64 H1, .int .u64 L1], .int .u64 b] w fun r w' => r = .returned (.tuple #[.agg #[.int .u64 Q0, .int .u64 Q1], .int .u64 0, .int .i64 E]) ∧ Below w.heap.size w w')
    (k7 : ∀ w, Calls Try.prog 22 #[.int .u64 a] w fun r w' => r = .returned (.agg #[.int .u64 0, .int .u64 a]) ∧ Below w.heap.size w w') :
    Calls Try.prog 6 #[.int .u64 a, .int .u64 b, .int .u64 c] w fun r w' => r = .returned (.bool true) ∧ Below w.heap.size w w' := by
  obtain ⟨rfl, rfl⟩ := hQ rfl
  clear hone hQ
  go_enter Try.func6, Try.ntmps6
  go_wp2_with fail
  refine (awake2_any _).mono ?_
  rintro r w1 ⟨rfl, hb1⟩
  have hB1 : Below w.heap.size w w1 := by repeat' (first | (with_reducible exact Below.refl _ _) | (with_reducible assumption) | (with_reducible refine Below.trans ?_ (Below.mono hb1 ?_)) | (with_reducible refine Below.alloc ?_ ?_ _) | (with_reducible refine below_drewN ?_ _) | (with_reducible refine Below.drew ?_) | (with_reducible refine Below.setCell ?_ ?_ _) | go_size | omega | (simp; omega))
  have hS1 := hB1.size
  clear hb1
  go_wp2_with fail
  refine (k1 _).mono ?_
  rintro r w2 ⟨rfl, hb2⟩
  have hB2 : Below w.heap.size w w2 := by repeat' (first | (with_reducible exact Below.refl _ _) | (with_reducible assumption) | (with_reducible refine Below.trans ?_ (Below.mono hb2 ?_)) | (with_reducible refine Below.alloc ?_ ?_ _) | (with_reducible refine below_drewN ?_ _) | (with_reducible refine Below.drew ?_) | (with_reducible refine Below.setCell ?_ ?_ _) | go_size | omega | (simp; omega))
  have hS2 := hB2.size
  clear hb2
  go_wp2_with fail
  refine (k2 _).mono ?_
  rintro r w3 ⟨rfl, hb3⟩
  have hB3 : Below w.heap.size w w3 := by repeat' (first | (with_reducible exact Below.refl _ _) | (with_reducible assumption) | (with_reducible refine Below.trans ?_ (Below.mono hb3 ?_)) | (with_reducible refine Below.alloc ?_ ?_ _) | (with_reducible refine below_drewN ?_ _) | (with_reducible refine Below.drew ?_) | (with_reducible refine Below.setCell ?_ ?_ _) | go_size | omega | (simp; omega))
  have hS3 := hB3.size
  clear hb3
  go_wp2_with fail
  refine (k5 _).mono ?_
  rintro r w4 ⟨rfl, hb4⟩
  have hB4 : Below w.heap.size w w4 := by repeat' (first | (with_reducible exact Below.refl _ _) | (with_reducible assumption) | (with_reducible refine Below.trans ?_ (Below.mono hb4 ?_)) | (with_reducible refine Below.alloc ?_ ?_ _) | (with_reducible refine below_drewN ?_ _) | (with_reducible refine Below.drew ?_) | (with_reducible refine Below.setCell ?_ ?_ _) | go_size | omega | (simp; omega))
  have hS4 := hB4.size
  clear hb4
  go_upto_region 4 with fail
  refine forget (fun W => W.cell? ⟨w4.heap.size, 0, none⟩ = some (.int .u64 X) ∧ W.cell? ⟨w4.heap.size, 1, none⟩ = some (.int .u64 Y) ∧ Below w.heap.size w W) ⟨?_, ?_, ?_⟩ ?_
  · repeat (first | (with_reducible assumption) | (simp (maxDischargeDepth := 9) [go_sem]; done) | refine keepA _ ?_ | refine keepD _ ?_)
  · repeat (first | (with_reducible assumption) | (simp (maxDischargeDepth := 9) [go_sem]; done) | refine keepA _ ?_ | refine keepD _ ?_)
  · repeat' (first | (with_reducible exact Below.refl _ _) | (with_reducible assumption) | (with_reducible refine Below.alloc ?_ ?_ _) | (with_reducible refine below_drewN ?_ _) | (with_reducible refine Below.drew ?_) | (with_reducible refine Below.setCell ?_ ?_ _) | go_size | omega | (simp; omega))
  rintro W ⟨c1, c2, hB⟩
  have u1 := Under.cell c1; have u2 := Under.cell c2
  clear c1 c2
  (refine region_under (by kernel_rfl) (by kernel_rfl) ?_; (repeat (first | go_big_quiet_step (fail) | quiet_step (fail))); refine wpQuiet_nil ?_; intro _ hw'; obtain ⟨x, hw''⟩ := hw'; subst hw''; go_wp2_with fail)
  have hBx : Below w.heap.size w x.w := hB.trans (x.2.mono hB.size)
  have hSx : w.heap.size ≤ x.w.heap.size := hBx.size
  clear u1 u2
  go_wp2_with fail
  refine (k1 _).mono ?_
  rintro r w5 ⟨rfl, hb5⟩
  have hB5 : Below w.heap.size w w5 := by repeat' (first | (with_reducible exact Below.refl _ _) | (with_reducible assumption) | (with_reducible refine Below.trans ?_ (Below.mono hb5 ?_)) | (with_reducible refine Below.alloc ?_ ?_ _) | (with_reducible refine below_drewN ?_ _) | (with_reducible refine Below.drew ?_) | (with_reducible refine Below.setCell ?_ ?_ _) | go_size | omega | (simp; omega))
  have hS5 := hB5.size
  clear hb5
  go_wp2_with fail
  refine (k6 _).mono ?_
  rintro r w6 ⟨rfl, hb6⟩
  have hB6 : Below w.heap.size w w6 := by repeat' (first | (with_reducible exact Below.refl _ _) | (with_reducible assumption) | (with_reducible refine Below.trans ?_ (Below.mono hb6 ?_)) | (with_reducible refine Below.alloc ?_ ?_ _) | (with_reducible refine below_drewN ?_ _) | (with_reducible refine Below.drew ?_) | (with_reducible refine Below.setCell ?_ ?_ _) | go_size | omega | (simp; omega))
  have hS6 := hB6.size
  clear hb6
  go_upto_region 6 with fail
  refine forget (fun W => W.cell? ⟨w6.heap.size, 0, none⟩ = some (.int .u64 0) ∧ W.cell? ⟨w6.heap.size, 1, none⟩ = some (.int .u64 Q1) ∧ Below w.heap.size w W) ⟨?_, ?_, ?_⟩ ?_
  · repeat (first | (with_reducible assumption) | (simp (maxDischargeDepth := 9) [go_sem]; done) | refine keepA _ ?_ | refine keepD _ ?_)
  · repeat (first | (with_reducible assumption) | (simp (maxDischargeDepth := 9) [go_sem]; done) | refine keepA _ ?_ | refine keepD _ ?_)
  · repeat' (first | (with_reducible exact Below.refl _ _) | (with_reducible assumption) | (with_reducible refine Below.alloc ?_ ?_ _) | (with_reducible refine below_drewN ?_ _) | (with_reducible refine Below.drew ?_) | (with_reducible refine Below.setCell ?_ ?_ _) | go_size | omega | (simp; omega))
  rintro W' ⟨c1, c2, hB'⟩
  have u1 := Under.cell c1; have u2 := Under.cell c2
  clear c1 c2
  (refine region_under (by kernel_rfl) (by kernel_rfl) ?_; (repeat (first | go_big_quiet_step ((first | (go_at_call 16; with_reducible exact quietU (k1 _)) | (go_at_call 16; with_reducible exact quietU (k1' _)) | (go_at_call 16; with_reducible exact quietU (k4 _)) | (go_at_call 22; exact quietU (k7 _)))) | quiet_step ((first | (go_at_call 16; with_reducible exact quietU (k1 _)) | (go_at_call 16; with_reducible exact quietU (k1' _)) | (go_at_call 16; with_reducible exact quietU (k4 _)) | (go_at_call 22; exact quietU (k7 _)))))); refine wpQuiet_nil ?_; intro _ hw'; obtain ⟨x, hw''⟩ := hw'; subst hw''; go_wp2_with fail)
  go_ret
  exact ⟨rfl, hB'.trans (x.2.mono hB'.size)⟩
set_option maxRecDepth 100000 in
set_option maxHeartbeats 1000000 in
theorem prod_core (a b c s H1 L1 H2 L2 X Y H3 L3 Q0 Q1 E : Int) (o lb ob : Bool) (b0 : 0 ≤ b) (b1 : b < 18446744073709551616) (c0 : 0 ≤ c) (c1 : c < 18446744073709551616) (w : World)
    (hs : IntKind.u64.wrap (b + c) = s) (hlb : decide (s < b) = lb) (hone : lb = false → o = false ∧ X = H3 ∧ Y = L3) (hb : (b == 0) = ob) (hbp : decide (0 < b) = !ob)
    (hE : (E == 20) = ob) (hQ : ob = false → Q0 = 0 ∧ Q1 = a)
    (k1 : ∀ w, Calls Try.prog 16 #[.int .u64 a, .int .u64 b] w fun r w' => r = .returned (.agg #[.int .u64 H1, .int .u64 L1]) ∧ Below w.heap.size w w')
    (k1' : ∀ w, Calls Try.prog 16 #[.int .u64 b, .int .u64 a] w fun r w' => r = .returned (.agg #[.int .u64 H1, .int .u64 L1]) ∧ Below w.heap.size w w')
    (k2 : ∀ w, Calls Try.prog 16 #[.int .u64 a, .int .u64 c] w fun r w' => r = .returned (.agg #[.int .u64 H2, .int .u64 L2]) ∧ Below w.heap.size w w')
    (k3 : ∀ w, Calls Try.prog 16 #[.int .u64 a, .int .u64 s] w fun r w' => r = .returned (.agg #[.int .u64 H3, .int .u64 L3]) ∧ Below w.heap.size w w')
    (k4 : ∀ w, Calls Try.prog 16 #[.int .u64 a, .int .u64 1] w fun r w' => r = .returned (.agg #[.int .u64 0, .int .u64 a]) ∧ Below w.heap.size w w')
    (k5 : ∀ w, Calls Try.prog 10 #[.agg #[.int .u64 H1, .int .u64 L1], .agg #[.int .u64 H2, .int .u64 L2]] w fun r w' => r = .returned (.tuple #[.agg #[.int .u64 X, .int .u64 Y], .bool o]) ∧ Below w.heap.size w w')
    (k6 : ∀ w, Calls Try.prog 14 #[.agg #[.int .u64 H1, .int .u64 L1], .int .u64 b] w fun r w' => r = .returned (.tuple #[.agg #[.int .u64 Q0, .int .u64 Q1], .int .u64 0, .int .i64 E]) ∧ Below w.heap.size w w')
    (k7 : ∀ w, Calls Try.prog 22 #[.int .u64 a] w fun r w' => r = .returned (.agg #[.int .u64 0, .int .u64 a]) ∧ Below w.heap.size w w') :
    Calls Try.prog 6 #[.int .u64 a, .int .u64 b, .int .u64 c] w fun r w' => r = .returned (.bool true) ∧ Below w.heap.size w w' := by
  cases lb
  · cases ob
    · exact prod_core1 a b c s H1 L1 H2 L2 X Y H3 L3 Q0 Q1 E o b0 b1 c0 c1 w hs hlb hone hb hbp hE hQ k1 k1' k2 k3 k4 k5 k6 k7
    · exact prod_core2 a b c s H1 L1 H2 L2 X Y H3 L3 Q0 Q1 E o b0 b1 c0 c1 w hs hlb hone hb hbp hE hQ k1 k1' k2 k3 k4 k5 k6 k7
  · cases ob
    · exact prod_core3 a b c s H1 L1 H2 L2 X Y H3 L3 Q0 Q1 E o b0 b1 c0 c1 w hs hlb hone hb hbp hE hQ k1 k1' k2 k3 k4 k5 k6 k7
    · exfalso
      have h1 : b = 0 := by simpa using hb
      have h2 : s < b := by simpa using hlb
      rw [IntKind.wrap_u64] at hs
      omega
theorem prod_law (a b c : Int) (w0 : (Lit.int .u64 a).wf = true) (w1 : (Lit.int .u64 b).wf = true) (w2 : (Lit.int .u64 c).wf = true) (w : World) :
    Calls Try.prog 6 #[.int .u64 a, .int .u64 b, .int .u64 c] w fun r w' => r = .returned (.bool true) ∧ Below w.heap.size w w' := by
  have h0 := bounds_u64 w0; have h1 := bounds_u64 w1; have h2 := bounds_u64 w2
  have a0 : 0 ≤ a := by omega
  have a1 : a < 18446744073709551616 := by omega
  have b0 : 0 ≤ b := by omega
  have b1 : b < 18446744073709551616 := by omega
  have c0 : 0 ≤ c := by omega
  have c1 : c < 18446744073709551616 := by omega
  obtain ⟨f1, f2⟩ := prod_facts a0 a1 b0 b1 c0 c1 rfl
  have s0 : 0 ≤ (b + c) % 18446744073709551616 := by omega
  have s1 : (b + c) % 18446744073709551616 < 18446744073709551616 := by omega
  have k5 := fun w => wide_Add (wHi (a * b)) (wLo (a * b)) (wHi (a * c)) (wLo (a * c)) (wHi_bd _).1 (wHi_bd _).2 (wLo_bd _).1 (wLo_bd _).2 (wHi_bd _).1 (wHi_bd _).2 (wLo_bd _).1 (wLo_bd _).2 w
  rw [f1] at k5
  have k1' := fun w => wide_Mul b a b0 b1 a0 a1 w
  rw [Int.mul_comm b a] at k1'
  have k4 := fun w => wide_Mul a 1 a0 a1 (by decide) (by decide) w
  rw [Int.mul_one, show wHi a = 0 from by unfold wHi; omega, show wLo a = a from by unfold wLo; omega] at k4
  have hone : decide ((b + c) % 18446744073709551616 < b) = false → wOver (a * b + a * c) = false ∧ wHi (a * b + a * c) = wHi (a * ((b + c) % 18446744073709551616)) ∧ wLo (a * b + a * c) = wLo (a * ((b + c) % 18446744073709551616)) := by
    intro h
    simp only [decide_eq_false_iff_not] at h
    obtain ⟨g1, g2⟩ := f2.resolve_left h
    rw [g2]; exact ⟨g1, rfl, rfl⟩
  rcases Int.lt_or_eq_of_le b0 with hb | hb
  · obtain ⟨d1, d2, d3⟩ := prod_div a0 a1 hb
    have k6 := fun w => wide_DivP (wHi (a * b)) (wLo (a * b)) b (wHi_bd _).1 (wHi_bd _).2 (wLo_bd _).1 (wLo_bd _).2 hb b1 w
    rw [wN_of (mul_bd a0 a1 b0 b1).1 (by have := mul_bd a0 a1 b0 b1; omega), d1, d2, d3] at k6
    exact prod_core a b c _ _ _ _ _ _ _ _ _ 0 a 0 _ _ false b0 b1 c0 c1 w (by rw [IntKind.wrap_u64]) rfl hone (by simp; omega) (by simpa using hb) (by decide) (fun _ => ⟨rfl, rfl⟩)
      (fun w => wide_Mul a b a0 a1 b0 b1 w) k1' (fun w => wide_Mul a c a0 a1 c0 c1 w) (fun w => wide_Mul a _ a0 a1 s0 s1 w) k4 k5 k6 (fun w => wide_Of a w)
  · subst hb
    exact prod_core a 0 c _ _ _ _ _ _ _ _ _ 0 0 20 _ _ true b0 b1 c0 c1 w (by rw [IntKind.wrap_u64]) rfl hone (by decide) (by decide) (by decide) (fun h => by cases h)
      (fun w => wide_Mul a 0 a0 a1 b0 b1 w) k1' (fun w => wide_Mul a c a0 a1 c0 c1 w) (fun w => wide_Mul a _ a0 a1 s0 s1 w) k4 k5 (fun w => wide_Div0 _ _ w) (fun w => wide_Of a w)
end Go.Proofs.Ytglbgbgfenndgaa
