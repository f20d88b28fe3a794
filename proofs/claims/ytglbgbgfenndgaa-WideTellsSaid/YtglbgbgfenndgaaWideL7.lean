/- The walks of the laws of the layer wide, seventh part: WideTells. -/
import Derived.Test.YtglbgbgfenndgaaWideL1
set_option linter.unusedVariables false
namespace Go.Proofs.Ytglbgbgfenndgaa
open Go.RowKit Go.Shelf
attribute [local go_sem ↓] lt_alloc

set_option maxRecDepth 100000 in
set_option maxHeartbeats 2000000 in
theorem tells2_core (a b c d e f n s0 s1 p0 p1 q0 q1 R E m0 m1 C h0 h1 : Int) (o o2 : Bool) (w : World)
    (kA : ∀ w, Calls Try.prog 10 #[.agg #[.int .u64 a, .int .u64 b], .agg #[.int .u64 c, .int .u64 d]] w fun r w' => r = .returned (.tuple #[.agg #[.int .u64 s0, .int .u64 s1], .bool o]) ∧ Below w.heap.size w w')
    (kA2 : ∀ w, Calls Try.prog 11 #[.agg #[.int .u64 a, .int .u64 b], .agg #[.int .u64 c, .int .u64 d]] w fun r w' => r = .returned (.tuple #[.agg #[.int .u64 s0, .int .u64 s1], .bool o]) ∧ Below w.heap.size w w')
    (kS : ∀ w, Calls Try.prog 12 #[.agg #[.int .u64 a, .int .u64 b], .agg #[.int .u64 c, .int .u64 d]] w fun r w' => r = .returned (.tuple #[.agg #[.int .u64 p0, .int .u64 p1], .bool o2]) ∧ Below w.heap.size w w')
    (kS2 : ∀ w, Calls Try.prog 13 #[.agg #[.int .u64 a, .int .u64 b], .agg #[.int .u64 c, .int .u64 d]] w fun r w' => r = .returned (.tuple #[.agg #[.int .u64 p0, .int .u64 p1], .bool o2]) ∧ Below w.heap.size w w')
    (kD : ∀ w, Calls Try.prog 14 #[.agg #[.int .u64 a, .int .u64 b], .int .u64 e] w fun r w' => r = .returned (.tuple #[.agg #[.int .u64 q0, .int .u64 q1], .int .u64 R, .int .i64 E]) ∧ Below w.heap.size w w')
    (kD2 : ∀ w, Calls Try.prog 15 #[.agg #[.int .u64 a, .int .u64 b], .int .u64 e] w fun r w' => r = .returned (.tuple #[.agg #[.int .u64 q0, .int .u64 q1], .int .u64 R, .int .i64 E]) ∧ Below w.heap.size w w')
    (kM : ∀ w, Calls Try.prog 16 #[.int .u64 e, .int .u64 f] w fun r w' => r = .returned (.agg #[.int .u64 m0, .int .u64 m1]) ∧ Below w.heap.size w w')
    (kM2 : ∀ w, Calls Try.prog 17 #[.int .u64 e, .int .u64 f] w fun r w' => r = .returned (.agg #[.int .u64 m0, .int .u64 m1]) ∧ Below w.heap.size w w')
    (kC : ∀ w, Calls Try.prog 18 #[.agg #[.int .u64 a, .int .u64 b], .agg #[.int .u64 c, .int .u64 d]] w fun r w' => r = .returned (.int .i64 C) ∧ Below w.heap.size w w')
    (kC2 : ∀ w, Calls Try.prog 19 #[.agg #[.int .u64 a, .int .u64 b], .agg #[.int .u64 c, .int .u64 d]] w fun r w' => r = .returned (.int .i64 C) ∧ Below w.heap.size w w')
    (kH : ∀ w, Calls Try.prog 20 #[.agg #[.int .u64 a, .int .u64 b], .int .u64 n] w fun r w' => r = .returned (.agg #[.int .u64 h0, .int .u64 h1]) ∧ Below w.heap.size w w')
    (kH2 : ∀ w, Calls Try.prog 21 #[.agg #[.int .u64 a, .int .u64 b], .int .u64 n] w fun r w' => r = .returned (.agg #[.int .u64 h0, .int .u64 h1]) ∧ Below w.heap.size w w')
    (kO : ∀ w, Calls Try.prog 22 #[.int .u64 e] w fun r w' => r = .returned (.agg #[.int .u64 0, .int .u64 e]) ∧ Below w.heap.size w w') :
    Calls Try.prog 3 #[.agg #[.int .u64 a, .int .u64 b], .agg #[.int .u64 c, .int .u64 d], .int .u64 e, .int .u64 f, .int .u64 n] w fun r w' => r = .returned (.bool true) ∧ Below w.heap.size w w' := by
  go_enter Try.func3, Try.ntmps3
  go_wp2_with fail
  refine (awake2_any _).mono ?_
  rintro r w1 ⟨rfl, hb1⟩
  have cw1_0 : w1.cell? ⟨w.heap.size, 0, none⟩ = some (.int .u64 (a)) := by repeat (first | (with_reducible assumption) | (simp (maxDischargeDepth := 9) [go_sem]; done) | refine keepA _ ?_ | refine keepD _ ?_ | refine keepB hb1 ?_)
  have zw1_0 : w.heap.size < w1.heap.size := World.block_lt_of_cell? w1 _ cw1_0
  have cw1_1 : w1.cell? ⟨w.heap.size, 1, none⟩ = some (.int .u64 (b)) := by repeat (first | (with_reducible assumption) | (simp (maxDischargeDepth := 9) [go_sem]; done) | refine keepA _ ?_ | refine keepD _ ?_ | refine keepB hb1 ?_)
  have cw1_2 : w1.cell? ⟨w.heap.size + 1, 0, none⟩ = some (.int .u64 (c)) := by repeat (first | (with_reducible assumption) | (simp (maxDischargeDepth := 9) [go_sem]; done) | refine keepA _ ?_ | refine keepD _ ?_ | refine keepB hb1 ?_)
  have zw1_1 : w.heap.size + 1 < w1.heap.size := World.block_lt_of_cell? w1 _ cw1_2
  have cw1_3 : w1.cell? ⟨w.heap.size + 1, 1, none⟩ = some (.int .u64 (d)) := by repeat (first | (with_reducible assumption) | (simp (maxDischargeDepth := 9) [go_sem]; done) | refine keepA _ ?_ | refine keepD _ ?_ | refine keepB hb1 ?_)
  have hBw1 : Below w.heap.size w w1 := by repeat' (first | (with_reducible exact Below.refl _ _) | (with_reducible assumption) | (with_reducible refine Below.trans ?_ (Below.mono hb1 ?_)) | (with_reducible refine Below.alloc ?_ ?_ _) | (with_reducible refine below_drewN ?_ _) | (with_reducible refine Below.drew ?_) | (with_reducible refine Below.setCell ?_ ?_ _) | go_size | omega | (simp; omega))
  have hSw1 : w.heap.size ≤ w1.heap.size := hBw1.size
  clear hb1
  generalize w.heap.size + 1 = y at *
  go_wp2_with fail
  refine (kA _).mono ?_
  rintro r w2 ⟨rfl, hb2⟩
  have cw2_0 : w2.cell? ⟨w.heap.size, 0, none⟩ = some (.int .u64 (a)) := by repeat (first | (with_reducible assumption) | (simp (maxDischargeDepth := 9) [go_sem]; done) | refine keepA _ ?_ | refine keepD _ ?_ | refine keepB hb2 ?_)
  have zw2_0 : w.heap.size < w2.heap.size := World.block_lt_of_cell? w2 _ cw2_0
  have cw2_1 : w2.cell? ⟨w.heap.size, 1, none⟩ = some (.int .u64 (b)) := by repeat (first | (with_reducible assumption) | (simp (maxDischargeDepth := 9) [go_sem]; done) | refine keepA _ ?_ | refine keepD _ ?_ | refine keepB hb2 ?_)
  have cw2_2 : w2.cell? ⟨y, 0, none⟩ = some (.int .u64 (c)) := by repeat (first | (with_reducible assumption) | (simp (maxDischargeDepth := 9) [go_sem]; done) | refine keepA _ ?_ | refine keepD _ ?_ | refine keepB hb2 ?_)
  have zw2_1 : y < w2.heap.size := World.block_lt_of_cell? w2 _ cw2_2
  have cw2_3 : w2.cell? ⟨y, 1, none⟩ = some (.int .u64 (d)) := by repeat (first | (with_reducible assumption) | (simp (maxDischargeDepth := 9) [go_sem]; done) | refine keepA _ ?_ | refine keepD _ ?_ | refine keepB hb2 ?_)
  have hBw2 : Below w.heap.size w w2 := by repeat' (first | (with_reducible exact Below.refl _ _) | (with_reducible assumption) | (with_reducible refine Below.trans ?_ (Below.mono hb2 ?_)) | (with_reducible refine Below.alloc ?_ ?_ _) | (with_reducible refine below_drewN ?_ _) | (with_reducible refine Below.drew ?_) | (with_reducible refine Below.setCell ?_ ?_ _) | go_size | omega | (simp; omega))
  have hSw2 : w.heap.size ≤ w2.heap.size := hBw2.size
  clear hb2 hSw1 cw1_0 cw1_1 cw1_2 cw1_3 zw1_0 zw1_1 hBw1
  go_wp2_with fail
  refine (kA2 _).mono ?_
  rintro r w3 ⟨rfl, hb3⟩
  have cw3_0 : w3.cell? ⟨w.heap.size, 0, none⟩ = some (.int .u64 (a)) := by repeat (first | (with_reducible assumption) | (simp (maxDischargeDepth := 9) [go_sem]; done) | refine keepA _ ?_ | refine keepD _ ?_ | refine keepB hb3 ?_)
  have zw3_0 : w.heap.size < w3.heap.size := World.block_lt_of_cell? w3 _ cw3_0
  have cw3_1 : w3.cell? ⟨w.heap.size, 1, none⟩ = some (.int .u64 (b)) := by repeat (first | (with_reducible assumption) | (simp (maxDischargeDepth := 9) [go_sem]; done) | refine keepA _ ?_ | refine keepD _ ?_ | refine keepB hb3 ?_)
  have cw3_2 : w3.cell? ⟨y, 0, none⟩ = some (.int .u64 (c)) := by repeat (first | (with_reducible assumption) | (simp (maxDischargeDepth := 9) [go_sem]; done) | refine keepA _ ?_ | refine keepD _ ?_ | refine keepB hb3 ?_)
  have zw3_1 : y < w3.heap.size := World.block_lt_of_cell? w3 _ cw3_2
  have cw3_3 : w3.cell? ⟨y, 1, none⟩ = some (.int .u64 (d)) := by repeat (first | (with_reducible assumption) | (simp (maxDischargeDepth := 9) [go_sem]; done) | refine keepA _ ?_ | refine keepD _ ?_ | refine keepB hb3 ?_)
  have cw3_4 : w3.cell? ⟨w2.heap.size, 0, none⟩ = some (.int .u64 (s0)) := by repeat (first | (with_reducible assumption) | (simp (maxDischargeDepth := 9) [go_sem]; done) | refine keepA _ ?_ | refine keepD _ ?_ | refine keepB hb3 ?_)
  have zw3_2 : w2.heap.size < w3.heap.size := World.block_lt_of_cell? w3 _ cw3_4
  have cw3_5 : w3.cell? ⟨w2.heap.size, 1, none⟩ = some (.int .u64 (s1)) := by repeat (first | (with_reducible assumption) | (simp (maxDischargeDepth := 9) [go_sem]; done) | refine keepA _ ?_ | refine keepD _ ?_ | refine keepB hb3 ?_)
  have hBw3 : Below w.heap.size w w3 := by repeat' (first | (with_reducible exact Below.refl _ _) | (with_reducible assumption) | (with_reducible refine Below.trans ?_ (Below.mono hb3 ?_)) | (with_reducible refine Below.alloc ?_ ?_ _) | (with_reducible refine below_drewN ?_ _) | (with_reducible refine Below.drew ?_) | (with_reducible refine Below.setCell ?_ ?_ _) | go_size | omega | (simp; omega))
  have hSw3 : w.heap.size ≤ w3.heap.size := hBw3.size
  clear hb3 hSw2 cw2_0 cw2_1 cw2_2 cw2_3 zw2_0 zw2_1 hBw2
  go_wp2_with fail
  refine (kS _).mono ?_
  rintro r w4 ⟨rfl, hb4⟩
  have cw4_0 : w4.cell? ⟨w.heap.size, 0, none⟩ = some (.int .u64 (a)) := by repeat (first | (with_reducible assumption) | (simp (maxDischargeDepth := 9) [go_sem]; done) | refine keepA _ ?_ | refine keepD _ ?_ | refine keepB hb4 ?_)
  have zw4_0 : w.heap.size < w4.heap.size := World.block_lt_of_cell? w4 _ cw4_0
  have cw4_1 : w4.cell? ⟨w.heap.size, 1, none⟩ = some (.int .u64 (b)) := by repeat (first | (with_reducible assumption) | (simp (maxDischargeDepth := 9) [go_sem]; done) | refine keepA _ ?_ | refine keepD _ ?_ | refine keepB hb4 ?_)
  have cw4_2 : w4.cell? ⟨y, 0, none⟩ = some (.int .u64 (c)) := by repeat (first | (with_reducible assumption) | (simp (maxDischargeDepth := 9) [go_sem]; done) | refine keepA _ ?_ | refine keepD _ ?_ | refine keepB hb4 ?_)
  have zw4_1 : y < w4.heap.size := World.block_lt_of_cell? w4 _ cw4_2
  have cw4_3 : w4.cell? ⟨y, 1, none⟩ = some (.int .u64 (d)) := by repeat (first | (with_reducible assumption) | (simp (maxDischargeDepth := 9) [go_sem]; done) | refine keepA _ ?_ | refine keepD _ ?_ | refine keepB hb4 ?_)
  have cw4_4 : w4.cell? ⟨w2.heap.size, 0, none⟩ = some (.int .u64 (s0)) := by repeat (first | (with_reducible assumption) | (simp (maxDischargeDepth := 9) [go_sem]; done) | refine keepA _ ?_ | refine keepD _ ?_ | refine keepB hb4 ?_)
  have zw4_2 : w2.heap.size < w4.heap.size := World.block_lt_of_cell? w4 _ cw4_4
  have cw4_5 : w4.cell? ⟨w2.heap.size, 1, none⟩ = some (.int .u64 (s1)) := by repeat (first | (with_reducible assumption) | (simp (maxDischargeDepth := 9) [go_sem]; done) | refine keepA _ ?_ | refine keepD _ ?_ | refine keepB hb4 ?_)
  have cw4_6 : w4.cell? ⟨w3.heap.size, 0, none⟩ = some (.int .u64 (s0)) := by repeat (first | (with_reducible assumption) | (simp (maxDischargeDepth := 9) [go_sem]; done) | refine keepA _ ?_ | refine keepD _ ?_ | refine keepB hb4 ?_)
  have zw4_3 : w3.heap.size < w4.heap.size := World.block_lt_of_cell? w4 _ cw4_6
  have cw4_7 : w4.cell? ⟨w3.heap.size, 1, none⟩ = some (.int .u64 (s1)) := by repeat (first | (with_reducible assumption) | (simp (maxDischargeDepth := 9) [go_sem]; done) | refine keepA _ ?_ | refine keepD _ ?_ | refine keepB hb4 ?_)
  have hBw4 : Below w.heap.size w w4 := by repeat' (first | (with_reducible exact Below.refl _ _) | (with_reducible assumption) | (with_reducible refine Below.trans ?_ (Below.mono hb4 ?_)) | (with_reducible refine Below.alloc ?_ ?_ _) | (with_reducible refine below_drewN ?_ _) | (with_reducible refine Below.drew ?_) | (with_reducible refine Below.setCell ?_ ?_ _) | go_size | omega | (simp; omega))
  have hSw4 : w.heap.size ≤ w4.heap.size := hBw4.size
  clear hb4 hSw3 cw3_0 cw3_1 cw3_2 cw3_3 cw3_4 cw3_5 zw3_0 zw3_1 zw3_2 hBw3
  go_wp2_with fail
  refine (kS2 _).mono ?_
  rintro r w5 ⟨rfl, hb5⟩
  have cw5_0 : w5.cell? ⟨w.heap.size, 0, none⟩ = some (.int .u64 (a)) := by repeat (first | (with_reducible assumption) | (simp (maxDischargeDepth := 9) [go_sem]; done) | refine keepA _ ?_ | refine keepD _ ?_ | refine keepB hb5 ?_)
  have zw5_0 : w.heap.size < w5.heap.size := World.block_lt_of_cell? w5 _ cw5_0
  have cw5_1 : w5.cell? ⟨w.heap.size, 1, none⟩ = some (.int .u64 (b)) := by repeat (first | (with_reducible assumption) | (simp (maxDischargeDepth := 9) [go_sem]; done) | refine keepA _ ?_ | refine keepD _ ?_ | refine keepB hb5 ?_)
  have cw5_2 : w5.cell? ⟨y, 0, none⟩ = some (.int .u64 (c)) := by repeat (first | (with_reducible assumption) | (simp (maxDischargeDepth := 9) [go_sem]; done) | refine keepA _ ?_ | refine keepD _ ?_ | refine keepB hb5 ?_)
  have zw5_1 : y < w5.heap.size := World.block_lt_of_cell? w5 _ cw5_2
  have cw5_3 : w5.cell? ⟨y, 1, none⟩ = some (.int .u64 (d)) := by repeat (first | (with_reducible assumption) | (simp (maxDischargeDepth := 9) [go_sem]; done) | refine keepA _ ?_ | refine keepD _ ?_ | refine keepB hb5 ?_)
  have cw5_4 : w5.cell? ⟨w2.heap.size, 0, none⟩ = some (.int .u64 (s0)) := by repeat (first | (with_reducible assumption) | (simp (maxDischargeDepth := 9) [go_sem]; done) | refine keepA _ ?_ | refine keepD _ ?_ | refine keepB hb5 ?_)
  have zw5_2 : w2.heap.size < w5.heap.size := World.block_lt_of_cell? w5 _ cw5_4
  have cw5_5 : w5.cell? ⟨w2.heap.size, 1, none⟩ = some (.int .u64 (s1)) := by repeat (first | (with_reducible assumption) | (simp (maxDischargeDepth := 9) [go_sem]; done) | refine keepA _ ?_ | refine keepD _ ?_ | refine keepB hb5 ?_)
  have cw5_6 : w5.cell? ⟨w3.heap.size, 0, none⟩ = some (.int .u64 (s0)) := by repeat (first | (with_reducible assumption) | (simp (maxDischargeDepth := 9) [go_sem]; done) | refine keepA _ ?_ | refine keepD _ ?_ | refine keepB hb5 ?_)
  have zw5_3 : w3.heap.size < w5.heap.size := World.block_lt_of_cell? w5 _ cw5_6
  have cw5_7 : w5.cell? ⟨w3.heap.size, 1, none⟩ = some (.int .u64 (s1)) := by repeat (first | (with_reducible assumption) | (simp (maxDischargeDepth := 9) [go_sem]; done) | refine keepA _ ?_ | refine keepD _ ?_ | refine keepB hb5 ?_)
  have cw5_8 : w5.cell? ⟨w4.heap.size, 0, none⟩ = some (.int .u64 (p0)) := by repeat (first | (with_reducible assumption) | (simp (maxDischargeDepth := 9) [go_sem]; done) | refine keepA _ ?_ | refine keepD _ ?_ | refine keepB hb5 ?_)
  have zw5_4 : w4.heap.size < w5.heap.size := World.block_lt_of_cell? w5 _ cw5_8
  have cw5_9 : w5.cell? ⟨w4.heap.size, 1, none⟩ = some (.int .u64 (p1)) := by repeat (first | (with_reducible assumption) | (simp (maxDischargeDepth := 9) [go_sem]; done) | refine keepA _ ?_ | refine keepD _ ?_ | refine keepB hb5 ?_)
  have hBw5 : Below w.heap.size w w5 := by repeat' (first | (with_reducible exact Below.refl _ _) | (with_reducible assumption) | (with_reducible refine Below.trans ?_ (Below.mono hb5 ?_)) | (with_reducible refine Below.alloc ?_ ?_ _) | (with_reducible refine below_drewN ?_ _) | (with_reducible refine Below.drew ?_) | (with_reducible refine Below.setCell ?_ ?_ _) | go_size | omega | (simp; omega))
  have hSw5 : w.heap.size ≤ w5.heap.size := hBw5.size
  clear hb5 hSw4 cw4_0 cw4_1 cw4_2 cw4_3 cw4_4 cw4_5 cw4_6 cw4_7 zw4_0 zw4_1 zw4_2 zw4_3 hBw4
  go_wp2_with fail
  refine (kD _).mono ?_
  rintro r w6 ⟨rfl, hb6⟩
  have cw6_0 : w6.cell? ⟨w.heap.size, 0, none⟩ = some (.int .u64 (a)) := by repeat (first | (with_reducible assumption) | (simp (maxDischargeDepth := 9) [go_sem]; done) | refine keepA _ ?_ | refine keepD _ ?_ | refine keepB hb6 ?_)
  have zw6_0 : w.heap.size < w6.heap.size := World.block_lt_of_cell? w6 _ cw6_0
  have cw6_1 : w6.cell? ⟨w.heap.size, 1, none⟩ = some (.int .u64 (b)) := by repeat (first | (with_reducible assumption) | (simp (maxDischargeDepth := 9) [go_sem]; done) | refine keepA _ ?_ | refine keepD _ ?_ | refine keepB hb6 ?_)
  have cw6_2 : w6.cell? ⟨y, 0, none⟩ = some (.int .u64 (c)) := by repeat (first | (with_reducible assumption) | (simp (maxDischargeDepth := 9) [go_sem]; done) | refine keepA _ ?_ | refine keepD _ ?_ | refine keepB hb6 ?_)
  have zw6_1 : y < w6.heap.size := World.block_lt_of_cell? w6 _ cw6_2
  have cw6_3 : w6.cell? ⟨y, 1, none⟩ = some (.int .u64 (d)) := by repeat (first | (with_reducible assumption) | (simp (maxDischargeDepth := 9) [go_sem]; done) | refine keepA _ ?_ | refine keepD _ ?_ | refine keepB hb6 ?_)
  have cw6_4 : w6.cell? ⟨w2.heap.size, 0, none⟩ = some (.int .u64 (s0)) := by repeat (first | (with_reducible assumption) | (simp (maxDischargeDepth := 9) [go_sem]; done) | refine keepA _ ?_ | refine keepD _ ?_ | refine keepB hb6 ?_)
  have zw6_2 : w2.heap.size < w6.heap.size := World.block_lt_of_cell? w6 _ cw6_4
  have cw6_5 : w6.cell? ⟨w2.heap.size, 1, none⟩ = some (.int .u64 (s1)) := by repeat (first | (with_reducible assumption) | (simp (maxDischargeDepth := 9) [go_sem]; done) | refine keepA _ ?_ | refine keepD _ ?_ | refine keepB hb6 ?_)
  have cw6_6 : w6.cell? ⟨w3.heap.size, 0, none⟩ = some (.int .u64 (s0)) := by repeat (first | (with_reducible assumption) | (simp (maxDischargeDepth := 9) [go_sem]; done) | refine keepA _ ?_ | refine keepD _ ?_ | refine keepB hb6 ?_)
  have zw6_3 : w3.heap.size < w6.heap.size := World.block_lt_of_cell? w6 _ cw6_6
  have cw6_7 : w6.cell? ⟨w3.heap.size, 1, none⟩ = some (.int .u64 (s1)) := by repeat (first | (with_reducible assumption) | (simp (maxDischargeDepth := 9) [go_sem]; done) | refine keepA _ ?_ | refine keepD _ ?_ | refine keepB hb6 ?_)
  have cw6_8 : w6.cell? ⟨w4.heap.size, 0, none⟩ = some (.int .u64 (p0)) := by repeat (first | (with_reducible assumption) | (simp (maxDischargeDepth := 9) [go_sem]; done) | refine keepA _ ?_ | refine keepD _ ?_ | refine keepB hb6 ?_)
  have zw6_4 : w4.heap.size < w6.heap.size := World.block_lt_of_cell? w6 _ cw6_8
  have cw6_9 : w6.cell? ⟨w4.heap.size, 1, none⟩ = some (.int .u64 (p1)) := by repeat (first | (with_reducible assumption) | (simp (maxDischargeDepth := 9) [go_sem]; done) | refine keepA _ ?_ | refine keepD _ ?_ | refine keepB hb6 ?_)
  have cw6_10 : w6.cell? ⟨w5.heap.size, 0, none⟩ = some (.int .u64 (p0)) := by repeat (first | (with_reducible assumption) | (simp (maxDischargeDepth := 9) [go_sem]; done) | refine keepA _ ?_ | refine keepD _ ?_ | refine keepB hb6 ?_)
  have zw6_5 : w5.heap.size < w6.heap.size := World.block_lt_of_cell? w6 _ cw6_10
  have cw6_11 : w6.cell? ⟨w5.heap.size, 1, none⟩ = some (.int .u64 (p1)) := by repeat (first | (with_reducible assumption) | (simp (maxDischargeDepth := 9) [go_sem]; done) | refine keepA _ ?_ | refine keepD _ ?_ | refine keepB hb6 ?_)
  have hBw6 : Below w.heap.size w w6 := by repeat' (first | (with_reducible exact Below.refl _ _) | (with_reducible assumption) | (with_reducible refine Below.trans ?_ (Below.mono hb6 ?_)) | (with_reducible refine Below.alloc ?_ ?_ _) | (with_reducible refine below_drewN ?_ _) | (with_reducible refine Below.drew ?_) | (with_reducible refine Below.setCell ?_ ?_ _) | go_size | omega | (simp; omega))
  have hSw6 : w.heap.size ≤ w6.heap.size := hBw6.size
  clear hb6 hSw5 cw5_0 cw5_1 cw5_2 cw5_3 cw5_4 cw5_5 cw5_6 cw5_7 cw5_8 cw5_9 zw5_0 zw5_1 zw5_2 zw5_3 zw5_4 hBw5
  go_wp2_with fail
  refine (kD2 _).mono ?_
  rintro r w7 ⟨rfl, hb7⟩
  have cw7_0 : w7.cell? ⟨w.heap.size, 0, none⟩ = some (.int .u64 (a)) := by repeat (first | (with_reducible assumption) | (simp (maxDischargeDepth := 9) [go_sem]; done) | refine keepA _ ?_ | refine keepD _ ?_ | refine keepB hb7 ?_)
  have zw7_0 : w.heap.size < w7.heap.size := World.block_lt_of_cell? w7 _ cw7_0
  have cw7_1 : w7.cell? ⟨w.heap.size, 1, none⟩ = some (.int .u64 (b)) := by repeat (first | (with_reducible assumption) | (simp (maxDischargeDepth := 9) [go_sem]; done) | refine keepA _ ?_ | refine keepD _ ?_ | refine keepB hb7 ?_)
  have cw7_2 : w7.cell? ⟨y, 0, none⟩ = some (.int .u64 (c)) := by repeat (first | (with_reducible assumption) | (simp (maxDischargeDepth := 9) [go_sem]; done) | refine keepA _ ?_ | refine keepD _ ?_ | refine keepB hb7 ?_)
  have zw7_1 : y < w7.heap.size := World.block_lt_of_cell? w7 _ cw7_2
  have cw7_3 : w7.cell? ⟨y, 1, none⟩ = some (.int .u64 (d)) := by repeat (first | (with_reducible assumption) | (simp (maxDischargeDepth := 9) [go_sem]; done) | refine keepA _ ?_ | refine keepD _ ?_ | refine keepB hb7 ?_)
  have cw7_4 : w7.cell? ⟨w2.heap.size, 0, none⟩ = some (.int .u64 (s0)) := by repeat (first | (with_reducible assumption) | (simp (maxDischargeDepth := 9) [go_sem]; done) | refine keepA _ ?_ | refine keepD _ ?_ | refine keepB hb7 ?_)
  have zw7_2 : w2.heap.size < w7.heap.size := World.block_lt_of_cell? w7 _ cw7_4
  have cw7_5 : w7.cell? ⟨w2.heap.size, 1, none⟩ = some (.int .u64 (s1)) := by repeat (first | (with_reducible assumption) | (simp (maxDischargeDepth := 9) [go_sem]; done) | refine keepA _ ?_ | refine keepD _ ?_ | refine keepB hb7 ?_)
  have cw7_6 : w7.cell? ⟨w3.heap.size, 0, none⟩ = some (.int .u64 (s0)) := by repeat (first | (with_reducible assumption) | (simp (maxDischargeDepth := 9) [go_sem]; done) | refine keepA _ ?_ | refine keepD _ ?_ | refine keepB hb7 ?_)
  have zw7_3 : w3.heap.size < w7.heap.size := World.block_lt_of_cell? w7 _ cw7_6
  have cw7_7 : w7.cell? ⟨w3.heap.size, 1, none⟩ = some (.int .u64 (s1)) := by repeat (first | (with_reducible assumption) | (simp (maxDischargeDepth := 9) [go_sem]; done) | refine keepA _ ?_ | refine keepD _ ?_ | refine keepB hb7 ?_)
  have cw7_8 : w7.cell? ⟨w4.heap.size, 0, none⟩ = some (.int .u64 (p0)) := by repeat (first | (with_reducible assumption) | (simp (maxDischargeDepth := 9) [go_sem]; done) | refine keepA _ ?_ | refine keepD _ ?_ | refine keepB hb7 ?_)
  have zw7_4 : w4.heap.size < w7.heap.size := World.block_lt_of_cell? w7 _ cw7_8
  have cw7_9 : w7.cell? ⟨w4.heap.size, 1, none⟩ = some (.int .u64 (p1)) := by repeat (first | (with_reducible assumption) | (simp (maxDischargeDepth := 9) [go_sem]; done) | refine keepA _ ?_ | refine keepD _ ?_ | refine keepB hb7 ?_)
  have cw7_10 : w7.cell? ⟨w5.heap.size, 0, none⟩ = some (.int .u64 (p0)) := by repeat (first | (with_reducible assumption) | (simp (maxDischargeDepth := 9) [go_sem]; done) | refine keepA _ ?_ | refine keepD _ ?_ | refine keepB hb7 ?_)
  have zw7_5 : w5.heap.size < w7.heap.size := World.block_lt_of_cell? w7 _ cw7_10
  have cw7_11 : w7.cell? ⟨w5.heap.size, 1, none⟩ = some (.int .u64 (p1)) := by repeat (first | (with_reducible assumption) | (simp (maxDischargeDepth := 9) [go_sem]; done) | refine keepA _ ?_ | refine keepD _ ?_ | refine keepB hb7 ?_)
  have cw7_12 : w7.cell? ⟨w6.heap.size, 0, none⟩ = some (.int .u64 (q0)) := by repeat (first | (with_reducible assumption) | (simp (maxDischargeDepth := 9) [go_sem]; done) | refine keepA _ ?_ | refine keepD _ ?_ | refine keepB hb7 ?_)
  have zw7_6 : w6.heap.size < w7.heap.size := World.block_lt_of_cell? w7 _ cw7_12
  have cw7_13 : w7.cell? ⟨w6.heap.size, 1, none⟩ = some (.int .u64 (q1)) := by repeat (first | (with_reducible assumption) | (simp (maxDischargeDepth := 9) [go_sem]; done) | refine keepA _ ?_ | refine keepD _ ?_ | refine keepB hb7 ?_)
  have hBw7 : Below w.heap.size w w7 := by repeat' (first | (with_reducible exact Below.refl _ _) | (with_reducible assumption) | (with_reducible refine Below.trans ?_ (Below.mono hb7 ?_)) | (with_reducible refine Below.alloc ?_ ?_ _) | (with_reducible refine below_drewN ?_ _) | (with_reducible refine Below.drew ?_) | (with_reducible refine Below.setCell ?_ ?_ _) | go_size | omega | (simp; omega))
  have hSw7 : w.heap.size ≤ w7.heap.size := hBw7.size
  clear hb7 hSw6 cw6_0 cw6_1 cw6_2 cw6_3 cw6_4 cw6_5 cw6_6 cw6_7 cw6_8 cw6_9 cw6_10 cw6_11 zw6_0 zw6_1 zw6_2 zw6_3 zw6_4 zw6_5 hBw6
  go_upto_region 8 with fail
  refine forget (fun W => W.cell? ⟨w.heap.size, 0, none⟩ = some (.int .u64 a) ∧ W.cell? ⟨w.heap.size, 1, none⟩ = some (.int .u64 b) ∧ W.cell? ⟨y, 0, none⟩ = some (.int .u64 c) ∧ W.cell? ⟨y, 1, none⟩ = some (.int .u64 d) ∧
    W.cell? ⟨w2.heap.size, 0, none⟩ = some (.int .u64 s0) ∧ W.cell? ⟨w2.heap.size, 1, none⟩ = some (.int .u64 s1) ∧ W.cell? ⟨w3.heap.size, 0, none⟩ = some (.int .u64 s0) ∧ W.cell? ⟨w3.heap.size, 1, none⟩ = some (.int .u64 s1) ∧
    W.cell? ⟨w4.heap.size, 0, none⟩ = some (.int .u64 p0) ∧ W.cell? ⟨w4.heap.size, 1, none⟩ = some (.int .u64 p1) ∧ W.cell? ⟨w5.heap.size, 0, none⟩ = some (.int .u64 p0) ∧ W.cell? ⟨w5.heap.size, 1, none⟩ = some (.int .u64 p1) ∧
    W.cell? ⟨w6.heap.size, 0, none⟩ = some (.int .u64 q0) ∧ W.cell? ⟨w6.heap.size, 1, none⟩ = some (.int .u64 q1) ∧ W.cell? ⟨w7.heap.size, 0, none⟩ = some (.int .u64 q0) ∧ W.cell? ⟨w7.heap.size, 1, none⟩ = some (.int .u64 q1) ∧ Below w.heap.size w W)
    ⟨?_, ?_, ?_, ?_, ?_, ?_, ?_, ?_, ?_, ?_, ?_, ?_, ?_, ?_, ?_, ?_, ?_⟩ ?_
  · repeat (first | (with_reducible assumption) | (simp (maxDischargeDepth := 9) [go_sem]; done) | refine keepA _ ?_ | refine keepD _ ?_)
  · repeat (first | (with_reducible assumption) | (simp (maxDischargeDepth := 9) [go_sem]; done) | refine keepA _ ?_ | refine keepD _ ?_)
  · repeat (first | (with_reducible assumption) | (simp (maxDischargeDepth := 9) [go_sem]; done) | refine keepA _ ?_ | refine keepD _ ?_)
  · repeat (first | (with_reducible assumption) | (simp (maxDischargeDepth := 9) [go_sem]; done) | refine keepA _ ?_ | refine keepD _ ?_)
  · repeat (first | (with_reducible assumption) | (simp (maxDischargeDepth := 9) [go_sem]; done) | refine keepA _ ?_ | refine keepD _ ?_)
  · repeat (first | (with_reducible assumption) | (simp (maxDischargeDepth := 9) [go_sem]; done) | refine keepA _ ?_ | refine keepD _ ?_)
  · repeat (first | (with_reducible assumption) | (simp (maxDischargeDepth := 9) [go_sem]; done) | refine keepA _ ?_ | refine keepD _ ?_)
  · repeat (first | (with_reducible assumption) | (simp (maxDischargeDepth := 9) [go_sem]; done) | refine keepA _ ?_ | refine keepD _ ?_)
  · repeat (first | (with_reducible assumption) | (simp (maxDischargeDepth := 9) [go_sem]; done) | refine keepA _ ?_ | refine keepD _ ?_)
  · repeat (first | (with_reducible assumption) | (simp (maxDischargeDepth := 9) [go_sem]; done) | refine keepA _ ?_ | refine keepD _ ?_)
  · repeat (first | (with_reducible assumption) | (simp (maxDischargeDepth := 9) [go_sem]; done) | refine keepA _ ?_ | refine keepD _ ?_)
  · repeat (first | (with_reducible assumption) | (simp (maxDischargeDepth := 9) [go_sem]; done) | refine keepA _ ?_ | refine keepD _ ?_)
  · repeat (first | (with_reducible assumption) | (simp (maxDischargeDepth := 9) [go_sem]; done) | refine keepA _ ?_ | refine keepD _ ?_)
  · repeat (first | (with_reducible assumption) | (simp (maxDischargeDepth := 9) [go_sem]; done) | refine keepA _ ?_ | refine keepD _ ?_)
  · repeat (first | (with_reducible assumption) | (simp (maxDischargeDepth := 9) [go_sem]; done) | refine keepA _ ?_ | refine keepD _ ?_)
  · repeat (first | (with_reducible assumption) | (simp (maxDischargeDepth := 9) [go_sem]; done) | refine keepA _ ?_ | refine keepD _ ?_)
  · repeat' (first | (with_reducible exact Below.refl _ _) | (with_reducible assumption) | (with_reducible refine Below.alloc ?_ ?_ _) | (with_reducible refine below_drewN ?_ _) | (with_reducible refine Below.drew ?_) | (with_reducible refine Below.setCell ?_ ?_ _) | go_size | omega | (simp; omega))
  rintro W ⟨c1, c2, c3, c4, c5, c6, c7, c8, c9, c10, c11, c12, c13, c14, c15, c16, hB⟩
  have u1 := Under.cell c1
  have u2 := Under.cell c2
  have u3 := Under.cell c3
  have u4 := Under.cell c4
  have u5 := Under.cell c5
  have u6 := Under.cell c6
  have u7 := Under.cell c7
  have u8 := Under.cell c8
  have u9 := Under.cell c9
  have u10 := Under.cell c10
  have u11 := Under.cell c11
  have u12 := Under.cell c12
  have u13 := Under.cell c13
  have u14 := Under.cell c14
  have u15 := Under.cell c15
  have u16 := Under.cell c16
  clear c1 c2 c3 c4 c5 c6 c7 c8 c9 c10 c11 c12 c13 c14 c15 c16
  (refine region_under (by kernel_rfl) (by kernel_rfl) ?_; (repeat (first | go_big_quiet_step ((first | (go_at_call 16; exact quietU (kM _)) | (go_at_call 17; exact quietU (kM2 _)) | (go_at_call 18; exact quietU (kC _)) | (go_at_call 19; exact quietU (kC2 _)) | (go_at_call 20; exact quietU (kH _)) | (go_at_call 21; exact quietU (kH2 _)) | (go_at_call 22; exact quietU (kO _)))) | quiet_step ((first | (go_at_call 16; exact quietU (kM _)) | (go_at_call 17; exact quietU (kM2 _)) | (go_at_call 18; exact quietU (kC _)) | (go_at_call 19; exact quietU (kC2 _)) | (go_at_call 20; exact quietU (kH _)) | (go_at_call 21; exact quietU (kH2 _)) | (go_at_call 22; exact quietU (kO _)))))); refine wpQuiet_nil ?_; intro _ hw'; obtain ⟨x, hw''⟩ := hw'; subst hw''; go_wp2_with fail)
  go_ret
  exact ⟨rfl, hB.trans (x.2.mono hB.size)⟩
theorem tells2_law (a b c d e f n : Int) (w0 : (Lit.int .u64 a).wf = true) (w1 : (Lit.int .u64 b).wf = true) (w2 : (Lit.int .u64 c).wf = true) (w3 : (Lit.int .u64 d).wf = true) (w4 : (Lit.int .u64 e).wf = true) (w5 : (Lit.int .u64 f).wf = true) (w6 : (Lit.int .u64 n).wf = true) (w : World) :
    Calls Try.prog 3 #[.agg #[.int .u64 a, .int .u64 b], .agg #[.int .u64 c, .int .u64 d], .int .u64 e, .int .u64 f, .int .u64 n] w fun r w' => r = .returned (.bool true) ∧ Below w.heap.size w w' := by
  have u : ∀ {x : Int}, (Lit.int .u64 x).wf = true → 0 ≤ x ∧ x < 18446744073709551616 := fun h => by have := bounds_u64 h; omega
  obtain ⟨a0, a1⟩ := u w0
  obtain ⟨b0, b1⟩ := u w1
  obtain ⟨c0, c1⟩ := u w2
  obtain ⟨d0, d1⟩ := u w3
  obtain ⟨e0, e1⟩ := u w4
  obtain ⟨f0, f1⟩ := u w5
  obtain ⟨n0, n1⟩ := u w6
  rcases Int.lt_or_eq_of_le e0 with he | he
  · exact tells2_core a b c d e f n _ _ _ _ _ _ _ _ _ _ _ _ _ _ _ w (fun w => wide_Add a b c d a0 a1 b0 b1 c0 c1 d0 d1 w) (fun w => ref2_Add a b c d a0 a1 b0 b1 c0 c1 d0 d1 w) (fun w => wide_Sub a b c d a0 a1 b0 b1 c0 c1 d0 d1 w) (fun w => ref2_Sub a b c d a0 a1 b0 b1 c0 c1 d0 d1 w)
      (fun w => wide_DivP a b e a0 a1 b0 b1 he e1 w) (fun w => ref2_DivP a b e a0 a1 b0 b1 he e1 w) (fun w => wide_Mul e f e0 e1 f0 f1 w) (fun w => ref2_Mul e f e0 e1 f0 f1 w) (fun w => wide_Cmp a b c d b0 b1 d0 d1 w) (fun w => ref2_Cmp a b c d b0 b1 d0 d1 w)
      (fun w => wide_Shr a b n a0 a1 b0 b1 n0 n1 w) (fun w => ref2_Shr a b n a0 a1 b0 b1 n0 n1 w) (fun w => wide_Of e w)
  · subst he
    exact tells2_core a b c d 0 f n _ _ _ _ _ _ _ _ _ _ _ _ _ _ _ w (fun w => wide_Add a b c d a0 a1 b0 b1 c0 c1 d0 d1 w) (fun w => ref2_Add a b c d a0 a1 b0 b1 c0 c1 d0 d1 w) (fun w => wide_Sub a b c d a0 a1 b0 b1 c0 c1 d0 d1 w) (fun w => ref2_Sub a b c d a0 a1 b0 b1 c0 c1 d0 d1 w)
      (fun w => wide_Div0 a b w) (fun w => ref2_Div0 a b w) (fun w => wide_Mul 0 f e0 e1 f0 f1 w) (fun w => ref2_Mul 0 f e0 e1 f0 f1 w) (fun w => wide_Cmp a b c d b0 b1 d0 d1 w) (fun w => ref2_Cmp a b c d b0 b1 d0 d1 w)
      (fun w => wide_Shr a b n a0 a1 b0 b1 n0 n1 w) (fun w => ref2_Shr a b n a0 a1 b0 b1 n0 n1 w) (fun w => wide_Of 0 w)
end Go.Proofs.Ytglbgbgfenndgaa
