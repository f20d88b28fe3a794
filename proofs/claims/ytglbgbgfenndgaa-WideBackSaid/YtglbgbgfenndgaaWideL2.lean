/- The walks of the laws of the layer wide, second part. -/
import Derived.Test.YtglbgbgfenndgaaWideL1
set_option linter.unusedVariables false
namespace Go.Proofs.Ytglbgbgfenndgaa
open Go.RowKit Go.Shelf

theorem back_facts {a b c d : Int} (a0 : 0 ≤ a) (a1 : a < 18446744073709551616) (b0 : 0 ≤ b) (b1 : b < 18446744073709551616) (c0 : 0 ≤ c) (c1 : c < 18446744073709551616) (d0 : 0 ≤ d) (d1 : d < 18446744073709551616) :
    wHi (wN (wHi (wN a b + wN c d)) (wLo (wN a b + wN c d)) - wN c d) = a ∧ wLo (wN (wHi (wN a b + wN c d)) (wLo (wN a b + wN c d)) - wN c d) = b ∧
    wUnder (wN (wHi (wN a b + wN c d)) (wLo (wN a b + wN c d)) - wN c d) = wOver (wN a b + wN c d) ∧
    wHi (wN (wHi (wN a b - wN c d)) (wLo (wN a b - wN c d)) + wN c d) = a ∧ wLo (wN (wHi (wN a b - wN c d)) (wLo (wN a b - wN c d)) + wN c d) = b ∧
    wOver (wN (wHi (wN a b - wN c d)) (wLo (wN a b - wN c d)) + wN c d) = wUnder (wN a b - wN c d) ∧ decide (cmpS (wN a b) (wN c d) < 0) = wUnder (wN a b - wN c d) := by
  rw [wN_halves, wN_halves]
  refine ⟨?_, ?_, ?_, ?_, ?_, ?_, ?_⟩
  · unfold wHi wN; omega
  · unfold wLo wN; omega
  · unfold wUnder wOver wN; rw [decide_eq_decide]; omega
  · unfold wHi wN; omega
  · unfold wLo wN; omega
  · unfold wUnder wOver wN; rw [decide_eq_decide]; omega
  · exact rsub_under a b c d

set_option maxRecDepth 100000 in
set_option maxHeartbeats 4000000 in
theorem back2_walk (a b c d : Int) (a0 : 0 ≤ a) (a1 : a < 18446744073709551616) (b0 : 0 ≤ b) (b1 : b < 18446744073709551616) (c0 : 0 ≤ c) (c1 : c < 18446744073709551616) (d0 : 0 ≤ d) (d1 : d < 18446744073709551616) (w : World) :
    Calls Try.prog 4 #[.agg #[.int .u64 a, .int .u64 b], .agg #[.int .u64 c, .int .u64 d]] w fun r w' => r = .returned (.bool true) ∧ Below w.heap.size w w' := by
  obtain ⟨e1, e2, e3, e4, e5, e6, e7⟩ := back_facts a0 a1 b0 b1 c0 c1 d0 d1
  obtain ⟨s0, s1⟩ := wHi_bd (wN a b + wN c d)
  obtain ⟨s2, s3⟩ := wLo_bd (wN a b + wN c d)
  obtain ⟨t0, t1⟩ := wHi_bd (wN a b - wN c d)
  obtain ⟨t2, t3⟩ := wLo_bd (wN a b - wN c d)
  go_enter Try.func4, Try.ntmps4
  go_wp2_with fail
  refine (awake2_any _).mono ?_
  rintro e w1 ⟨rfl, hb1⟩
  have cw1_0 : w1.cell? ⟨w.heap.size, 0, none⟩ = some (.int .u64 (a)) := by repeat (first | (with_reducible assumption) | (simp (maxDischargeDepth := 9) [go_sem]; done) | refine keepA _ ?_ | refine keepD _ ?_ | refine keepB hb1 ?_)
  have zw1_0 : w.heap.size < w1.heap.size := World.block_lt_of_cell? w1 _ cw1_0
  have cw1_1 : w1.cell? ⟨w.heap.size, 1, none⟩ = some (.int .u64 (b)) := by repeat (first | (with_reducible assumption) | (simp (maxDischargeDepth := 9) [go_sem]; done) | refine keepA _ ?_ | refine keepD _ ?_ | refine keepB hb1 ?_)
  have cw1_2 : w1.cell? ⟨w.heap.size + 1, 0, none⟩ = some (.int .u64 (c)) := by repeat (first | (with_reducible assumption) | (simp (maxDischargeDepth := 9) [go_sem]; done) | refine keepA _ ?_ | refine keepD _ ?_ | refine keepB hb1 ?_)
  have zw1_1 : w.heap.size + 1 < w1.heap.size := World.block_lt_of_cell? w1 _ cw1_2
  have cw1_3 : w1.cell? ⟨w.heap.size + 1, 1, none⟩ = some (.int .u64 (d)) := by repeat (first | (with_reducible assumption) | (simp (maxDischargeDepth := 9) [go_sem]; done) | refine keepA _ ?_ | refine keepD _ ?_ | refine keepB hb1 ?_)
  have hBw1 : Below w.heap.size w w1 := by repeat' (first | (with_reducible exact Below.refl _ _) | (with_reducible assumption) | (with_reducible refine Below.trans ?_ (Below.mono hb1 ?_)) | (with_reducible refine Below.alloc ?_ ?_ _) | (with_reducible refine below_drewN ?_ _) | (with_reducible refine Below.drew ?_) | (with_reducible refine Below.setCell ?_ ?_ _) | go_size)
  clear hb1
  go_wp2_with fail
  refine (wide_Add a b c d a0 a1 b0 b1 c0 c1 d0 d1 _).mono ?_
  rintro e w2 ⟨rfl, hb2⟩
  have cw2_0 : w2.cell? ⟨w.heap.size, 0, none⟩ = some (.int .u64 (a)) := by repeat (first | (with_reducible assumption) | (simp (maxDischargeDepth := 9) [go_sem]; done) | refine keepA _ ?_ | refine keepD _ ?_ | refine keepB hb2 ?_)
  have zw2_0 : w.heap.size < w2.heap.size := World.block_lt_of_cell? w2 _ cw2_0
  have cw2_1 : w2.cell? ⟨w.heap.size, 1, none⟩ = some (.int .u64 (b)) := by repeat (first | (with_reducible assumption) | (simp (maxDischargeDepth := 9) [go_sem]; done) | refine keepA _ ?_ | refine keepD _ ?_ | refine keepB hb2 ?_)
  have cw2_2 : w2.cell? ⟨w.heap.size + 1, 0, none⟩ = some (.int .u64 (c)) := by repeat (first | (with_reducible assumption) | (simp (maxDischargeDepth := 9) [go_sem]; done) | refine keepA _ ?_ | refine keepD _ ?_ | refine keepB hb2 ?_)
  have zw2_1 : w.heap.size + 1 < w2.heap.size := World.block_lt_of_cell? w2 _ cw2_2
  have cw2_3 : w2.cell? ⟨w.heap.size + 1, 1, none⟩ = some (.int .u64 (d)) := by repeat (first | (with_reducible assumption) | (simp (maxDischargeDepth := 9) [go_sem]; done) | refine keepA _ ?_ | refine keepD _ ?_ | refine keepB hb2 ?_)
  have hBw2 : Below w.heap.size w w2 := by repeat' (first | (with_reducible exact Below.refl _ _) | (with_reducible assumption) | (with_reducible refine Below.trans ?_ (Below.mono hb2 ?_)) | (with_reducible refine Below.alloc ?_ ?_ _) | (with_reducible refine below_drewN ?_ _) | (with_reducible refine Below.drew ?_) | (with_reducible refine Below.setCell ?_ ?_ _) | go_size)
  clear hb2 cw1_0 cw1_1 cw1_2 cw1_3 zw1_0 zw1_1 hBw1
  go_wp2_with fail
  refine (wide_Sub _ _ c d s0 s1 s2 s3 c0 c1 d0 d1 _).mono ?_
  rintro e w3 ⟨rfl, hb3⟩
  have cw3_0 : w3.cell? ⟨w.heap.size, 0, none⟩ = some (.int .u64 (a)) := by repeat (first | (with_reducible assumption) | (simp (maxDischargeDepth := 9) [go_sem]; done) | refine keepA _ ?_ | refine keepD _ ?_ | refine keepB hb3 ?_)
  have zw3_0 : w.heap.size < w3.heap.size := World.block_lt_of_cell? w3 _ cw3_0
  have cw3_1 : w3.cell? ⟨w.heap.size, 1, none⟩ = some (.int .u64 (b)) := by repeat (first | (with_reducible assumption) | (simp (maxDischargeDepth := 9) [go_sem]; done) | refine keepA _ ?_ | refine keepD _ ?_ | refine keepB hb3 ?_)
  have cw3_2 : w3.cell? ⟨w.heap.size + 1, 0, none⟩ = some (.int .u64 (c)) := by repeat (first | (with_reducible assumption) | (simp (maxDischargeDepth := 9) [go_sem]; done) | refine keepA _ ?_ | refine keepD _ ?_ | refine keepB hb3 ?_)
  have zw3_1 : w.heap.size + 1 < w3.heap.size := World.block_lt_of_cell? w3 _ cw3_2
  have cw3_3 : w3.cell? ⟨w.heap.size + 1, 1, none⟩ = some (.int .u64 (d)) := by repeat (first | (with_reducible assumption) | (simp (maxDischargeDepth := 9) [go_sem]; done) | refine keepA _ ?_ | refine keepD _ ?_ | refine keepB hb3 ?_)
  have hBw3 : Below w.heap.size w w3 := by repeat' (first | (with_reducible exact Below.refl _ _) | (with_reducible assumption) | (with_reducible refine Below.trans ?_ (Below.mono hb3 ?_)) | (with_reducible refine Below.alloc ?_ ?_ _) | (with_reducible refine below_drewN ?_ _) | (with_reducible refine Below.drew ?_) | (with_reducible refine Below.setCell ?_ ?_ _) | go_size)
  clear hb3 cw2_0 cw2_1 cw2_2 cw2_3 zw2_0 zw2_1 hBw2
  go_wp2_with fail
  refine (wide_Sub a b c d a0 a1 b0 b1 c0 c1 d0 d1 _).mono ?_
  rintro e w4 ⟨rfl, hb4⟩
  have cw4_0 : w4.cell? ⟨w.heap.size, 0, none⟩ = some (.int .u64 (a)) := by repeat (first | (with_reducible assumption) | (simp (maxDischargeDepth := 9) [go_sem]; done) | refine keepA _ ?_ | refine keepD _ ?_ | refine keepB hb4 ?_)
  have zw4_0 : w.heap.size < w4.heap.size := World.block_lt_of_cell? w4 _ cw4_0
  have cw4_1 : w4.cell? ⟨w.heap.size, 1, none⟩ = some (.int .u64 (b)) := by repeat (first | (with_reducible assumption) | (simp (maxDischargeDepth := 9) [go_sem]; done) | refine keepA _ ?_ | refine keepD _ ?_ | refine keepB hb4 ?_)
  have cw4_2 : w4.cell? ⟨w.heap.size + 1, 0, none⟩ = some (.int .u64 (c)) := by repeat (first | (with_reducible assumption) | (simp (maxDischargeDepth := 9) [go_sem]; done) | refine keepA _ ?_ | refine keepD _ ?_ | refine keepB hb4 ?_)
  have zw4_1 : w.heap.size + 1 < w4.heap.size := World.block_lt_of_cell? w4 _ cw4_2
  have cw4_3 : w4.cell? ⟨w.heap.size + 1, 1, none⟩ = some (.int .u64 (d)) := by repeat (first | (with_reducible assumption) | (simp (maxDischargeDepth := 9) [go_sem]; done) | refine keepA _ ?_ | refine keepD _ ?_ | refine keepB hb4 ?_)
  have cw4_4 : w4.cell? ⟨w3.heap.size, 0, none⟩ = some (.int .u64 (a)) := by repeat (first | (with_reducible assumption) | (simp (maxDischargeDepth := 9) [go_sem]; done) | refine keepA _ ?_ | refine keepD _ ?_ | refine keepB hb4 ?_)
  have zw4_2 : w3.heap.size < w4.heap.size := World.block_lt_of_cell? w4 _ cw4_4
  have cw4_5 : w4.cell? ⟨w3.heap.size, 1, none⟩ = some (.int .u64 (b)) := by repeat (first | (with_reducible assumption) | (simp (maxDischargeDepth := 9) [go_sem]; done) | refine keepA _ ?_ | refine keepD _ ?_ | refine keepB hb4 ?_)
  have hBw4 : Below w.heap.size w w4 := by repeat' (first | (with_reducible exact Below.refl _ _) | (with_reducible assumption) | (with_reducible refine Below.trans ?_ (Below.mono hb4 ?_)) | (with_reducible refine Below.alloc ?_ ?_ _) | (with_reducible refine below_drewN ?_ _) | (with_reducible refine Below.drew ?_) | (with_reducible refine Below.setCell ?_ ?_ _) | go_size)
  clear hb4 cw3_0 cw3_1 cw3_2 cw3_3 zw3_0 zw3_1 hBw3
  go_wp2_with fail
  refine (wide_Add _ _ c d t0 t1 t2 t3 c0 c1 d0 d1 _).mono ?_
  rintro e w5 ⟨rfl, hb5⟩
  have cw5_0 : w5.cell? ⟨w.heap.size, 0, none⟩ = some (.int .u64 (a)) := by repeat (first | (with_reducible assumption) | (simp (maxDischargeDepth := 9) [go_sem]; done) | refine keepA _ ?_ | refine keepD _ ?_ | refine keepB hb5 ?_)
  have zw5_0 : w.heap.size < w5.heap.size := World.block_lt_of_cell? w5 _ cw5_0
  have cw5_1 : w5.cell? ⟨w.heap.size, 1, none⟩ = some (.int .u64 (b)) := by repeat (first | (with_reducible assumption) | (simp (maxDischargeDepth := 9) [go_sem]; done) | refine keepA _ ?_ | refine keepD _ ?_ | refine keepB hb5 ?_)
  have cw5_2 : w5.cell? ⟨w.heap.size + 1, 0, none⟩ = some (.int .u64 (c)) := by repeat (first | (with_reducible assumption) | (simp (maxDischargeDepth := 9) [go_sem]; done) | refine keepA _ ?_ | refine keepD _ ?_ | refine keepB hb5 ?_)
  have zw5_1 : w.heap.size + 1 < w5.heap.size := World.block_lt_of_cell? w5 _ cw5_2
  have cw5_3 : w5.cell? ⟨w.heap.size + 1, 1, none⟩ = some (.int .u64 (d)) := by repeat (first | (with_reducible assumption) | (simp (maxDischargeDepth := 9) [go_sem]; done) | refine keepA _ ?_ | refine keepD _ ?_ | refine keepB hb5 ?_)
  have cw5_4 : w5.cell? ⟨w3.heap.size, 0, none⟩ = some (.int .u64 (a)) := by repeat (first | (with_reducible assumption) | (simp (maxDischargeDepth := 9) [go_sem]; done) | refine keepA _ ?_ | refine keepD _ ?_ | refine keepB hb5 ?_)
  have zw5_2 : w3.heap.size < w5.heap.size := World.block_lt_of_cell? w5 _ cw5_4
  have cw5_5 : w5.cell? ⟨w3.heap.size, 1, none⟩ = some (.int .u64 (b)) := by repeat (first | (with_reducible assumption) | (simp (maxDischargeDepth := 9) [go_sem]; done) | refine keepA _ ?_ | refine keepD _ ?_ | refine keepB hb5 ?_)
  have hBw5 : Below w.heap.size w w5 := by repeat' (first | (with_reducible exact Below.refl _ _) | (with_reducible assumption) | (with_reducible refine Below.trans ?_ (Below.mono hb5 ?_)) | (with_reducible refine Below.alloc ?_ ?_ _) | (with_reducible refine below_drewN ?_ _) | (with_reducible refine Below.drew ?_) | (with_reducible refine Below.setCell ?_ ?_ _) | go_size)
  clear hb5 cw4_0 cw4_1 cw4_2 cw4_3 cw4_4 cw4_5 zw4_0 zw4_1 zw4_2 hBw4
  go_wp2_with fail
  refine (wide_Cmp a b c d b0 b1 d0 d1 _).mono ?_
  rintro e w6 ⟨rfl, hb6⟩
  have hB6 : Below w.heap.size w w6 := by repeat' (first | (with_reducible exact Below.refl _ _) | (with_reducible assumption) | (with_reducible refine Below.trans ?_ (Below.mono hb6 ?_)) | (with_reducible refine Below.alloc ?_ ?_ _) | (with_reducible refine below_drewN ?_ _) | (with_reducible refine Below.drew ?_) | (with_reducible refine Below.setCell ?_ ?_ _) | go_size)
  clear hb6
  go_wp2_with fail
  go_ret
  exact ⟨rfl, hB6⟩
theorem back2_law (a b c d : Int) (w0 : (Lit.int .u64 a).wf = true) (w1 : (Lit.int .u64 b).wf = true) (w2 : (Lit.int .u64 c).wf = true) (w3 : (Lit.int .u64 d).wf = true) (w : World) :
    Calls Try.prog 4 #[.agg #[.int .u64 a, .int .u64 b], .agg #[.int .u64 c, .int .u64 d]] w fun r w' => r = .returned (.bool true) ∧ Below w.heap.size w w' := by
  have h0 := bounds_u64 w0; have h1 := bounds_u64 w1; have h2 := bounds_u64 w2; have h3 := bounds_u64 w3
  exact back2_walk a b c d (by omega) (by omega) (by omega) (by omega) (by omega) (by omega) (by omega) (by omega) w
end Go.Proofs.Ytglbgbgfenndgaa
