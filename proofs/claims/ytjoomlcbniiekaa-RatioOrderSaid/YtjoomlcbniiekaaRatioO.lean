/- The walks of the laws of the layer ratio: RatioOrder. -/
import Derived.Test.YtjoomlcbniiekaaRatioL
set_option linter.unusedVariables false
namespace Go.Proofs.Ytjoomlcbniiekaa
open Go.RowKit Go.Shelf
attribute [local go_sem ↓] lt_alloc

theorem cmpS_neg (x y : Int) : cmpS y x = -cmpS x y := by unfold cmpS; repeat' split <;> omega
theorem cmpS_pos {x y : Int} : 0 < cmpS x y ↔ y < x := by unfold cmpS; repeat' split <;> omega
theorem cmpS_zero {x y : Int} : cmpS x y = 0 ↔ x = y := by unfold cmpS; repeat' split <;> omega
theorem order_facts {a b c d e f : Int} (a0 : 0 ≤ a) (b0 : 0 ≤ b) (c0 : 0 ≤ c) (d0 : 0 ≤ d) (e0 : 0 ≤ e) (f0 : 0 ≤ f) :
    rErr b d = rErr d b ∧ (¬ rErr b d = 0 → rCmp a b c d = 0 ∧ rCmp c d a b = 0) ∧ (¬ rErr d f = 0 → rCmp c d e f = 0) ∧
    (rErr b d = 0 → rErr d f = 0 → rErr b f = 0 ∧ rCmp a b c d = -rCmp c d a b ∧ (rCmp a b c d ≤ 0 ∨ rCmp c d e f ≤ 0 ∨ 0 < rCmp a b e f) ∧ (¬ rCmp a b c d = 0 ∨ ¬ rCmp c d e f = 0 ∨ rCmp a b e f = 0)) ∧
    ((rErr a c = 20 ∧ (a = 0 ∨ c = 0)) ∨ (rErr a c = 0 ∧ (rErr b d = 0 → rCmp b a d c = -rCmp a b c d))) := by
  have er : ∀ x y, (rErr x y = 20 ∧ (x = 0 ∨ y = 0)) ∨ (rErr x y = 0 ∧ ¬ (x = 0 ∨ y = 0)) := by intro x y; unfold rErr; split <;> simp_all
  have ez : ∀ x y, rErr x y = 0 → x ≠ 0 ∧ y ≠ 0 := by intro x y h; have := er x y; omega
  have cz : ∀ x y z t, ¬ rErr y t = 0 → rCmp x y z t = 0 := by
    intro x y z t h
    unfold rCmp; rw [if_pos (by have := er y t; omega)]
  refine ⟨?_, fun h => ⟨cz _ _ _ _ h, cz _ _ _ _ ?_⟩, fun h => cz _ _ _ _ h, fun h1 h2 => ?_, ?_⟩
  · have h1 := er b d; have h2 := er d b; omega
  · have h1 := er b d; have h2 := er d b; omega
  · have k1 := ez _ _ h1; have k2 := ez _ _ h2
    rw [rErr_pos (by omega) (by omega), rCmp_pos (by omega) (by omega), rCmp_pos (by omega) (by omega), rCmp_pos (by omega) (by omega), rCmp_pos (by omega) (by omega)]
    refine ⟨rfl, cmpS_neg _ _, ?_, ?_⟩
    · by_cases g1 : 0 < cmpS (a * d) (c * b)
      · by_cases g2 : 0 < cmpS (c * f) (e * d)
        · rw [cmpS_pos] at g1 g2
          right; right; rw [cmpS_pos]
          exact cross_lt (c := c) (d := d) (by omega) (by omega) (by omega) (by have := g2; omega) (by omega)
        · omega
      · omega
    · by_cases g1 : cmpS (a * d) (c * b) = 0
      · by_cases g2 : cmpS (c * f) (e * d) = 0
        · rw [cmpS_zero] at g1 g2
          right; right; rw [cmpS_zero]
          have h3 : (a * f) * d = (e * b) * d := by
            have e1 : a * f * d = a * d * f := by grind
            have e2 : c * b * f = c * f * b := by grind
            have e3 : e * d * b = e * b * d := by grind
            rw [e1, g1, e2, g2, e3]
          exact Int.eq_of_mul_eq_mul_right (by omega) h3
        · omega
      · omega
  · rcases er a c with h | h
    · exact Or.inl h
    · refine Or.inr ⟨h.1, fun h1 => ?_⟩
      have k1 := ez _ _ h1
      rw [rCmp_pos (by omega) (by omega), rCmp_pos (by omega) (by omega), ← cmpS_neg]
      rw [Int.mul_comm b c, Int.mul_comm d a]
set_option maxRecDepth 100000 in
set_option maxHeartbeats 2000000 in
theorem order_ok (a b c d e f n k l t i : Int) (n0 : -1 ≤ n) (n1 : n ≤ 1) (G1 : Hid (n ≤ 0 ∨ k ≤ 0 ∨ 0 < l)) (G2 : Hid (¬ n = 0 ∨ ¬ k = 0 ∨ l = 0)) (G3 : Hid ((i = 20 ∧ (a = 0 ∨ c = 0)) ∨ (i = 0 ∧ t = -n))) (w : World)
    (k2 : ∀ w, Calls Try.prog 10 #[.agg #[.int .u64 a, .int .u64 b], .agg #[.int .u64 c, .int .u64 d]] w fun r w' => r = .returned (.tuple #[.int .i64 n, .int .i64 0]) ∧ Below w.heap.size w w') (k3 : ∀ w, Calls Try.prog 10 #[.agg #[.int .u64 c, .int .u64 d], .agg #[.int .u64 a, .int .u64 b]] w fun r w' => r = .returned (.tuple #[.int .i64 (-n), .int .i64 0]) ∧ Below w.heap.size w w') (k4 : ∀ w, Calls Try.prog 10 #[.agg #[.int .u64 c, .int .u64 d], .agg #[.int .u64 e, .int .u64 f]] w fun r w' => r = .returned (.tuple #[.int .i64 k, .int .i64 0]) ∧ Below w.heap.size w w') (k5 : ∀ w, Calls Try.prog 10 #[.agg #[.int .u64 a, .int .u64 b], .agg #[.int .u64 e, .int .u64 f]] w fun r w' => r = .returned (.tuple #[.int .i64 l, .int .i64 0]) ∧ Below w.heap.size w w') (k6 : ∀ w, Calls Try.prog 10 #[.agg #[.int .u64 b, .int .u64 a], .agg #[.int .u64 d, .int .u64 c]] w fun r w' => r = .returned (.tuple #[.int .i64 t, .int .i64 i]) ∧ Below w.heap.size w w') :
    Calls Try.prog 4 #[.agg #[.int .u64 a, .int .u64 b], .agg #[.int .u64 c, .int .u64 d], .agg #[.int .u64 e, .int .u64 f]] w fun r w' => r = .returned (.bool true) ∧ Below w.heap.size w w' := by
  go_enter Try.func4, Try.ntmps4
  go_wp2_with fail
  refine (awake3_any _).mono ?_
  rintro r w1 ⟨rfl, hb1⟩
  have cw1_0 : w1.cell? ⟨w.heap.size, 0, none⟩ = some (.int .u64 (a)) := by repeat (first | (with_reducible assumption) | (simp (maxDischargeDepth := 9) [go_sem]; done) | refine keepA _ ?_ | refine keepD _ ?_ | refine keepB hb1 ?_)
  have zw1_0 : w.heap.size < w1.heap.size := World.block_lt_of_cell? w1 _ cw1_0
  have cw1_1 : w1.cell? ⟨w.heap.size, 1, none⟩ = some (.int .u64 (b)) := by repeat (first | (with_reducible assumption) | (simp (maxDischargeDepth := 9) [go_sem]; done) | refine keepA _ ?_ | refine keepD _ ?_ | refine keepB hb1 ?_)
  have cw1_2 : w1.cell? ⟨w.heap.size + 1, 0, none⟩ = some (.int .u64 (c)) := by repeat (first | (with_reducible assumption) | (simp (maxDischargeDepth := 9) [go_sem]; done) | refine keepA _ ?_ | refine keepD _ ?_ | refine keepB hb1 ?_)
  have zw1_1 : w.heap.size + 1 < w1.heap.size := World.block_lt_of_cell? w1 _ cw1_2
  have cw1_3 : w1.cell? ⟨w.heap.size + 1, 1, none⟩ = some (.int .u64 (d)) := by repeat (first | (with_reducible assumption) | (simp (maxDischargeDepth := 9) [go_sem]; done) | refine keepA _ ?_ | refine keepD _ ?_ | refine keepB hb1 ?_)
  have cw1_4 : w1.cell? ⟨w.heap.size + 1 + 1, 0, none⟩ = some (.int .u64 (e)) := by repeat (first | (with_reducible assumption) | (simp (maxDischargeDepth := 9) [go_sem]; done) | refine keepA _ ?_ | refine keepD _ ?_ | refine keepB hb1 ?_)
  have zw1_2 : w.heap.size + 1 + 1 < w1.heap.size := World.block_lt_of_cell? w1 _ cw1_4
  have cw1_5 : w1.cell? ⟨w.heap.size + 1 + 1, 1, none⟩ = some (.int .u64 (f)) := by repeat (first | (with_reducible assumption) | (simp (maxDischargeDepth := 9) [go_sem]; done) | refine keepA _ ?_ | refine keepD _ ?_ | refine keepB hb1 ?_)
  have hBw1 : Below w.heap.size w w1 := by repeat' (first | (with_reducible exact Below.refl _ _) | (with_reducible assumption) | (with_reducible refine Below.trans ?_ (Below.mono hb1 ?_)) | (with_reducible refine Below.alloc ?_ ?_ _) | (with_reducible refine below_drewN ?_ _) | (with_reducible refine Below.drew ?_) | (with_reducible refine Below.setCell ?_ ?_ _) | go_size | omega | (simp; omega))
  have hSw1 : w.heap.size ≤ w1.heap.size := hBw1.size
  clear hb1
  generalize w.heap.size + 1 + 1 = p2 at *
  generalize w.heap.size + 1 = p1 at *
  go_wp2_with fail
  refine (k2 _).mono ?_
  rintro r w2 ⟨rfl, hb2⟩
  have cw2_0 : w2.cell? ⟨w.heap.size, 0, none⟩ = some (.int .u64 (a)) := by repeat (first | (with_reducible assumption) | (simp (maxDischargeDepth := 9) [go_sem]; done) | refine keepA _ ?_ | refine keepD _ ?_ | refine keepB hb2 ?_)
  have zw2_0 : w.heap.size < w2.heap.size := World.block_lt_of_cell? w2 _ cw2_0
  have cw2_1 : w2.cell? ⟨w.heap.size, 1, none⟩ = some (.int .u64 (b)) := by repeat (first | (with_reducible assumption) | (simp (maxDischargeDepth := 9) [go_sem]; done) | refine keepA _ ?_ | refine keepD _ ?_ | refine keepB hb2 ?_)
  have cw2_2 : w2.cell? ⟨p1, 0, none⟩ = some (.int .u64 (c)) := by repeat (first | (with_reducible assumption) | (simp (maxDischargeDepth := 9) [go_sem]; done) | refine keepA _ ?_ | refine keepD _ ?_ | refine keepB hb2 ?_)
  have zw2_1 : p1 < w2.heap.size := World.block_lt_of_cell? w2 _ cw2_2
  have cw2_3 : w2.cell? ⟨p1, 1, none⟩ = some (.int .u64 (d)) := by repeat (first | (with_reducible assumption) | (simp (maxDischargeDepth := 9) [go_sem]; done) | refine keepA _ ?_ | refine keepD _ ?_ | refine keepB hb2 ?_)
  have cw2_4 : w2.cell? ⟨p2, 0, none⟩ = some (.int .u64 (e)) := by repeat (first | (with_reducible assumption) | (simp (maxDischargeDepth := 9) [go_sem]; done) | refine keepA _ ?_ | refine keepD _ ?_ | refine keepB hb2 ?_)
  have zw2_2 : p2 < w2.heap.size := World.block_lt_of_cell? w2 _ cw2_4
  have cw2_5 : w2.cell? ⟨p2, 1, none⟩ = some (.int .u64 (f)) := by repeat (first | (with_reducible assumption) | (simp (maxDischargeDepth := 9) [go_sem]; done) | refine keepA _ ?_ | refine keepD _ ?_ | refine keepB hb2 ?_)
  have hBw2 : Below w.heap.size w w2 := by repeat' (first | (with_reducible exact Below.refl _ _) | (with_reducible assumption) | (with_reducible refine Below.trans ?_ (Below.mono hb2 ?_)) | (with_reducible refine Below.alloc ?_ ?_ _) | (with_reducible refine below_drewN ?_ _) | (with_reducible refine Below.drew ?_) | (with_reducible refine Below.setCell ?_ ?_ _) | go_size | omega | (simp; omega))
  have hSw2 : w.heap.size ≤ w2.heap.size := hBw2.size
  clear hb2 hSw1 cw1_0 cw1_1 cw1_2 cw1_3 cw1_4 cw1_5 zw1_0 zw1_1 zw1_2 hBw1
  go_wp2_with fail
  refine (k3 _).mono ?_
  rintro r w3 ⟨rfl, hb3⟩
  have cw3_0 : w3.cell? ⟨w.heap.size, 0, none⟩ = some (.int .u64 (a)) := by repeat (first | (with_reducible assumption) | (simp (maxDischargeDepth := 9) [go_sem]; done) | refine keepA _ ?_ | refine keepD _ ?_ | refine keepB hb3 ?_)
  have zw3_0 : w.heap.size < w3.heap.size := World.block_lt_of_cell? w3 _ cw3_0
  have cw3_1 : w3.cell? ⟨w.heap.size, 1, none⟩ = some (.int .u64 (b)) := by repeat (first | (with_reducible assumption) | (simp (maxDischargeDepth := 9) [go_sem]; done) | refine keepA _ ?_ | refine keepD _ ?_ | refine keepB hb3 ?_)
  have cw3_2 : w3.cell? ⟨p1, 0, none⟩ = some (.int .u64 (c)) := by repeat (first | (with_reducible assumption) | (simp (maxDischargeDepth := 9) [go_sem]; done) | refine keepA _ ?_ | refine keepD _ ?_ | refine keepB hb3 ?_)
  have zw3_1 : p1 < w3.heap.size := World.block_lt_of_cell? w3 _ cw3_2
  have cw3_3 : w3.cell? ⟨p1, 1, none⟩ = some (.int .u64 (d)) := by repeat (first | (with_reducible assumption) | (simp (maxDischargeDepth := 9) [go_sem]; done) | refine keepA _ ?_ | refine keepD _ ?_ | refine keepB hb3 ?_)
  have cw3_4 : w3.cell? ⟨p2, 0, none⟩ = some (.int .u64 (e)) := by repeat (first | (with_reducible assumption) | (simp (maxDischargeDepth := 9) [go_sem]; done) | refine keepA _ ?_ | refine keepD _ ?_ | refine keepB hb3 ?_)
  have zw3_2 : p2 < w3.heap.size := World.block_lt_of_cell? w3 _ cw3_4
  have cw3_5 : w3.cell? ⟨p2, 1, none⟩ = some (.int .u64 (f)) := by repeat (first | (with_reducible assumption) | (simp (maxDischargeDepth := 9) [go_sem]; done) | refine keepA _ ?_ | refine keepD _ ?_ | refine keepB hb3 ?_)
  have hBw3 : Below w.heap.size w w3 := by repeat' (first | (with_reducible exact Below.refl _ _) | (with_reducible assumption) | (with_reducible refine Below.trans ?_ (Below.mono hb3 ?_)) | (with_reducible refine Below.alloc ?_ ?_ _) | (with_reducible refine below_drewN ?_ _) | (with_reducible refine Below.drew ?_) | (with_reducible refine Below.setCell ?_ ?_ _) | go_size | omega | (simp; omega))
  have hSw3 : w.heap.size ≤ w3.heap.size := hBw3.size
  clear hb3 hSw2 cw2_0 cw2_1 cw2_2 cw2_3 cw2_4 cw2_5 zw2_0 zw2_1 zw2_2 hBw2
  go_wp2_with fail
  refine (k4 _).mono ?_
  rintro r w4 ⟨rfl, hb4⟩
  have cw4_0 : w4.cell? ⟨w.heap.size, 0, none⟩ = some (.int .u64 (a)) := by repeat (first | (with_reducible assumption) | (simp (maxDischargeDepth := 9) [go_sem]; done) | refine keepA _ ?_ | refine keepD _ ?_ | refine keepB hb4 ?_)
  have zw4_0 : w.heap.size < w4.heap.size := World.block_lt_of_cell? w4 _ cw4_0
  have cw4_1 : w4.cell? ⟨w.heap.size, 1, none⟩ = some (.int .u64 (b)) := by repeat (first | (with_reducible assumption) | (simp (maxDischargeDepth := 9) [go_sem]; done) | refine keepA _ ?_ | refine keepD _ ?_ | refine keepB hb4 ?_)
  have cw4_2 : w4.cell? ⟨p1, 0, none⟩ = some (.int .u64 (c)) := by repeat (first | (with_reducible assumption) | (simp (maxDischargeDepth := 9) [go_sem]; done) | refine keepA _ ?_ | refine keepD _ ?_ | refine keepB hb4 ?_)
  have zw4_1 : p1 < w4.heap.size := World.block_lt_of_cell? w4 _ cw4_2
  have cw4_3 : w4.cell? ⟨p1, 1, none⟩ = some (.int .u64 (d)) := by repeat (first | (with_reducible assumption) | (simp (maxDischargeDepth := 9) [go_sem]; done) | refine keepA _ ?_ | refine keepD _ ?_ | refine keepB hb4 ?_)
  have cw4_4 : w4.cell? ⟨p2, 0, none⟩ = some (.int .u64 (e)) := by repeat (first | (with_reducible assumption) | (simp (maxDischargeDepth := 9) [go_sem]; done) | refine keepA _ ?_ | refine keepD _ ?_ | refine keepB hb4 ?_)
  have zw4_2 : p2 < w4.heap.size := World.block_lt_of_cell? w4 _ cw4_4
  have cw4_5 : w4.cell? ⟨p2, 1, none⟩ = some (.int .u64 (f)) := by repeat (first | (with_reducible assumption) | (simp (maxDischargeDepth := 9) [go_sem]; done) | refine keepA _ ?_ | refine keepD _ ?_ | refine keepB hb4 ?_)
  have hBw4 : Below w.heap.size w w4 := by repeat' (first | (with_reducible exact Below.refl _ _) | (with_reducible assumption) | (with_reducible refine Below.trans ?_ (Below.mono hb4 ?_)) | (with_reducible refine Below.alloc ?_ ?_ _) | (with_reducible refine below_drewN ?_ _) | (with_reducible refine Below.drew ?_) | (with_reducible refine Below.setCell ?_ ?_ _) | go_size | omega | (simp; omega))
  have hSw4 : w.heap.size ≤ w4.heap.size := hBw4.size
  clear hb4 hSw3 cw3_0 cw3_1 cw3_2 cw3_3 cw3_4 cw3_5 zw3_0 zw3_1 zw3_2 hBw3
  go_wp2_with fail
  refine (k5 _).mono ?_
  rintro r w5 ⟨rfl, hb5⟩
  have cw5_0 : w5.cell? ⟨w.heap.size, 0, none⟩ = some (.int .u64 (a)) := by repeat (first | (with_reducible assumption) | (simp (maxDischargeDepth := 9) [go_sem]; done) | refine keepA _ ?_ | refine keepD _ ?_ | refine keepB hb5 ?_)
  have zw5_0 : w.heap.size < w5.heap.size := World.block_lt_of_cell? w5 _ cw5_0
  have cw5_1 : w5.cell? ⟨w.heap.size, 1, none⟩ = some (.int .u64 (b)) := by repeat (first | (with_reducible assumption) | (simp (maxDischargeDepth := 9) [go_sem]; done) | refine keepA _ ?_ | refine keepD _ ?_ | refine keepB hb5 ?_)
  have cw5_2 : w5.cell? ⟨p1, 0, none⟩ = some (.int .u64 (c)) := by repeat (first | (with_reducible assumption) | (simp (maxDischargeDepth := 9) [go_sem]; done) | refine keepA _ ?_ | refine keepD _ ?_ | refine keepB hb5 ?_)
  have zw5_1 : p1 < w5.heap.size := World.block_lt_of_cell? w5 _ cw5_2
  have cw5_3 : w5.cell? ⟨p1, 1, none⟩ = some (.int .u64 (d)) := by repeat (first | (with_reducible assumption) | (simp (maxDischargeDepth := 9) [go_sem]; done) | refine keepA _ ?_ | refine keepD _ ?_ | refine keepB hb5 ?_)
  have hBw5 : Below w.heap.size w w5 := by repeat' (first | (with_reducible exact Below.refl _ _) | (with_reducible assumption) | (with_reducible refine Below.trans ?_ (Below.mono hb5 ?_)) | (with_reducible refine Below.alloc ?_ ?_ _) | (with_reducible refine below_drewN ?_ _) | (with_reducible refine Below.drew ?_) | (with_reducible refine Below.setCell ?_ ?_ _) | go_size | omega | (simp; omega))
  have hSw5 : w.heap.size ≤ w5.heap.size := hBw5.size
  clear hb5 hSw4 cw4_0 cw4_1 cw4_2 cw4_3 cw4_4 cw4_5 zw4_0 zw4_1 zw4_2 hBw4
  go_wp2_with fail
  refine (k6 _).mono ?_
  rintro r w6 ⟨rfl, hb6⟩
  have cw6_0 : w6.cell? ⟨w.heap.size, 0, none⟩ = some (.int .u64 (a)) := by repeat (first | (with_reducible assumption) | (simp (maxDischargeDepth := 9) [go_sem]; done) | refine keepA _ ?_ | refine keepD _ ?_ | refine keepB hb6 ?_)
  have zw6_0 : w.heap.size < w6.heap.size := World.block_lt_of_cell? w6 _ cw6_0
  have cw6_1 : w6.cell? ⟨w.heap.size, 1, none⟩ = some (.int .u64 (b)) := by repeat (first | (with_reducible assumption) | (simp (maxDischargeDepth := 9) [go_sem]; done) | refine keepA _ ?_ | refine keepD _ ?_ | refine keepB hb6 ?_)
  have cw6_2 : w6.cell? ⟨p1, 0, none⟩ = some (.int .u64 (c)) := by repeat (first | (with_reducible assumption) | (simp (maxDischargeDepth := 9) [go_sem]; done) | refine keepA _ ?_ | refine keepD _ ?_ | refine keepB hb6 ?_)
  have zw6_1 : p1 < w6.heap.size := World.block_lt_of_cell? w6 _ cw6_2
  have cw6_3 : w6.cell? ⟨p1, 1, none⟩ = some (.int .u64 (d)) := by repeat (first | (with_reducible assumption) | (simp (maxDischargeDepth := 9) [go_sem]; done) | refine keepA _ ?_ | refine keepD _ ?_ | refine keepB hb6 ?_)
  have hBw6 : Below w.heap.size w w6 := by repeat' (first | (with_reducible exact Below.refl _ _) | (with_reducible assumption) | (with_reducible refine Below.trans ?_ (Below.mono hb6 ?_)) | (with_reducible refine Below.alloc ?_ ?_ _) | (with_reducible refine below_drewN ?_ _) | (with_reducible refine Below.drew ?_) | (with_reducible refine Below.setCell ?_ ?_ _) | go_size | omega | (simp; omega))
  have hSw6 : w.heap.size ≤ w6.heap.size := hBw6.size
  clear hb6 hSw5 cw5_0 cw5_1 cw5_2 cw5_3 zw5_0 zw5_1 hBw5
  clear k2 k3 k4 k5 k6
  go_wp2_with fail
  all_goals
    have oG1 := G1.out
    have oG2 := G2.out
    have oG3 := G3.out
    first
      | (go_ret; exact ⟨rfl, hBw6⟩)
      | (exfalso; omega)
      | (go_ret; refine ⟨ret_b ?_, hBw6⟩; first | assumption | (simp; omega) | (simp_all; done) | (rw [Bool.eq_iff_iff]; simp_all; done))
set_option maxRecDepth 100000 in
set_option maxHeartbeats 2000000 in
theorem order_g (a b c d e f n m g l h : Int) (b1 : (g == 0) = false) (b2 : (g != 0) = true) (w : World)
    (k2 : ∀ w, Calls Try.prog 10 #[.agg #[.int .u64 a, .int .u64 b], .agg #[.int .u64 c, .int .u64 d]] w fun r w' => r = .returned (.tuple #[.int .i64 n, .int .i64 0]) ∧ Below w.heap.size w w') (k3 : ∀ w, Calls Try.prog 10 #[.agg #[.int .u64 c, .int .u64 d], .agg #[.int .u64 a, .int .u64 b]] w fun r w' => r = .returned (.tuple #[.int .i64 m, .int .i64 0]) ∧ Below w.heap.size w w') (k4 : ∀ w, Calls Try.prog 10 #[.agg #[.int .u64 c, .int .u64 d], .agg #[.int .u64 e, .int .u64 f]] w fun r w' => r = .returned (.tuple #[.int .i64 0, .int .i64 g]) ∧ Below w.heap.size w w') (k5 : ∀ w, Calls Try.prog 10 #[.agg #[.int .u64 a, .int .u64 b], .agg #[.int .u64 e, .int .u64 f]] w fun r w' => r = .returned (.tuple #[.int .i64 l, .int .i64 h]) ∧ Below w.heap.size w w') :
    Calls Try.prog 4 #[.agg #[.int .u64 a, .int .u64 b], .agg #[.int .u64 c, .int .u64 d], .agg #[.int .u64 e, .int .u64 f]] w fun r w' => r = .returned (.bool true) ∧ Below w.heap.size w w' := by
  go_enter Try.func4, Try.ntmps4
  go_wp2_with fail
  refine (awake3_any _).mono ?_
  rintro r w1 ⟨rfl, hb1⟩
  have cw1_0 : w1.cell? ⟨w.heap.size, 0, none⟩ = some (.int .u64 (a)) := by repeat (first | (with_reducible assumption) | (simp (maxDischargeDepth := 9) [go_sem]; done) | refine keepA _ ?_ | refine keepD _ ?_ | refine keepB hb1 ?_)
  have zw1_0 : w.heap.size < w1.heap.size := World.block_lt_of_cell? w1 _ cw1_0
  have cw1_1 : w1.cell? ⟨w.heap.size, 1, none⟩ = some (.int .u64 (b)) := by repeat (first | (with_reducible assumption) | (simp (maxDischargeDepth := 9) [go_sem]; done) | refine keepA _ ?_ | refine keepD _ ?_ | refine keepB hb1 ?_)
  have cw1_2 : w1.cell? ⟨w.heap.size + 1, 0, none⟩ = some (.int .u64 (c)) := by repeat (first | (with_reducible assumption) | (simp (maxDischargeDepth := 9) [go_sem]; done) | refine keepA _ ?_ | refine keepD _ ?_ | refine keepB hb1 ?_)
  have zw1_1 : w.heap.size + 1 < w1.heap.size := World.block_lt_of_cell? w1 _ cw1_2
  have cw1_3 : w1.cell? ⟨w.heap.size + 1, 1, none⟩ = some (.int .u64 (d)) := by repeat (first | (with_reducible assumption) | (simp (maxDischargeDepth := 9) [go_sem]; done) | refine keepA _ ?_ | refine keepD _ ?_ | refine keepB hb1 ?_)
  have cw1_4 : w1.cell? ⟨w.heap.size + 1 + 1, 0, none⟩ = some (.int .u64 (e)) := by repeat (first | (with_reducible assumption) | (simp (maxDischargeDepth := 9) [go_sem]; done) | refine keepA _ ?_ | refine keepD _ ?_ | refine keepB hb1 ?_)
  have zw1_2 : w.heap.size + 1 + 1 < w1.heap.size := World.block_lt_of_cell? w1 _ cw1_4
  have cw1_5 : w1.cell? ⟨w.heap.size + 1 + 1, 1, none⟩ = some (.int .u64 (f)) := by repeat (first | (with_reducible assumption) | (simp (maxDischargeDepth := 9) [go_sem]; done) | refine keepA _ ?_ | refine keepD _ ?_ | refine keepB hb1 ?_)
  have hBw1 : Below w.heap.size w w1 := by repeat' (first | (with_reducible exact Below.refl _ _) | (with_reducible assumption) | (with_reducible refine Below.trans ?_ (Below.mono hb1 ?_)) | (with_reducible refine Below.alloc ?_ ?_ _) | (with_reducible refine below_drewN ?_ _) | (with_reducible refine Below.drew ?_) | (with_reducible refine Below.setCell ?_ ?_ _) | go_size | omega | (simp; omega))
  have hSw1 : w.heap.size ≤ w1.heap.size := hBw1.size
  clear hb1
  generalize w.heap.size + 1 + 1 = p2 at *
  generalize w.heap.size + 1 = p1 at *
  go_wp2_with fail
  refine (k2 _).mono ?_
  rintro r w2 ⟨rfl, hb2⟩
  have cw2_0 : w2.cell? ⟨w.heap.size, 0, none⟩ = some (.int .u64 (a)) := by repeat (first | (with_reducible assumption) | (simp (maxDischargeDepth := 9) [go_sem]; done) | refine keepA _ ?_ | refine keepD _ ?_ | refine keepB hb2 ?_)
  have zw2_0 : w.heap.size < w2.heap.size := World.block_lt_of_cell? w2 _ cw2_0
  have cw2_1 : w2.cell? ⟨w.heap.size, 1, none⟩ = some (.int .u64 (b)) := by repeat (first | (with_reducible assumption) | (simp (maxDischargeDepth := 9) [go_sem]; done) | refine keepA _ ?_ | refine keepD _ ?_ | refine keepB hb2 ?_)
  have cw2_2 : w2.cell? ⟨p1, 0, none⟩ = some (.int .u64 (c)) := by repeat (first | (with_reducible assumption) | (simp (maxDischargeDepth := 9) [go_sem]; done) | refine keepA _ ?_ | refine keepD _ ?_ | refine keepB hb2 ?_)
  have zw2_1 : p1 < w2.heap.size := World.block_lt_of_cell? w2 _ cw2_2
  have cw2_3 : w2.cell? ⟨p1, 1, none⟩ = some (.int .u64 (d)) := by repeat (first | (with_reducible assumption) | (simp (maxDischargeDepth := 9) [go_sem]; done) | refine keepA _ ?_ | refine keepD _ ?_ | refine keepB hb2 ?_)
  have cw2_4 : w2.cell? ⟨p2, 0, none⟩ = some (.int .u64 (e)) := by repeat (first | (with_reducible assumption) | (simp (maxDischargeDepth := 9) [go_sem]; done) | refine keepA _ ?_ | refine keepD _ ?_ | refine keepB hb2 ?_)
  have zw2_2 : p2 < w2.heap.size := World.block_lt_of_cell? w2 _ cw2_4
  have cw2_5 : w2.cell? ⟨p2, 1, none⟩ = some (.int .u64 (f)) := by repeat (first | (with_reducible assumption) | (simp (maxDischargeDepth := 9) [go_sem]; done) | refine keepA _ ?_ | refine keepD _ ?_ | refine keepB hb2 ?_)
  have hBw2 : Below w.heap.size w w2 := by repeat' (first | (with_reducible exact Below.refl _ _) | (with_reducible assumption) | (with_reducible refine Below.trans ?_ (Below.mono hb2 ?_)) | (with_reducible refine Below.alloc ?_ ?_ _) | (with_reducible refine below_drewN ?_ _) | (with_reducible refine Below.drew ?_) | (with_reducible refine Below.setCell ?_ ?_ _) | go_size | omega | (simp; omega))
  have hSw2 : w.heap.size ≤ w2.heap.size := hBw2.size
  clear hb2 hSw1 cw1_0 cw1_1 cw1_2 cw1_3 cw1_4 cw1_5 zw1_0 zw1_1 zw1_2 hBw1
  go_wp2_with fail
  refine (k3 _).mono ?_
  rintro r w3 ⟨rfl, hb3⟩
  have cw3_0 : w3.cell? ⟨w.heap.size, 0, none⟩ = some (.int .u64 (a)) := by repeat (first | (with_reducible assumption) | (simp (maxDischargeDepth := 9) [go_sem]; done) | refine keepA _ ?_ | refine keepD _ ?_ | refine keepB hb3 ?_)
  have zw3_0 : w.heap.size < w3.heap.size := World.block_lt_of_cell? w3 _ cw3_0
  have cw3_1 : w3.cell? ⟨w.heap.size, 1, none⟩ = some (.int .u64 (b)) := by repeat (first | (with_reducible assumption) | (simp (maxDischargeDepth := 9) [go_sem]; done) | refine keepA _ ?_ | refine keepD _ ?_ | refine keepB hb3 ?_)
  have cw3_2 : w3.cell? ⟨p1, 0, none⟩ = some (.int .u64 (c)) := by repeat (first | (with_reducible assumption) | (simp (maxDischargeDepth := 9) [go_sem]; done) | refine keepA _ ?_ | refine keepD _ ?_ | refine keepB hb3 ?_)
  have zw3_1 : p1 < w3.heap.size := World.block_lt_of_cell? w3 _ cw3_2
  have cw3_3 : w3.cell? ⟨p1, 1, none⟩ = some (.int .u64 (d)) := by repeat (first | (with_reducible assumption) | (simp (maxDischargeDepth := 9) [go_sem]; done) | refine keepA _ ?_ | refine keepD _ ?_ | refine keepB hb3 ?_)
  have cw3_4 : w3.cell? ⟨p2, 0, none⟩ = some (.int .u64 (e)) := by repeat (first | (with_reducible assumption) | (simp (maxDischargeDepth := 9) [go_sem]; done) | refine keepA _ ?_ | refine keepD _ ?_ | refine keepB hb3 ?_)
  have zw3_2 : p2 < w3.heap.size := World.block_lt_of_cell? w3 _ cw3_4
  have cw3_5 : w3.cell? ⟨p2, 1, none⟩ = some (.int .u64 (f)) := by repeat (first | (with_reducible assumption) | (simp (maxDischargeDepth := 9) [go_sem]; done) | refine keepA _ ?_ | refine keepD _ ?_ | refine keepB hb3 ?_)
  have hBw3 : Below w.heap.size w w3 := by repeat' (first | (with_reducible exact Below.refl _ _) | (with_reducible assumption) | (with_reducible refine Below.trans ?_ (Below.mono hb3 ?_)) | (with_reducible refine Below.alloc ?_ ?_ _) | (with_reducible refine below_drewN ?_ _) | (with_reducible refine Below.drew ?_) | (with_reducible refine Below.setCell ?_ ?_ _) | go_size | omega | (simp; omega))
  have hSw3 : w.heap.size ≤ w3.heap.size := hBw3.size
  clear hb3 hSw2 cw2_0 cw2_1 cw2_2 cw2_3 cw2_4 cw2_5 zw2_0 zw2_1 zw2_2 hBw2
  go_wp2_with fail
  refine (k4 _).mono ?_
  rintro r w4 ⟨rfl, hb4⟩
  have cw4_0 : w4.cell? ⟨w.heap.size, 0, none⟩ = some (.int .u64 (a)) := by repeat (first | (with_reducible assumption) | (simp (maxDischargeDepth := 9) [go_sem]; done) | refine keepA _ ?_ | refine keepD _ ?_ | refine keepB hb4 ?_)
  have zw4_0 : w.heap.size < w4.heap.size := World.block_lt_of_cell? w4 _ cw4_0
  have cw4_1 : w4.cell? ⟨w.heap.size, 1, none⟩ = some (.int .u64 (b)) := by repeat (first | (with_reducible assumption) | (simp (maxDischargeDepth := 9) [go_sem]; done) | refine keepA _ ?_ | refine keepD _ ?_ | refine keepB hb4 ?_)
  have cw4_2 : w4.cell? ⟨p1, 0, none⟩ = some (.int .u64 (c)) := by repeat (first | (with_reducible assumption) | (simp (maxDischargeDepth := 9) [go_sem]; done) | refine keepA _ ?_ | refine keepD _ ?_ | refine keepB hb4 ?_)
  have zw4_1 : p1 < w4.heap.size := World.block_lt_of_cell? w4 _ cw4_2
  have cw4_3 : w4.cell? ⟨p1, 1, none⟩ = some (.int .u64 (d)) := by repeat (first | (with_reducible assumption) | (simp (maxDischargeDepth := 9) [go_sem]; done) | refine keepA _ ?_ | refine keepD _ ?_ | refine keepB hb4 ?_)
  have cw4_4 : w4.cell? ⟨p2, 0, none⟩ = some (.int .u64 (e)) := by repeat (first | (with_reducible assumption) | (simp (maxDischargeDepth := 9) [go_sem]; done) | refine keepA _ ?_ | refine keepD _ ?_ | refine keepB hb4 ?_)
  have zw4_2 : p2 < w4.heap.size := World.block_lt_of_cell? w4 _ cw4_4
  have cw4_5 : w4.cell? ⟨p2, 1, none⟩ = some (.int .u64 (f)) := by repeat (first | (with_reducible assumption) | (simp (maxDischargeDepth := 9) [go_sem]; done) | refine keepA _ ?_ | refine keepD _ ?_ | refine keepB hb4 ?_)
  have hBw4 : Below w.heap.size w w4 := by repeat' (first | (with_reducible exact Below.refl _ _) | (with_reducible assumption) | (with_reducible refine Below.trans ?_ (Below.mono hb4 ?_)) | (with_reducible refine Below.alloc ?_ ?_ _) | (with_reducible refine below_drewN ?_ _) | (with_reducible refine Below.drew ?_) | (with_reducible refine Below.setCell ?_ ?_ _) | go_size | omega | (simp; omega))
  have hSw4 : w.heap.size ≤ w4.heap.size := hBw4.size
  clear hb4 hSw3 cw3_0 cw3_1 cw3_2 cw3_3 cw3_4 cw3_5 zw3_0 zw3_1 zw3_2 hBw3
  go_wp2_with fail
  refine (k5 _).mono ?_
  rintro r w5 ⟨rfl, hb5⟩
  have hB5 : Below w.heap.size w w5 := by repeat' (first | (with_reducible exact Below.refl _ _) | (with_reducible assumption) | (with_reducible refine Below.trans ?_ (Below.mono hb5 ?_)) | (with_reducible refine Below.alloc ?_ ?_ _) | (with_reducible refine below_drewN ?_ _) | (with_reducible refine Below.drew ?_) | (with_reducible refine Below.setCell ?_ ?_ _) | go_size | omega | (simp; omega))
  have hS5 := hB5.size
  clear hb5
  clear k2 k3 k4 k5
  go_wp2_with fail
  go_ret
  exact ⟨rfl, hB5⟩
set_option maxRecDepth 100000 in
set_option maxHeartbeats 2000000 in
theorem order_e (a b c d e f E k g l h : Int) (b1 : (E == 0) = false) (b2 : (E != 0) = true) (G3 : Hid (¬ g = 0 → k = 0)) (w : World)
    (k2 : ∀ w, Calls Try.prog 10 #[.agg #[.int .u64 a, .int .u64 b], .agg #[.int .u64 c, .int .u64 d]] w fun r w' => r = .returned (.tuple #[.int .i64 0, .int .i64 E]) ∧ Below w.heap.size w w') (k3 : ∀ w, Calls Try.prog 10 #[.agg #[.int .u64 c, .int .u64 d], .agg #[.int .u64 a, .int .u64 b]] w fun r w' => r = .returned (.tuple #[.int .i64 0, .int .i64 E]) ∧ Below w.heap.size w w') (k4 : ∀ w, Calls Try.prog 10 #[.agg #[.int .u64 c, .int .u64 d], .agg #[.int .u64 e, .int .u64 f]] w fun r w' => r = .returned (.tuple #[.int .i64 k, .int .i64 g]) ∧ Below w.heap.size w w') (k5 : ∀ w, Calls Try.prog 10 #[.agg #[.int .u64 a, .int .u64 b], .agg #[.int .u64 e, .int .u64 f]] w fun r w' => r = .returned (.tuple #[.int .i64 l, .int .i64 h]) ∧ Below w.heap.size w w') :
    Calls Try.prog 4 #[.agg #[.int .u64 a, .int .u64 b], .agg #[.int .u64 c, .int .u64 d], .agg #[.int .u64 e, .int .u64 f]] w fun r w' => r = .returned (.bool true) ∧ Below w.heap.size w w' := by
  go_enter Try.func4, Try.ntmps4
  go_wp2_with fail
  refine (awake3_any _).mono ?_
  rintro r w1 ⟨rfl, hb1⟩
  have cw1_0 : w1.cell? ⟨w.heap.size, 0, none⟩ = some (.int .u64 (a)) := by repeat (first | (with_reducible assumption) | (simp (maxDischargeDepth := 9) [go_sem]; done) | refine keepA _ ?_ | refine keepD _ ?_ | refine keepB hb1 ?_)
  have zw1_0 : w.heap.size < w1.heap.size := World.block_lt_of_cell? w1 _ cw1_0
  have cw1_1 : w1.cell? ⟨w.heap.size, 1, none⟩ = some (.int .u64 (b)) := by repeat (first | (with_reducible assumption) | (simp (maxDischargeDepth := 9) [go_sem]; done) | refine keepA _ ?_ | refine keepD _ ?_ | refine keepB hb1 ?_)
  have cw1_2 : w1.cell? ⟨w.heap.size + 1, 0, none⟩ = some (.int .u64 (c)) := by repeat (first | (with_reducible assumption) | (simp (maxDischargeDepth := 9) [go_sem]; done) | refine keepA _ ?_ | refine keepD _ ?_ | refine keepB hb1 ?_)
  have zw1_1 : w.heap.size + 1 < w1.heap.size := World.block_lt_of_cell? w1 _ cw1_2
  have cw1_3 : w1.cell? ⟨w.heap.size + 1, 1, none⟩ = some (.int .u64 (d)) := by repeat (first | (with_reducible assumption) | (simp (maxDischargeDepth := 9) [go_sem]; done) | refine keepA _ ?_ | refine keepD _ ?_ | refine keepB hb1 ?_)
  have cw1_4 : w1.cell? ⟨w.heap.size + 1 + 1, 0, none⟩ = some (.int .u64 (e)) := by repeat (first | (with_reducible assumption) | (simp (maxDischargeDepth := 9) [go_sem]; done) | refine keepA _ ?_ | refine keepD _ ?_ | refine keepB hb1 ?_)
  have zw1_2 : w.heap.size + 1 + 1 < w1.heap.size := World.block_lt_of_cell? w1 _ cw1_4
  have cw1_5 : w1.cell? ⟨w.heap.size + 1 + 1, 1, none⟩ = some (.int .u64 (f)) := by repeat (first | (with_reducible assumption) | (simp (maxDischargeDepth := 9) [go_sem]; done) | refine keepA _ ?_ | refine keepD _ ?_ | refine keepB hb1 ?_)
  have hBw1 : Below w.heap.size w w1 := by repeat' (first | (with_reducible exact Below.refl _ _) | (with_reducible assumption) | (with_reducible refine Below.trans ?_ (Below.mono hb1 ?_)) | (with_reducible refine Below.alloc ?_ ?_ _) | (with_reducible refine below_drewN ?_ _) | (with_reducible refine Below.drew ?_) | (with_reducible refine Below.setCell ?_ ?_ _) | go_size | omega | (simp; omega))
  have hSw1 : w.heap.size ≤ w1.heap.size := hBw1.size
  clear hb1
  generalize w.heap.size + 1 + 1 = p2 at *
  generalize w.heap.size + 1 = p1 at *
  go_wp2_with fail
  refine (k2 _).mono ?_
  rintro r w2 ⟨rfl, hb2⟩
  have cw2_0 : w2.cell? ⟨w.heap.size, 0, none⟩ = some (.int .u64 (a)) := by repeat (first | (with_reducible assumption) | (simp (maxDischargeDepth := 9) [go_sem]; done) | refine keepA _ ?_ | refine keepD _ ?_ | refine keepB hb2 ?_)
  have zw2_0 : w.heap.size < w2.heap.size := World.block_lt_of_cell? w2 _ cw2_0
  have cw2_1 : w2.cell? ⟨w.heap.size, 1, none⟩ = some (.int .u64 (b)) := by repeat (first | (with_reducible assumption) | (simp (maxDischargeDepth := 9) [go_sem]; done) | refine keepA _ ?_ | refine keepD _ ?_ | refine keepB hb2 ?_)
  have cw2_2 : w2.cell? ⟨p1, 0, none⟩ = some (.int .u64 (c)) := by repeat (first | (with_reducible assumption) | (simp (maxDischargeDepth := 9) [go_sem]; done) | refine keepA _ ?_ | refine keepD _ ?_ | refine keepB hb2 ?_)
  have zw2_1 : p1 < w2.heap.size := World.block_lt_of_cell? w2 _ cw2_2
  have cw2_3 : w2.cell? ⟨p1, 1, none⟩ = some (.int .u64 (d)) := by repeat (first | (with_reducible assumption) | (simp (maxDischargeDepth := 9) [go_sem]; done) | refine keepA _ ?_ | refine keepD _ ?_ | refine keepB hb2 ?_)
  have cw2_4 : w2.cell? ⟨p2, 0, none⟩ = some (.int .u64 (e)) := by repeat (first | (with_reducible assumption) | (simp (maxDischargeDepth := 9) [go_sem]; done) | refine keepA _ ?_ | refine keepD _ ?_ | refine keepB hb2 ?_)
  have zw2_2 : p2 < w2.heap.size := World.block_lt_of_cell? w2 _ cw2_4
  have cw2_5 : w2.cell? ⟨p2, 1, none⟩ = some (.int .u64 (f)) := by repeat (first | (with_reducible assumption) | (simp (maxDischargeDepth := 9) [go_sem]; done) | refine keepA _ ?_ | refine keepD _ ?_ | refine keepB hb2 ?_)
  have hBw2 : Below w.heap.size w w2 := by repeat' (first | (with_reducible exact Below.refl _ _) | (with_reducible assumption) | (with_reducible refine Below.trans ?_ (Below.mono hb2 ?_)) | (with_reducible refine Below.alloc ?_ ?_ _) | (with_reducible refine below_drewN ?_ _) | (with_reducible refine Below.drew ?_) | (with_reducible refine Below.setCell ?_ ?_ _) | go_size | omega | (simp; omega))
  have hSw2 : w.heap.size ≤ w2.heap.size := hBw2.size
  clear hb2 hSw1 cw1_0 cw1_1 cw1_2 cw1_3 cw1_4 cw1_5 zw1_0 zw1_1 zw1_2 hBw1
  go_wp2_with fail
  refine (k3 _).mono ?_
  rintro r w3 ⟨rfl, hb3⟩
  have cw3_0 : w3.cell? ⟨w.heap.size, 0, none⟩ = some (.int .u64 (a)) := by repeat (first | (with_reducible assumption) | (simp (maxDischargeDepth := 9) [go_sem]; done) | refine keepA _ ?_ | refine keepD _ ?_ | refine keepB hb3 ?_)
  have zw3_0 : w.heap.size < w3.heap.size := World.block_lt_of_cell? w3 _ cw3_0
  have cw3_1 : w3.cell? ⟨w.heap.size, 1, none⟩ = some (.int .u64 (b)) := by repeat (first | (with_reducible assumption) | (simp (maxDischargeDepth := 9) [go_sem]; done) | refine keepA _ ?_ | refine keepD _ ?_ | refine keepB hb3 ?_)
  have cw3_2 : w3.cell? ⟨p1, 0, none⟩ = some (.int .u64 (c)) := by repeat (first | (with_reducible assumption) | (simp (maxDischargeDepth := 9) [go_sem]; done) | refine keepA _ ?_ | refine keepD _ ?_ | refine keepB hb3 ?_)
  have zw3_1 : p1 < w3.heap.size := World.block_lt_of_cell? w3 _ cw3_2
  have cw3_3 : w3.cell? ⟨p1, 1, none⟩ = some (.int .u64 (d)) := by repeat (first | (with_reducible assumption) | (simp (maxDischargeDepth := 9) [go_sem]; done) | refine keepA _ ?_ | refine keepD _ ?_ | refine keepB hb3 ?_)
  have cw3_4 : w3.cell? ⟨p2, 0, none⟩ = some (.int .u64 (e)) := by repeat (first | (with_reducible assumption) | (simp (maxDischargeDepth := 9) [go_sem]; done) | refine keepA _ ?_ | refine keepD _ ?_ | refine keepB hb3 ?_)
  have zw3_2 : p2 < w3.heap.size := World.block_lt_of_cell? w3 _ cw3_4
  have cw3_5 : w3.cell? ⟨p2, 1, none⟩ = some (.int .u64 (f)) := by repeat (first | (with_reducible assumption) | (simp (maxDischargeDepth := 9) [go_sem]; done) | refine keepA _ ?_ | refine keepD _ ?_ | refine keepB hb3 ?_)
  have hBw3 : Below w.heap.size w w3 := by repeat' (first | (with_reducible exact Below.refl _ _) | (with_reducible assumption) | (with_reducible refine Below.trans ?_ (Below.mono hb3 ?_)) | (with_reducible refine Below.alloc ?_ ?_ _) | (with_reducible refine below_drewN ?_ _) | (with_reducible refine Below.drew ?_) | (with_reducible refine Below.setCell ?_ ?_ _) | go_size | omega | (simp; omega))
  have hSw3 : w.heap.size ≤ w3.heap.size := hBw3.size
  clear hb3 hSw2 cw2_0 cw2_1 cw2_2 cw2_3 cw2_4 cw2_5 zw2_0 zw2_1 zw2_2 hBw2
  go_wp2_with fail
  refine (k4 _).mono ?_
  rintro r w4 ⟨rfl, hb4⟩
  have cw4_0 : w4.cell? ⟨w.heap.size, 0, none⟩ = some (.int .u64 (a)) := by repeat (first | (with_reducible assumption) | (simp (maxDischargeDepth := 9) [go_sem]; done) | refine keepA _ ?_ | refine keepD _ ?_ | refine keepB hb4 ?_)
  have zw4_0 : w.heap.size < w4.heap.size := World.block_lt_of_cell? w4 _ cw4_0
  have cw4_1 : w4.cell? ⟨w.heap.size, 1, none⟩ = some (.int .u64 (b)) := by repeat (first | (with_reducible assumption) | (simp (maxDischargeDepth := 9) [go_sem]; done) | refine keepA _ ?_ | refine keepD _ ?_ | refine keepB hb4 ?_)
  have cw4_2 : w4.cell? ⟨p1, 0, none⟩ = some (.int .u64 (c)) := by repeat (first | (with_reducible assumption) | (simp (maxDischargeDepth := 9) [go_sem]; done) | refine keepA _ ?_ | refine keepD _ ?_ | refine keepB hb4 ?_)
  have zw4_1 : p1 < w4.heap.size := World.block_lt_of_cell? w4 _ cw4_2
  have cw4_3 : w4.cell? ⟨p1, 1, none⟩ = some (.int .u64 (d)) := by repeat (first | (with_reducible assumption) | (simp (maxDischargeDepth := 9) [go_sem]; done) | refine keepA _ ?_ | refine keepD _ ?_ | refine keepB hb4 ?_)
  have cw4_4 : w4.cell? ⟨p2, 0, none⟩ = some (.int .u64 (e)) := by repeat (first | (with_reducible assumption) | (simp (maxDischargeDepth := 9) [go_sem]; done) | refine keepA _ ?_ | refine keepD _ ?_ | refine keepB hb4 ?_)
  have zw4_2 : p2 < w4.heap.size := World.block_lt_of_cell? w4 _ cw4_4
  have cw4_5 : w4.cell? ⟨p2, 1, none⟩ = some (.int .u64 (f)) := by repeat (first | (with_reducible assumption) | (simp (maxDischargeDepth := 9) [go_sem]; done) | refine keepA _ ?_ | refine keepD _ ?_ | refine keepB hb4 ?_)
  have hBw4 : Below w.heap.size w w4 := by repeat' (first | (with_reducible exact Below.refl _ _) | (with_reducible assumption) | (with_reducible refine Below.trans ?_ (Below.mono hb4 ?_)) | (with_reducible refine Below.alloc ?_ ?_ _) | (with_reducible refine below_drewN ?_ _) | (with_reducible refine Below.drew ?_) | (with_reducible refine Below.setCell ?_ ?_ _) | go_size | omega | (simp; omega))
  have hSw4 : w.heap.size ≤ w4.heap.size := hBw4.size
  clear hb4 hSw3 cw3_0 cw3_1 cw3_2 cw3_3 cw3_4 cw3_5 zw3_0 zw3_1 zw3_2 hBw3
  go_wp2_with fail
  refine (k5 _).mono ?_
  rintro r w5 ⟨rfl, hb5⟩
  have hB5 : Below w.heap.size w w5 := by repeat' (first | (with_reducible exact Below.refl _ _) | (with_reducible assumption) | (with_reducible refine Below.trans ?_ (Below.mono hb5 ?_)) | (with_reducible refine Below.alloc ?_ ?_ _) | (with_reducible refine below_drewN ?_ _) | (with_reducible refine Below.drew ?_) | (with_reducible refine Below.setCell ?_ ?_ _) | go_size | omega | (simp; omega))
  have hS5 := hB5.size
  clear hb5
  clear k2 k3 k4 k5
  go_wp2_with fail
  all_goals
    have oG3 := G3.out
    first
      | (go_ret; exact ⟨rfl, hB5⟩)
      | (exfalso; omega)
      | (go_ret; refine ⟨ret_b ?_, hB5⟩; first | assumption | (simp; omega) | (simp_all; done) | (rw [Bool.eq_iff_iff]; simp_all; done))
theorem order_walk (a b c d e f : Int) (a0 : 0 ≤ a) (a1 : a < 18446744073709551616) (b0 : 0 ≤ b) (b1 : b < 18446744073709551616) (c0 : 0 ≤ c) (c1 : c < 18446744073709551616) (d0 : 0 ≤ d) (d1 : d < 18446744073709551616)
    (e0 : 0 ≤ e) (e1 : e < 18446744073709551616) (f0 : 0 ≤ f) (f1 : f < 18446744073709551616) (w : World) :
    Calls Try.prog 4 #[.agg #[.int .u64 a, .int .u64 b], .agg #[.int .u64 c, .int .u64 d], .agg #[.int .u64 e, .int .u64 f]] w fun r w' => r = .returned (.bool true) ∧ Below w.heap.size w w' := by
  obtain ⟨g1, g2, g3, g4, g5⟩ := order_facts a0 b0 c0 d0 e0 f0
  have k2 := fun w => ratio_Cmp a b c d a0 a1 b0 b1 c0 c1 d0 d1 w
  have k3 := fun w => ratio_Cmp c d a b c0 c1 d0 d1 a0 a1 b0 b1 w
  have k4 := fun w => ratio_Cmp c d e f c0 c1 d0 d1 e0 e1 f0 f1 w
  have k5 := fun w => ratio_Cmp a b e f a0 a1 b0 b1 e0 e1 f0 f1 w
  have k6 := fun w => ratio_Cmp b a d c b0 b1 a0 a1 d0 d1 c0 c1 w
  obtain ⟨n0, n1⟩ := rCmp_bd a b c d
  obtain ⟨m0, m1⟩ := rCmp_bd c d a b
  generalize rCmp a b c d = n at *
  generalize rErr b d = E at *
  generalize rCmp c d a b = m at *
  generalize rErr d b = F at *
  generalize rCmp c d e f = k at *
  generalize rErr d f = g at *
  generalize rCmp a b e f = l at *
  generalize rErr b f = h at *
  generalize rCmp b a d c = t at *
  generalize rErr a c = i at *
  subst g1
  by_cases hE : E = 0
  · subst hE
    by_cases hg : g = 0
    · subst hg
      obtain ⟨rfl, h1, q1, q2⟩ := g4 rfl rfl
      have hm : m = -n := by omega
      subst hm
      have q3 : (i = 20 ∧ (a = 0 ∨ c = 0)) ∨ (i = 0 ∧ t = -n) := by
        rcases g5 with h | ⟨h1, h2⟩
        · exact Or.inl h
        · exact Or.inr ⟨h1, h2 rfl⟩
      exact order_ok a b c d e f n k l t i n0 n1 (Lib.hid q1) (Lib.hid q2) (Lib.hid q3) w k2 k3 k4 k5 k6
    · obtain rfl : k = 0 := g3 hg
      exact order_g a b c d e f n m g l h (by simpa using hg) (by simpa using hg) w k2 k3 k4 k5
  · obtain ⟨rfl, rfl⟩ := g2 hE
    exact order_e a b c d e f E k g l h (by simpa using hE) (by simpa using hE) (Lib.hid g3) w k2 k3 k4 k5
theorem order_law (a b c d e f : Int) (w0 : (Lit.int .u64 a).wf = true) (w1 : (Lit.int .u64 b).wf = true) (w2 : (Lit.int .u64 c).wf = true) (w3 : (Lit.int .u64 d).wf = true) (w4 : (Lit.int .u64 e).wf = true) (w5 : (Lit.int .u64 f).wf = true) (w : World) :
    Calls Try.prog 4 #[.agg #[.int .u64 a, .int .u64 b], .agg #[.int .u64 c, .int .u64 d], .agg #[.int .u64 e, .int .u64 f]] w fun r w' => r = .returned (.bool true) ∧ Below w.heap.size w w' :=
  order_walk a b c d e f (u64c w0).1 (u64c w0).2 (u64c w1).1 (u64c w1).2 (u64c w2).1 (u64c w2).2 (u64c w3).1 (u64c w3).2 (u64c w4).1 (u64c w4).2 (u64c w5).1 (u64c w5).2 w
end Go.Proofs.Ytjoomlcbniiekaa
