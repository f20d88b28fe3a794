/- The walks of the laws of the layer ratio, second part: RatioOrder and RatioSame. -/
import Derived.Test.YtjoomlcbniiekaaRatioL
set_option linter.unusedVariables false
namespace Go.Proofs.Ytjoomlcbniiekaa
open Go.RowKit Go.Shelf
attribute [local go_sem ↓] lt_alloc

theorem same_facts {n d k p q : Int} (n0 : 0 ≤ n) (d0 : 0 ≤ d) (k0 : 0 ≤ k) (p0 : 0 ≤ p) (q0 : 0 ≤ q) :
    (d = 0 ∨ k = 0 → rErr d (d * k) = 20 ∧ rCmp n d (n * k) (d * k) = 0) ∧
    (¬ (d = 0 ∨ k = 0) → rErr d (d * k) = 0 ∧ rCmp n d (n * k) (d * k) = 0 ∧ rErr d q = rErr (d * k) q ∧ rCmp n d p q = rCmp (n * k) (d * k) p q) := by
  refine ⟨fun h => ?_, fun h => ?_⟩
  · have hz : d * k = 0 := by rcases h with rfl | rfl <;> simp
    rw [hz, rErr_zr, rCmp_zr]; exact ⟨rfl, rfl⟩
  · have d1 : 0 < d := by omega
    have k1 : 0 < k := by omega
    have dk : 0 < d * k := Int.mul_pos d1 k1
    rw [rErr_pos d1 dk, rCmp_pos d1 dk]
    refine ⟨rfl, cmpS_eq (by grind), ?_, ?_⟩
    · unfold rErr
      by_cases hq : q = 0
      · rw [if_pos (Or.inr hq), if_pos (Or.inr hq)]
      · rw [if_neg (by omega), if_neg (by omega)]
    · by_cases hq : q = 0
      · subst hq; rw [rCmp_zr, rCmp_zr]
      · rw [rCmp_pos d1 (by omega), rCmp_pos dk (by omega)]
        have e1 : n * k * q = n * q * k := by grind
        have e2 : p * (d * k) = p * d * k := by grind
        rw [e1, e2]
        have m : ∀ x y : Int, cmpS (x * k) (y * k) = cmpS x y := by
          intro x y
          rcases Int.lt_trichotomy x y with h | h | h
          · rw [cmpS_lt h, cmpS_lt (Int.mul_lt_mul_of_pos_right h k1)]
          · rw [cmpS_eq h, cmpS_eq (by rw [h])]
          · rw [cmpS_gt h, cmpS_gt (Int.mul_lt_mul_of_pos_right h k1)]
        exact (m _ _).symm
theorem u32_mul {a b : Int} (a0 : 0 ≤ a) (a1 : a < 4294967296) (b0 : 0 ≤ b) (b1 : b < 4294967296) : 0 ≤ a * b ∧ a * b < 18446744073709551616 := by
  have := part_bd a0 a1 b0 b1; omega
set_option maxRecDepth 100000 in
set_option maxHeartbeats 4000000 in
theorem same_walk (n d k p q : Int) (n0 : 0 ≤ n) (n1 : n < 4294967296) (d0 : 0 ≤ d) (d1 : d < 4294967296) (k0 : 0 ≤ k) (k1 : k < 4294967296) (p0 : 0 ≤ p) (p1 : p < 18446744073709551616) (q0 : 0 ≤ q) (q1 : q < 18446744073709551616) (w : World) :
    Calls Try.prog 5 #[.int .u32 n, .int .u32 d, .int .u32 k, .agg #[.int .u64 p, .int .u64 q]] w fun r w' => r = .returned (.bool true) ∧ Below w.heap.size w w' := by
  obtain ⟨f1, f2⟩ := same_facts n0 d0 k0 p0 q0
  obtain ⟨x0, x1⟩ := u32_mul n0 n1 k0 k1
  obtain ⟨y0, y1⟩ := u32_mul d0 d1 k0 k1
  have c2 := fun w => ratio_Cmp n d (n * k) (d * k) n0 (by omega) d0 (by omega) x0 x1 y0 y1 w
  have c3 := fun w => ratio_Cmp n d p q n0 (by omega) d0 (by omega) p0 p1 q0 q1 w
  have c4 := fun w => ratio_Cmp (n * k) (d * k) p q x0 x1 y0 y1 p0 p1 q0 q1 w
  generalize rErr d (d * k) = e2 at *
  generalize rCmp n d (n * k) (d * k) = v2 at *
  generalize rErr d q = e3 at *
  generalize rCmp n d p q = v3 at *
  generalize rErr (d * k) q = e4 at *
  generalize rCmp (n * k) (d * k) p q = v4 at *
  have F1 := Lib.hid f1; have F2 := Lib.hid f2
  clear f1 f2
  go_enter Try.func5, Try.ntmps5
  go_wp2_with fail
  refine (awake3_any _).mono ?_
  rintro r w1 ⟨rfl, hb1⟩
  have cw1_0 : w1.cell? ⟨w.heap.size, 0, none⟩ = some (.int .u64 (p)) := by repeat (first | (with_reducible assumption) | (simp (maxDischargeDepth := 9) [go_sem]; done) | refine keepA _ ?_ | refine keepD _ ?_ | refine keepB hb1 ?_)
  have zw1_0 : w.heap.size < w1.heap.size := World.block_lt_of_cell? w1 _ cw1_0
  have cw1_1 : w1.cell? ⟨w.heap.size, 1, none⟩ = some (.int .u64 (q)) := by repeat (first | (with_reducible assumption) | (simp (maxDischargeDepth := 9) [go_sem]; done) | refine keepA _ ?_ | refine keepD _ ?_ | refine keepB hb1 ?_)
  have hBw1 : Below w.heap.size w w1 := by repeat' (first | (with_reducible exact Below.refl _ _) | (with_reducible assumption) | (with_reducible refine Below.trans ?_ (Below.mono hb1 ?_)) | (with_reducible refine Below.alloc ?_ ?_ _) | (with_reducible refine below_drewN ?_ _) | (with_reducible refine Below.drew ?_) | (with_reducible refine Below.setCell ?_ ?_ _) | go_size | omega | (simp; omega))
  have hSw1 : w.heap.size ≤ w1.heap.size := hBw1.size
  clear hb1
  go_wp2_with fail
  refine (c2 _).mono ?_
  rintro r w2 ⟨rfl, hb2⟩
  have cw2_0 : w2.cell? ⟨w.heap.size, 0, none⟩ = some (.int .u64 (p)) := by repeat (first | (with_reducible assumption) | (simp (maxDischargeDepth := 9) [go_sem]; done) | refine keepA _ ?_ | refine keepD _ ?_ | refine keepB hb2 ?_)
  have zw2_0 : w.heap.size < w2.heap.size := World.block_lt_of_cell? w2 _ cw2_0
  have cw2_1 : w2.cell? ⟨w.heap.size, 1, none⟩ = some (.int .u64 (q)) := by repeat (first | (with_reducible assumption) | (simp (maxDischargeDepth := 9) [go_sem]; done) | refine keepA _ ?_ | refine keepD _ ?_ | refine keepB hb2 ?_)
  have cw2_2 : w2.cell? ⟨w1.heap.size, 0, none⟩ = some (.int .u64 (n)) := by repeat (first | (with_reducible assumption) | (simp (maxDischargeDepth := 9) [go_sem]; done) | refine keepA _ ?_ | refine keepD _ ?_ | refine keepB hb2 ?_)
  have zw2_1 : w1.heap.size < w2.heap.size := World.block_lt_of_cell? w2 _ cw2_2
  have cw2_3 : w2.cell? ⟨w1.heap.size, 1, none⟩ = some (.int .u64 (d)) := by repeat (first | (with_reducible assumption) | (simp (maxDischargeDepth := 9) [go_sem]; done) | refine keepA _ ?_ | refine keepD _ ?_ | refine keepB hb2 ?_)
  have cw2_4 : w2.cell? ⟨w1.heap.size + 1, 0, none⟩ = some (.int .u64 (n * k)) := by repeat (first | (with_reducible assumption) | (simp (maxDischargeDepth := 9) [go_sem]; done) | refine keepA _ ?_ | refine keepD _ ?_ | refine keepB hb2 ?_)
  have zw2_2 : w1.heap.size + 1 < w2.heap.size := World.block_lt_of_cell? w2 _ cw2_4
  have cw2_5 : w2.cell? ⟨w1.heap.size + 1, 1, none⟩ = some (.int .u64 (d * k)) := by repeat (first | (with_reducible assumption) | (simp (maxDischargeDepth := 9) [go_sem]; done) | refine keepA _ ?_ | refine keepD _ ?_ | refine keepB hb2 ?_)
  have hBw2 : Below w.heap.size w w2 := by repeat' (first | (with_reducible exact Below.refl _ _) | (with_reducible assumption) | (with_reducible refine Below.trans ?_ (Below.mono hb2 ?_)) | (with_reducible refine Below.alloc ?_ ?_ _) | (with_reducible refine below_drewN ?_ _) | (with_reducible refine Below.drew ?_) | (with_reducible refine Below.setCell ?_ ?_ _) | go_size | omega | (simp; omega))
  have hSw2 : w.heap.size ≤ w2.heap.size := hBw2.size
  clear hb2 hSw1 cw1_0 cw1_1 zw1_0 hBw1
  go_wp2_with fail
  refine (c3 _).mono ?_
  rintro r w3 ⟨rfl, hb3⟩
  have cw3_0 : w3.cell? ⟨w.heap.size, 0, none⟩ = some (.int .u64 (p)) := by repeat (first | (with_reducible assumption) | (simp (maxDischargeDepth := 9) [go_sem]; done) | refine keepA _ ?_ | refine keepD _ ?_ | refine keepB hb3 ?_)
  have zw3_0 : w.heap.size < w3.heap.size := World.block_lt_of_cell? w3 _ cw3_0
  have cw3_1 : w3.cell? ⟨w.heap.size, 1, none⟩ = some (.int .u64 (q)) := by repeat (first | (with_reducible assumption) | (simp (maxDischargeDepth := 9) [go_sem]; done) | refine keepA _ ?_ | refine keepD _ ?_ | refine keepB hb3 ?_)
  have cw3_2 : w3.cell? ⟨w1.heap.size + 1, 0, none⟩ = some (.int .u64 (n * k)) := by repeat (first | (with_reducible assumption) | (simp (maxDischargeDepth := 9) [go_sem]; done) | refine keepA _ ?_ | refine keepD _ ?_ | refine keepB hb3 ?_)
  have zw3_1 : w1.heap.size + 1 < w3.heap.size := World.block_lt_of_cell? w3 _ cw3_2
  have cw3_3 : w3.cell? ⟨w1.heap.size + 1, 1, none⟩ = some (.int .u64 (d * k)) := by repeat (first | (with_reducible assumption) | (simp (maxDischargeDepth := 9) [go_sem]; done) | refine keepA _ ?_ | refine keepD _ ?_ | refine keepB hb3 ?_)
  have hBw3 : Below w.heap.size w w3 := by repeat' (first | (with_reducible exact Below.refl _ _) | (with_reducible assumption) | (with_reducible refine Below.trans ?_ (Below.mono hb3 ?_)) | (with_reducible refine Below.alloc ?_ ?_ _) | (with_reducible refine below_drewN ?_ _) | (with_reducible refine Below.drew ?_) | (with_reducible refine Below.setCell ?_ ?_ _) | go_size | omega | (simp; omega))
  have hSw3 : w.heap.size ≤ w3.heap.size := hBw3.size
  clear hb3 hSw2 cw2_0 cw2_1 cw2_2 cw2_3 cw2_4 cw2_5 zw2_0 zw2_1 zw2_2 hBw2
  go_wp2_with fail
  refine (c4 _).mono ?_
  rintro r w4 ⟨rfl, hb4⟩
  have hB4 : Below w.heap.size w w4 := by repeat' (first | (with_reducible exact Below.refl _ _) | (with_reducible assumption) | (with_reducible refine Below.trans ?_ (Below.mono hb4 ?_)) | (with_reducible refine Below.alloc ?_ ?_ _) | (with_reducible refine below_drewN ?_ _) | (with_reducible refine Below.drew ?_) | (with_reducible refine Below.setCell ?_ ?_ _) | go_size | omega | (simp; omega))
  have hS4 := hB4.size
  clear hb4
  clear c2 c3 c4
  go_wp2_with fail
  all_goals
    have oF1 := F1.out
    have oF2 := F2.out
    first
      | (go_ret; exact ⟨rfl, hB4⟩)
      | (exfalso; omega)
      | (go_ret; refine ⟨ret_b ?_, hB4⟩; first | assumption | (simp; omega) | (simp_all; done) | (rw [Bool.eq_iff_iff]; simp_all; done))
theorem same_law (n d k p q : Int) (w0 : (Lit.int .u32 n).wf = true) (w1 : (Lit.int .u32 d).wf = true) (w2 : (Lit.int .u32 k).wf = true) (w3 : (Lit.int .u64 p).wf = true) (w4 : (Lit.int .u64 q).wf = true) (w : World) :
    Calls Try.prog 5 #[.int .u32 n, .int .u32 d, .int .u32 k, .agg #[.int .u64 p, .int .u64 q]] w fun r w' => r = .returned (.bool true) ∧ Below w.heap.size w w' := by
  have h0 := bounds_u32 w0; have h1 := bounds_u32 w1; have h2 := bounds_u32 w2
  exact same_walk n d k p q (by omega) (by omega) (by omega) (by omega) (by omega) (by omega) (u64c w3).1 (u64c w3).2 (u64c w4).1 (u64c w4).2 w
end Go.Proofs.Ytjoomlcbniiekaa
