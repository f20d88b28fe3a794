/- The walks of the laws of the layer wide, third part: WideOrder. -/
import Derived.Test.YtglbgbgfenndgaaWideL1
set_option linter.unusedVariables false
namespace Go.Proofs.Ytglbgbgfenndgaa
open Go.RowKit Go.Shelf

theorem lt_alloc {W : World} {o : Obj} {p : Nat} : (p < (W.alloc o).heap.size) = (p < W.heap.size ∨ p = W.heap.size) := by rw [World.size_alloc]; exact propext (by omega)
attribute [local go_sem ↓] lt_alloc
theorem cmpS_neg (x y : Int) : cmpS y x = -cmpS x y := by unfold cmpS; repeat' split <;> omega
theorem cmpS_trans {x y z : Int} (h : ¬ cmpS x y ≤ 0) (h' : ¬ cmpS y z ≤ 0) : 0 < cmpS x z := by unfold cmpS at *; repeat' split at * <;> omega
theorem cmpS_zero {x y : Int} : cmpS x y = 0 ↔ x = y := by unfold cmpS; repeat' split <;> omega
theorem order_sums {a b c d e f : Int} (a0 : 0 ≤ a) (b0 : 0 ≤ b) (c0 : 0 ≤ c) (d0 : 0 ≤ d) (e0 : 0 ≤ e) (f0 : 0 ≤ f)
    (h : wOver (wN a b + wN e f) = false) (h' : wOver (wN c d + wN e f) = false) :
    cmpS (wN (wHi (wN a b + wN e f)) (wLo (wN a b + wN e f))) (wN (wHi (wN c d + wN e f)) (wLo (wN c d + wN e f))) = cmpS (wN a b) (wN c d) := by
  unfold wOver at *
  simp only [decide_eq_false_iff_not] at *
  rw [wN_of (by unfold wN; omega) (by omega), wN_of (by unfold wN; omega) (by omega)]
  unfold cmpS; repeat' split <;> omega

set_option maxRecDepth 100000 in
set_option maxHeartbeats 4000000 in
theorem order2_walk (a b c d e f : Int) (a0 : 0 ≤ a) (a1 : a < 18446744073709551616) (b0 : 0 ≤ b) (b1 : b < 18446744073709551616) (c0 : 0 ≤ c) (c1 : c < 18446744073709551616) (d0 : 0 ≤ d) (d1 : d < 18446744073709551616)
    (e0 : 0 ≤ e) (e1 : e < 18446744073709551616) (f0 : 0 ≤ f) (f1 : f < 18446744073709551616) (w : World) :
    Calls Try.prog 7 #[.agg #[.int .u64 a, .int .u64 b], .agg #[.int .u64 c, .int .u64 d], .agg #[.int .u64 e, .int .u64 f]] w fun r w' => r = .returned (.bool true) ∧ Below w.heap.size w w' := by
  obtain ⟨n, hn⟩ : ∃ n, cmpS (wN a b) (wN c d) = n := ⟨_, rfl⟩
  obtain ⟨n0, n1⟩ := cmpS_bd (wN a b) (wN c d)
  have hm := cmpS_neg (wN a b) (wN c d)
  rw [hn] at n0 n1 hm
  obtain ⟨s0, s1⟩ := wHi_bd (wN a b + wN e f)
  obtain ⟨s2, s3⟩ := wLo_bd (wN a b + wN e f)
  obtain ⟨t0, t1⟩ := wHi_bd (wN c d + wN e f)
  obtain ⟨t2, t3⟩ := wLo_bd (wN c d + wN e f)
  have hz : n = 0 ↔ (a = c ∧ b = d) := by rw [← hn, cmpS_zero, wN_inj a0 b0 b1 c0 d0 d1]
  have hs := order_sums a0 b0 c0 d0 e0 f0
  rw [hn] at hs
  have hs' := Lib.hid hs; have hz' := Lib.hid hz
  clear hs hz
  go_enter Try.func7, Try.ntmps7
  go_wp2_with fail
  refine (awake2_any _).mono ?_
  rintro r w1 ⟨rfl, hb1⟩
  have cw1_0 : w1.cell? ⟨w.heap.size, 0, none⟩ = some (.int .u64 (a)) := by repeat (first | (with_reducible assumption) | (simp (maxDischargeDepth := 9) [go_sem]; done) | refine keepA _ ?_ | refine keepD _ ?_ | refine keepB hb1 ?_)
  have zw1_0 : w.heap.size < w1.heap.size := World.block_lt_of_cell? w1 _ cw1_0
  have cw1_1 : w1.cell? ⟨w.heap.size, 1, none⟩ = some (.int .u64 (b)) := by repeat (first | (with_reducible assumption) | (simp (maxDischargeDepth := 9) [go_sem]; done) | refine keepA _ ?_ | refine keepD _ ?_ | refine keepB hb1 ?_)
  have cw1_2 : w1.cell? ⟨w.heap.size + 1, 0, none⟩ = some (.int .u64 (c)) := by repeat (first | (with_reducible assumption) | (simp (maxDischargeDepth := 9) [go_sem]; done) | refine keepA _ ?_ | refine keepD _ ?_ | refine keepB hb1 ?_)
  have zw1_1 : w.heap.size + 1 < w1.heap.size := World.block_lt_of_cell? w1 _ cw1_2
  have cw1_3 : w1.cell? ⟨w.heap.size + 1, 1, none⟩ = some (.int .u64 (d)) := by repeat (first | (with_reducible assumption) | (simp (maxDischargeDepth := 9) [go_sem]; done) | refine keepA _ ?_ | refine keepD _ ?_ | refine keepB hb1 ?_)
  have cw1_4 : w1.cell? ⟨w.heap.size + 1 + 1, 0, none⟩ = some (.int .u64 (e)) := by repeat (first | (with_reducible assumption) | (simp (maxDischargeDepth := 9) [go_sem]; done) | refine keepA _ ?_ | refine keepD _ ?_ | refine keepB hb1 ?_)
  have zw1_2 : w.heap.size + 1 + 1 < w1.heap.size := World.block_lt_of_cell? w1 _ cw1_4
  have cw1_5 : w1.cell? ⟨w.heap.size + 1 + 1, 1, none⟩ = some (.int .u64 (f)) := by repeat (first | (with_reducible assumption) | (simp (maxDischargeDepth := 9) [go_sem]; done) | refine keepA _ ?_ | refine keepD _ ?_ | refine keepB hb1 ?_)
  have hBw1 : Below w.heap.size w w1 := by repeat' (first | (with_reducible exact Below.refl _ _) | (with_reducible assumption) | (with_reducible refine Below.trans ?_ (Below.mono hb1 ?_)) | (with_reducible refine Below.alloc ?_ ?_ _) | (with_reducible refine below_drewN ?_ _) | (with_reducible refine Below.drew ?_) | (with_reducible refine Below.setCell ?_ ?_ _) | go_size)
  clear hb1
  generalize w.heap.size + 1 + 1 = p2 at *
  generalize w.heap.size + 1 = p1 at *
  go_wp2_with fail
  refine (wide_Cmp_exact a b c d b0 b1 d0 d1 _).mono ?_
  rintro r w2 ⟨rfl, rfl⟩
  go_upto_region 3 with fail
  go_cut [9] (fun s9 wx => s9 = .bool true ∧ Below w1.heap.size w1 wx)
  case first =>
    go_wp2_with (go_at_call 18; refine (wide_Cmp_exact _ _ _ _ (by assumption) (by assumption) (by assumption) (by assumption) _).mono ?_; rintro r wx ⟨rfl, rfl⟩)
    all_goals
      go_meet
      refine ⟨?_, ?_⟩
      · first | rfl | (have := @cmpS_trans (wN a b) (wN c d) (wN e f); simp; omega)
      · repeat' (first | (with_reducible exact Below.refl _ _) | (with_reducible assumption) | (with_reducible refine Below.alloc ?_ ?_ _) | (with_reducible refine below_drewN ?_ _) | (with_reducible refine Below.drew ?_) | (with_reducible refine Below.setCell ?_ ?_ _) | go_size)
  case rest =>
    obtain ⟨rfl, hb3⟩ := hcut
    have cwc_0 : wc.cell? ⟨w.heap.size, 0, none⟩ = some (.int .u64 (a)) := by repeat (first | (with_reducible assumption) | (simp (maxDischargeDepth := 9) [go_sem]; done) | refine keepA _ ?_ | refine keepD _ ?_ | refine keepB hb3 ?_)
    have zwc_0 : w.heap.size < wc.heap.size := World.block_lt_of_cell? wc _ cwc_0
    have cwc_1 : wc.cell? ⟨w.heap.size, 1, none⟩ = some (.int .u64 (b)) := by repeat (first | (with_reducible assumption) | (simp (maxDischargeDepth := 9) [go_sem]; done) | refine keepA _ ?_ | refine keepD _ ?_ | refine keepB hb3 ?_)
    have cwc_2 : wc.cell? ⟨p1, 0, none⟩ = some (.int .u64 (c)) := by repeat (first | (with_reducible assumption) | (simp (maxDischargeDepth := 9) [go_sem]; done) | refine keepA _ ?_ | refine keepD _ ?_ | refine keepB hb3 ?_)
    have zwc_1 : p1 < wc.heap.size := World.block_lt_of_cell? wc _ cwc_2
    have cwc_3 : wc.cell? ⟨p1, 1, none⟩ = some (.int .u64 (d)) := by repeat (first | (with_reducible assumption) | (simp (maxDischargeDepth := 9) [go_sem]; done) | refine keepA _ ?_ | refine keepD _ ?_ | refine keepB hb3 ?_)
    have cwc_4 : wc.cell? ⟨p2, 0, none⟩ = some (.int .u64 (e)) := by repeat (first | (with_reducible assumption) | (simp (maxDischargeDepth := 9) [go_sem]; done) | refine keepA _ ?_ | refine keepD _ ?_ | refine keepB hb3 ?_)
    have zwc_2 : p2 < wc.heap.size := World.block_lt_of_cell? wc _ cwc_4
    have cwc_5 : wc.cell? ⟨p2, 1, none⟩ = some (.int .u64 (f)) := by repeat (first | (with_reducible assumption) | (simp (maxDischargeDepth := 9) [go_sem]; done) | refine keepA _ ?_ | refine keepD _ ?_ | refine keepB hb3 ?_)
    have hBwc : Below w.heap.size w wc := by repeat' (first | (with_reducible exact Below.refl _ _) | (with_reducible assumption) | (with_reducible refine Below.trans ?_ (Below.mono hb3 ?_)) | (with_reducible refine Below.alloc ?_ ?_ _) | (with_reducible refine below_drewN ?_ _) | (with_reducible refine Below.drew ?_) | (with_reducible refine Below.setCell ?_ ?_ _) | go_size)
    clear hb3 cw1_0 cw1_1 cw1_2 cw1_3 cw1_4 cw1_5 zw1_0 zw1_1 zw1_2 hBw1
    have hm' : cmpS (wN c d) (wN a b) = -n := hm
    go_wp2_with (first
      | (go_at_call 18; refine (wide_Cmp_exact _ _ _ _ (by first | assumption | exact (wLo_bd _).1 | exact (wLo_bd _).2) (by first | assumption | exact (wLo_bd _).1 | exact (wLo_bd _).2) (by first | assumption | exact (wLo_bd _).1 | exact (wLo_bd _).2) (by first | assumption | exact (wLo_bd _).1 | exact (wLo_bd _).2) _).mono ?_; rintro r wx ⟨rfl, rfl⟩)
      | (go_at_call 10; refine (wide_Add_exact _ _ _ _ (by assumption) (by assumption) (by assumption) (by assumption) (by assumption) (by assumption) (by assumption) (by assumption) _).mono ?_; rintro e w' ⟨rfl, rfl⟩))
    all_goals
      have hz := hz'.out
      have hs := hs'.out
      first | go_ret | (exfalso; omega)
      first
        | (exfalso; omega)
        | (refine ⟨ret_b ?_, ?_⟩
           · first | rfl | (simp only [beq_iff_eq]; exact hs (by assumption) (by assumption)) | simp_all
           · repeat' (first | (with_reducible exact Below.refl _ _) | (with_reducible assumption) | (with_reducible refine Below.alloc ?_ ?_ _) | (with_reducible refine below_drewN ?_ _) | (with_reducible refine Below.drew ?_) | (with_reducible refine Below.setCell ?_ ?_ _) | go_size))
theorem order2_law (a b c d e f : Int) (w0 : (Lit.int .u64 a).wf = true) (w1 : (Lit.int .u64 b).wf = true) (w2 : (Lit.int .u64 c).wf = true) (w3 : (Lit.int .u64 d).wf = true) (w4 : (Lit.int .u64 e).wf = true) (w5 : (Lit.int .u64 f).wf = true) (w : World) :
    Calls Try.prog 7 #[.agg #[.int .u64 a, .int .u64 b], .agg #[.int .u64 c, .int .u64 d], .agg #[.int .u64 e, .int .u64 f]] w fun r w' => r = .returned (.bool true) ∧ Below w.heap.size w w' := by
  have h0 := bounds_u64 w0; have h1 := bounds_u64 w1; have h2 := bounds_u64 w2; have h3 := bounds_u64 w3; have h4 := bounds_u64 w4; have h5 := bounds_u64 w5
  exact order2_walk a b c d e f (by omega) (by omega) (by omega) (by omega) (by omega) (by omega) (by omega) (by omega) (by omega) (by omega) (by omega) (by omega) w
end Go.Proofs.Ytglbgbgfenndgaa
