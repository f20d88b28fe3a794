/- The walks of the laws of the layer wide, fourth part: WideDivides. -/
import Derived.Test.YtglbgbgfenndgaaWideL1
set_option linter.unusedVariables false
namespace Go.Proofs.Ytglbgbgfenndgaa
open Go.RowKit Go.Shelf
attribute [local go_sem ↓] lt_alloc

theorem divides_facts {a b d H L R : Int} (a0 : 0 ≤ a) (a1 : a < 18446744073709551616) (b0 : 0 ≤ b) (b1 : b < 18446744073709551616) (d0 : 0 < d) (d1 : d < 18446744073709551616)
    (hH : wHi (wN a b / d) = H) (hL : wLo (wN a b / d) = L) (hR : wN a b % d = R) :
    0 ≤ R ∧ R < d ∧ wHi (H * d) = 0 ∧ wOver (wN (wHi (L * d)) (wLo (L * d)) + wN (wLo (H * d)) 0) = false ∧
    wOver (wN (wHi (wN (wHi (L * d)) (wLo (L * d)) + wN (wLo (H * d)) 0)) (wLo (wN (wHi (L * d)) (wLo (L * d)) + wN (wLo (H * d)) 0)) + wN 0 R) = false ∧
    wHi (wN (wHi (wN (wHi (L * d)) (wLo (L * d)) + wN (wLo (H * d)) 0)) (wLo (wN (wHi (L * d)) (wLo (L * d)) + wN (wLo (H * d)) 0)) + wN 0 R) = a ∧
    wLo (wN (wHi (wN (wHi (L * d)) (wLo (L * d)) + wN (wLo (H * d)) 0)) (wLo (wN (wHi (L * d)) (wLo (L * d)) + wN (wLo (H * d)) 0)) + wN 0 R) = b := by
  obtain ⟨n0, n1⟩ := wN_bd a0 a1 b0 b1
  have e1 := Int.emod_add_mul_ediv (wN a b) d
  have e2 := Int.emod_nonneg (wN a b) (show d ≠ 0 by omega)
  have e3 := Int.emod_lt_of_pos (wN a b) d0
  have q0 : 0 ≤ wN a b / d := Int.ediv_nonneg n0 (by omega)
  have q1 : wN a b / d ≤ wN a b := Int.ediv_le_self _ n0
  rw [hR] at e1 e2 e3
  have hq : wN a b / d = wN H L := by rw [← hH, ← hL]; exact (wN_of q0 (by omega)).symm
  obtain ⟨h0, h1⟩ := wHi_bd (wN a b / d)
  obtain ⟨l0, l1⟩ := wLo_bd (wN a b / d)
  rw [hH] at h0 h1
  rw [hL] at l0 l1
  have p1 := mul_bd l0 l1 (by omega : 0 ≤ d) d1
  have p2 := mul_bd h0 h1 (by omega : 0 ≤ d) d1
  have e4 : d * (wN a b / d) = H * d * 18446744073709551616 + L * d := by rw [hq]; unfold wN; grind
  rw [e4] at e1
  clear e4 hq q0 q1
  generalize H * d = p at *
  generalize L * d = q at *
  have s1 : wN (wHi q) (wLo q) + wN (wLo p) 0 = p * 18446744073709551616 + q := by
    rw [wN_of p1.1 (by omega)]; unfold wN wLo; unfold wN at n1 e1; omega
  rw [s1]
  have s2 : wN (wHi (p * 18446744073709551616 + q)) (wLo (p * 18446744073709551616 + q)) = p * 18446744073709551616 + q := wN_of (by omega) (by omega)
  rw [s2]
  have s3 : p * 18446744073709551616 + q + wN 0 R = wN a b := by unfold wN at *; omega
  rw [s3]
  refine ⟨e2, e3, ?_, ?_, ?_, wHi_wN a0 a1 b0 b1, wLo_wN b0 b1⟩
  · unfold wHi; omega
  · unfold wOver; simp only [decide_eq_false_iff_not]; omega
  · unfold wOver; simp only [decide_eq_false_iff_not]; omega
set_option maxRecDepth 100000 in
set_option maxHeartbeats 4000000 in
theorem divides2_zero (a b : Int) (w : World) :
    Calls Try.prog 5 #[.agg #[.int .u64 a, .int .u64 b], .int .u64 0] w fun r w' => r = .returned (.bool true) ∧ Below w.heap.size w w' := by
  go_enter Try.func5, Try.ntmps5
  go_wp2_with fail
  refine (awake2_any _).mono ?_
  rintro r w1 ⟨rfl, hb1⟩
  have cw1_0 : w1.cell? ⟨w.heap.size, 0, none⟩ = some (.int .u64 (a)) := by repeat (first | (with_reducible assumption) | (simp (maxDischargeDepth := 9) [go_sem]; done) | refine keepA _ ?_ | refine keepD _ ?_ | refine keepB hb1 ?_)
  have zw1_0 : w.heap.size < w1.heap.size := World.block_lt_of_cell? w1 _ cw1_0
  have cw1_1 : w1.cell? ⟨w.heap.size, 1, none⟩ = some (.int .u64 (b)) := by repeat (first | (with_reducible assumption) | (simp (maxDischargeDepth := 9) [go_sem]; done) | refine keepA _ ?_ | refine keepD _ ?_ | refine keepB hb1 ?_)
  have hBw1 : Below w.heap.size w w1 := by repeat' (first | (with_reducible exact Below.refl _ _) | (with_reducible assumption) | (with_reducible refine Below.trans ?_ (Below.mono hb1 ?_)) | (with_reducible refine Below.alloc ?_ ?_ _) | (with_reducible refine below_drewN ?_ _) | (with_reducible refine Below.drew ?_) | (with_reducible refine Below.setCell ?_ ?_ _) | go_size | omega | (simp; omega))
  have hSw1 : w.heap.size ≤ w1.heap.size := hBw1.size
  clear hb1
  go_wp2_with (go_at_call 14; refine (wide_Div0_exact _ _ _).mono ?_; rintro r w2 ⟨rfl, rfl⟩)
  go_ret
  exact ⟨rfl, by repeat' (first | (with_reducible exact Below.refl _ _) | (with_reducible assumption) | (with_reducible refine Below.alloc ?_ ?_ _) | (with_reducible refine below_drewN ?_ _) | (with_reducible refine Below.drew ?_) | (with_reducible refine Below.setCell ?_ ?_ _) | go_size | omega | (simp; omega))⟩
set_option maxRecDepth 100000 in
set_option maxHeartbeats 1000000 in
theorem divides2_walk (a b d : Int) (a0 : 0 ≤ a) (a1 : a < 18446744073709551616) (b0 : 0 ≤ b) (b1 : b < 18446744073709551616) (d0 : 0 < d) (d1 : d < 18446744073709551616) (w : World) :
    Calls Try.prog 5 #[.agg #[.int .u64 a, .int .u64 b], .int .u64 d] w fun r w' => r = .returned (.bool true) ∧ Below w.heap.size w w' := by
  have hd := wide_DivP a b d a0 a1 b0 b1 d0 d1
  obtain ⟨h0, h1⟩ := wHi_bd (wN a b / d)
  obtain ⟨l0, l1⟩ := wLo_bd (wN a b / d)
  obtain ⟨H, hH⟩ : ∃ n, wHi (wN a b / d) = n := ⟨_, rfl⟩
  obtain ⟨L, hL⟩ : ∃ n, wLo (wN a b / d) = n := ⟨_, rfl⟩
  obtain ⟨R, hR⟩ : ∃ n, wN a b % d = n := ⟨_, rfl⟩
  obtain ⟨f1, f2, f3, f4, f5, f6, f7⟩ := divides_facts a0 a1 b0 b1 d0 d1 hH hL hR
  simp only [hH, hL, hR] at h0 h1 l0 l1 hd
  clear hH hL hR
  have D0 : 0 ≤ d := by omega
  have hdz : (d == 0) = false := by simp; omega
  have R1 : R < 18446744073709551616 := by omega
  have m1 := fun w => wide_Mul_exact L d l0 l1 D0 d1 w
  have m2 := fun w => wide_Mul_exact H d h0 h1 D0 d1 w
  have m3 := fun w => wide_Add_exact (wHi (L * d)) (wLo (L * d)) (wLo (H * d)) 0 (wHi_bd _).1 (wHi_bd _).2 (wLo_bd _).1 (wLo_bd _).2 (wLo_bd _).1 (wLo_bd _).2 (by decide) (by decide) w
  have m4 := fun w => wide_Add_exact (wHi (wN (wHi (L * d)) (wLo (L * d)) + wN (wLo (H * d)) 0)) (wLo (wN (wHi (L * d)) (wLo (L * d)) + wN (wLo (H * d)) 0)) 0 R (wHi_bd _).1 (wHi_bd _).2 (wLo_bd _).1 (wLo_bd _).2 (by decide) (by decide) f1 R1 w
  rw [f3] at m2
  rw [f4] at m3
  rw [f5, f6, f7] at m4
  clear f3 f4 f5 f6 f7
  generalize wHi (wN (wHi (L * d)) (wLo (L * d)) + wN (wLo (H * d)) 0) = X at *
  generalize wLo (wN (wHi (L * d)) (wLo (L * d)) + wN (wLo (H * d)) 0) = Y at *
  generalize wHi (L * d) = p1 at *
  generalize wLo (L * d) = p2 at *
  generalize wLo (H * d) = q2 at *
  go_enter Try.func5, Try.ntmps5
  go_wp2_with fail
  refine (awake2_any _).mono ?_
  rintro r w1 ⟨rfl, hb1⟩
  have cw1_0 : w1.cell? ⟨w.heap.size, 0, none⟩ = some (.int .u64 (a)) := by repeat (first | (with_reducible assumption) | (simp (maxDischargeDepth := 9) [go_sem]; done) | refine keepA _ ?_ | refine keepD _ ?_ | refine keepB hb1 ?_)
  have zw1_0 : w.heap.size < w1.heap.size := World.block_lt_of_cell? w1 _ cw1_0
  have cw1_1 : w1.cell? ⟨w.heap.size, 1, none⟩ = some (.int .u64 (b)) := by repeat (first | (with_reducible assumption) | (simp (maxDischargeDepth := 9) [go_sem]; done) | refine keepA _ ?_ | refine keepD _ ?_ | refine keepB hb1 ?_)
  have hBw1 : Below w.heap.size w w1 := by repeat' (first | (with_reducible exact Below.refl _ _) | (with_reducible assumption) | (with_reducible refine Below.trans ?_ (Below.mono hb1 ?_)) | (with_reducible refine Below.alloc ?_ ?_ _) | (with_reducible refine below_drewN ?_ _) | (with_reducible refine Below.drew ?_) | (with_reducible refine Below.setCell ?_ ?_ _) | go_size | omega | (simp; omega))
  have hSw1 : w.heap.size ≤ w1.heap.size := hBw1.size
  clear hb1
  go_wp2_with fail
  refine (hd _).mono ?_
  rintro r w2 ⟨rfl, hb2⟩
  have cw2_0 : w2.cell? ⟨w.heap.size, 0, none⟩ = some (.int .u64 (a)) := by repeat (first | (with_reducible assumption) | (simp (maxDischargeDepth := 9) [go_sem]; done) | refine keepA _ ?_ | refine keepD _ ?_ | refine keepB hb2 ?_)
  have zw2_0 : w.heap.size < w2.heap.size := World.block_lt_of_cell? w2 _ cw2_0
  have cw2_1 : w2.cell? ⟨w.heap.size, 1, none⟩ = some (.int .u64 (b)) := by repeat (first | (with_reducible assumption) | (simp (maxDischargeDepth := 9) [go_sem]; done) | refine keepA _ ?_ | refine keepD _ ?_ | refine keepB hb2 ?_)
  have hBw2 : Below w.heap.size w w2 := by repeat' (first | (with_reducible exact Below.refl _ _) | (with_reducible assumption) | (with_reducible refine Below.trans ?_ (Below.mono hb2 ?_)) | (with_reducible refine Below.alloc ?_ ?_ _) | (with_reducible refine below_drewN ?_ _) | (with_reducible refine Below.drew ?_) | (with_reducible refine Below.setCell ?_ ?_ _) | go_size | omega | (simp; omega))
  have hSw2 : w.heap.size ≤ w2.heap.size := hBw2.size
  clear hb2 hSw1 cw1_0 cw1_1 zw1_0 hBw1
  clear hd
  go_wp2_with fail
  refine (m1 _).mono ?_
  rintro e w' ⟨rfl, rfl⟩
  go_wp2_with fail
  refine (m2 _).mono ?_
  rintro e w' ⟨rfl, rfl⟩
  go_wp2_with fail
  refine (m3 _).mono ?_
  rintro e w' ⟨rfl, rfl⟩
  go_upto_region 8 with fail
  refine forget (fun W => W.cell? ⟨w.heap.size, 0, none⟩ = some (.int .u64 a) ∧ W.cell? ⟨w.heap.size, 1, none⟩ = some (.int .u64 b) ∧ W.cell? ⟨w2.heap.size + 1 + 1 + 1 + 1, 0, none⟩ = some (.int .u64 0) ∧
    W.cell? ⟨w2.heap.size + 1 + 1 + 1 + 1 + 1 + 1 + 1 + 1, 0, none⟩ = some (.int .u64 X) ∧ W.cell? ⟨w2.heap.size + 1 + 1 + 1 + 1 + 1 + 1 + 1 + 1, 1, none⟩ = some (.int .u64 Y) ∧ Below w.heap.size w W) ⟨?_, ?_, ?_, ?_, ?_, ?_⟩ ?_
  · repeat (first | (with_reducible assumption) | (simp (maxDischargeDepth := 9) [go_sem]; done) | refine keepA _ ?_ | refine keepD _ ?_)
  · repeat (first | (with_reducible assumption) | (simp (maxDischargeDepth := 9) [go_sem]; done) | refine keepA _ ?_ | refine keepD _ ?_)
  · repeat (first | (with_reducible assumption) | (simp (maxDischargeDepth := 9) [go_sem]; done) | refine keepA _ ?_ | refine keepD _ ?_)
  · repeat (first | (with_reducible assumption) | (simp (maxDischargeDepth := 9) [go_sem]; done) | refine keepA _ ?_ | refine keepD _ ?_)
  · repeat (first | (with_reducible assumption) | (simp (maxDischargeDepth := 9) [go_sem]; done) | refine keepA _ ?_ | refine keepD _ ?_)
  · repeat' (first | (with_reducible exact Below.refl _ _) | (with_reducible assumption) | (with_reducible refine Below.alloc ?_ ?_ _) | (with_reducible refine below_drewN ?_ _) | (with_reducible refine Below.drew ?_) | (with_reducible refine Below.setCell ?_ ?_ _) | go_size | omega | (simp; omega))
  generalize w2.heap.size + 1 + 1 + 1 + 1 + 1 + 1 + 1 + 1 = g8 at *
  generalize w2.heap.size + 1 + 1 + 1 + 1 = g4 at *
  clear hBw2 cw2_0 cw2_1
  rintro W ⟨c1, c2, c3, c4, c5, hB⟩
  have z1 : w.heap.size < W.heap.size := World.block_lt_of_cell? W _ c1
  have z2 : g4 < W.heap.size := World.block_lt_of_cell? W _ c3
  have z3 : g8 < W.heap.size := World.block_lt_of_cell? W _ c4
  have hS : w.heap.size ≤ W.heap.size := hB.size
  go_cut [13, 14] (fun s13 s14 wx => ∃ g : Nat, s13 = .pointer (some ⟨g, 0, none⟩) ∧ s14 = .bool false ∧ wx.cell? ⟨g, 0, none⟩ = some (.int .u64 a) ∧ wx.cell? ⟨g, 1, none⟩ = some (.int .u64 b) ∧
    wx.cell? ⟨w.heap.size, 0, none⟩ = some (.int .u64 a) ∧ wx.cell? ⟨w.heap.size, 1, none⟩ = some (.int .u64 b) ∧ wx.cell? ⟨g4, 0, none⟩ = some (.int .u64 0) ∧ Below w.heap.size w wx)
  case first =>
    go_region_with (first
      | (go_at_call 22; refine (wide_Of_exact _ _).mono ?_; rintro e w' ⟨rfl, rfl⟩)
      | (go_at_call 10; refine (m4 _).mono ?_; rintro e w' ⟨rfl, rfl⟩))
    all_goals
      go_wp2_with fail
      go_meet
      refine ⟨_, rfl, rfl, ?_, ?_, ?_, ?_, ?_, ?_⟩
      · repeat (first | (with_reducible assumption) | (simp (maxDischargeDepth := 9) [go_sem]; done) | refine keepA _ ?_ | refine keepD _ ?_)
      · repeat (first | (with_reducible assumption) | (simp (maxDischargeDepth := 9) [go_sem]; done) | refine keepA _ ?_ | refine keepD _ ?_)
      · repeat (first | (with_reducible assumption) | (simp (maxDischargeDepth := 9) [go_sem]; done) | refine keepA _ ?_ | refine keepD _ ?_)
      · repeat (first | (with_reducible assumption) | (simp (maxDischargeDepth := 9) [go_sem]; done) | refine keepA _ ?_ | refine keepD _ ?_)
      · repeat (first | (with_reducible assumption) | (simp (maxDischargeDepth := 9) [go_sem]; done) | refine keepA _ ?_ | refine keepD _ ?_)
      · repeat' (first | (with_reducible exact Below.refl _ _) | (with_reducible assumption) | (with_reducible refine Below.alloc ?_ ?_ _) | (with_reducible refine below_drewN ?_ _) | (with_reducible refine Below.drew ?_) | (with_reducible refine Below.setCell ?_ ?_ _) | go_size | omega | (simp; omega))
  case rest =>
    obtain ⟨g, rfl, rfl, k1, k2, k3, k4, k5, hB'⟩ := hcut
    go_wp2_with fail
    go_ret
    exact ⟨rfl, by repeat' (first | (with_reducible exact Below.refl _ _) | (with_reducible assumption) | (with_reducible refine Below.alloc ?_ ?_ _) | (with_reducible refine below_drewN ?_ _) | (with_reducible refine Below.drew ?_) | (with_reducible refine Below.setCell ?_ ?_ _) | go_size | omega | (simp; omega))⟩
theorem divides2_law (a b d : Int) (w0 : (Lit.int .u64 a).wf = true) (w1 : (Lit.int .u64 b).wf = true) (w2 : (Lit.int .u64 d).wf = true) (w : World) :
    Calls Try.prog 5 #[.agg #[.int .u64 a, .int .u64 b], .int .u64 d] w fun r w' => r = .returned (.bool true) ∧ Below w.heap.size w w' := by
  have h0 := bounds_u64 w0; have h1 := bounds_u64 w1; have h2 := bounds_u64 w2
  rcases Int.lt_or_eq_of_le h2.1 with h | rfl
  · exact divides2_walk a b d (by omega) (by omega) (by omega) (by omega) h (by omega) w
  · exact divides2_zero a b w
end Go.Proofs.Ytglbgbgfenndgaa
