/- The walks of the laws of the layer wide, sixth part: WideShifts. -/
import Derived.Test.YtglbgbgfenndgaaWideL1
set_option linter.unusedVariables false
namespace Go.Proofs.Ytglbgbgfenndgaa
open Go.RowKit Go.Shelf
attribute [local go_sem ↓] lt_alloc

set_option maxRecDepth 100000 in
set_option maxHeartbeats 2000000 in
theorem shifts_core (a b n m H L P Q q0 q1 R : Int) (w : World) (n0 : 0 ≤ n) (n1 : n < 256) (m0 : 0 ≤ m) (m1 : m < 256) (hw1 : IntKind.u64.wrap (n + m) = n + m) (hw2 : IntKind.u64.wrap (n + 1) = n + 1)
    (kA : ∀ w, Calls Try.prog 20 #[.agg #[.int .u64 a, .int .u64 b], .int .u64 n] w fun r w' => r = .returned (.agg #[.int .u64 H, .int .u64 L]) ∧ Below w.heap.size w w')
    (kB : ∀ w, Calls Try.prog 20 #[.agg #[.int .u64 H, .int .u64 L], .int .u64 m] w fun r w' => r = .returned (.agg #[.int .u64 P, .int .u64 Q]) ∧ Below w.heap.size w w')
    (kC : ∀ w, Calls Try.prog 20 #[.agg #[.int .u64 a, .int .u64 b], .int .u64 (n + m)] w fun r w' => r = .returned (.agg #[.int .u64 P, .int .u64 Q]) ∧ Below w.heap.size w w')
    (kD : ∀ w, Calls Try.prog 20 #[.agg #[.int .u64 a, .int .u64 b], .int .u64 (n + 1)] w fun r w' => r = .returned (.agg #[.int .u64 q0, .int .u64 q1]) ∧ Below w.heap.size w w')
    (kE : ∀ w, Calls Try.prog 20 #[.agg #[.int .u64 a, .int .u64 b], .int .u64 0] w fun r w' => r = .returned (.agg #[.int .u64 a, .int .u64 b]) ∧ Below w.heap.size w w')
    (kF : ∀ w, Calls Try.prog 14 #[.agg #[.int .u64 H, .int .u64 L], .int .u64 2] w fun r w' => r = .returned (.tuple #[.agg #[.int .u64 q0, .int .u64 q1], .int .u64 R, .int .i64 0]) ∧ Below w.heap.size w w') :
    Calls Try.prog 8 #[.agg #[.int .u64 a, .int .u64 b], .int .u8 n, .int .u8 m] w fun r w' => r = .returned (.bool true) ∧ Below w.heap.size w w' := by
  go_enter Try.func8, Try.ntmps8
  go_wp2_with fail
  refine (awake2_any _).mono ?_
  rintro r w1 ⟨rfl, hb1⟩
  have cw1_0 : w1.cell? ⟨w.heap.size, 0, none⟩ = some (.int .u64 (a)) := by repeat (first | (with_reducible assumption) | (simp (maxDischargeDepth := 9) [go_sem]; done) | refine keepA _ ?_ | refine keepD _ ?_ | refine keepB hb1 ?_)
  have zw1_0 : w.heap.size < w1.heap.size := World.block_lt_of_cell? w1 _ cw1_0
  have cw1_1 : w1.cell? ⟨w.heap.size, 1, none⟩ = some (.int .u64 (b)) := by repeat (first | (with_reducible assumption) | (simp (maxDischargeDepth := 9) [go_sem]; done) | refine keepA _ ?_ | refine keepD _ ?_ | refine keepB hb1 ?_)
  have hBw1 : Below w.heap.size w w1 := by repeat' (first | (with_reducible exact Below.refl _ _) | (with_reducible assumption) | (with_reducible refine Below.trans ?_ (Below.mono hb1 ?_)) | (with_reducible refine Below.alloc ?_ ?_ _) | (with_reducible refine below_drewN ?_ _) | (with_reducible refine Below.drew ?_) | (with_reducible refine Below.setCell ?_ ?_ _) | go_size | omega | (simp; omega))
  have hSw1 : w.heap.size ≤ w1.heap.size := hBw1.size
  clear hb1
  go_wp2_with fail
  refine (kA _).mono ?_
  rintro r w2 ⟨rfl, hb2⟩
  have cw2_0 : w2.cell? ⟨w.heap.size, 0, none⟩ = some (.int .u64 (a)) := by repeat (first | (with_reducible assumption) | (simp (maxDischargeDepth := 9) [go_sem]; done) | refine keepA _ ?_ | refine keepD _ ?_ | refine keepB hb2 ?_)
  have zw2_0 : w.heap.size < w2.heap.size := World.block_lt_of_cell? w2 _ cw2_0
  have cw2_1 : w2.cell? ⟨w.heap.size, 1, none⟩ = some (.int .u64 (b)) := by repeat (first | (with_reducible assumption) | (simp (maxDischargeDepth := 9) [go_sem]; done) | refine keepA _ ?_ | refine keepD _ ?_ | refine keepB hb2 ?_)
  have hBw2 : Below w.heap.size w w2 := by repeat' (first | (with_reducible exact Below.refl _ _) | (with_reducible assumption) | (with_reducible refine Below.trans ?_ (Below.mono hb2 ?_)) | (with_reducible refine Below.alloc ?_ ?_ _) | (with_reducible refine below_drewN ?_ _) | (with_reducible refine Below.drew ?_) | (with_reducible refine Below.setCell ?_ ?_ _) | go_size | omega | (simp; omega))
  have hSw2 : w.heap.size ≤ w2.heap.size := hBw2.size
  clear hb2 hSw1 cw1_0 cw1_1 zw1_0 hBw1
  go_wp2_with fail
  refine (kF _).mono ?_
  rintro r w3 ⟨rfl, hb3⟩
  have cw3_0 : w3.cell? ⟨w.heap.size, 0, none⟩ = some (.int .u64 (a)) := by repeat (first | (with_reducible assumption) | (simp (maxDischargeDepth := 9) [go_sem]; done) | refine keepA _ ?_ | refine keepD _ ?_ | refine keepB hb3 ?_)
  have zw3_0 : w.heap.size < w3.heap.size := World.block_lt_of_cell? w3 _ cw3_0
  have cw3_1 : w3.cell? ⟨w.heap.size, 1, none⟩ = some (.int .u64 (b)) := by repeat (first | (with_reducible assumption) | (simp (maxDischargeDepth := 9) [go_sem]; done) | refine keepA _ ?_ | refine keepD _ ?_ | refine keepB hb3 ?_)
  have hBw3 : Below w.heap.size w w3 := by repeat' (first | (with_reducible exact Below.refl _ _) | (with_reducible assumption) | (with_reducible refine Below.trans ?_ (Below.mono hb3 ?_)) | (with_reducible refine Below.alloc ?_ ?_ _) | (with_reducible refine below_drewN ?_ _) | (with_reducible refine Below.drew ?_) | (with_reducible refine Below.setCell ?_ ?_ _) | go_size | omega | (simp; omega))
  have hSw3 : w.heap.size ≤ w3.heap.size := hBw3.size
  clear hb3 hSw2 cw2_0 cw2_1 zw2_0 hBw2
  go_upto_region 4 with fail
  refine forget (fun W => W.cell? ⟨w.heap.size, 0, none⟩ = some (.int .u64 a) ∧ W.cell? ⟨w.heap.size, 1, none⟩ = some (.int .u64 b) ∧ W.cell? ⟨w3.heap.size, 0, none⟩ = some (.int .u64 q0) ∧ W.cell? ⟨w3.heap.size, 1, none⟩ = some (.int .u64 q1) ∧ Below w.heap.size w W) ⟨?_, ?_, ?_, ?_, ?_⟩ ?_
  · repeat (first | (with_reducible assumption) | (simp (maxDischargeDepth := 9) [go_sem]; done) | refine keepA _ ?_ | refine keepD _ ?_)
  · repeat (first | (with_reducible assumption) | (simp (maxDischargeDepth := 9) [go_sem]; done) | refine keepA _ ?_ | refine keepD _ ?_)
  · repeat (first | (with_reducible assumption) | (simp (maxDischargeDepth := 9) [go_sem]; done) | refine keepA _ ?_ | refine keepD _ ?_)
  · repeat (first | (with_reducible assumption) | (simp (maxDischargeDepth := 9) [go_sem]; done) | refine keepA _ ?_ | refine keepD _ ?_)
  · repeat' (first | (with_reducible exact Below.refl _ _) | (with_reducible assumption) | (with_reducible refine Below.alloc ?_ ?_ _) | (with_reducible refine below_drewN ?_ _) | (with_reducible refine Below.drew ?_) | (with_reducible refine Below.setCell ?_ ?_ _) | go_size | omega | (simp; omega))
  rintro W ⟨c1, c2, c3, c4, hB⟩
  have u1 := Under.cell c1; have u2 := Under.cell c2; have u3 := Under.cell c3; have u4 := Under.cell c4
  clear c1 c2 c3 c4
  (refine region_under (by kernel_rfl) (by kernel_rfl) ?_; (repeat (first | go_big_quiet_step ((first | (go_at_call 20; with_reducible exact quietU (kA _)) | (go_at_call 20; with_reducible exact quietU (kB _)) | (go_at_call 20; with_reducible exact quietU (kC _)) | (go_at_call 20; with_reducible exact quietU (kD _)) | (go_at_call 20; with_reducible exact quietU (kE _)))) | quiet_step ((first | (go_at_call 20; with_reducible exact quietU (kA _)) | (go_at_call 20; with_reducible exact quietU (kB _)) | (go_at_call 20; with_reducible exact quietU (kC _)) | (go_at_call 20; with_reducible exact quietU (kD _)) | (go_at_call 20; with_reducible exact quietU (kE _)))))); refine wpQuiet_nil ?_; intro _ hw'; obtain ⟨x, hw''⟩ := hw'; subst hw''; go_wp2_with fail)
  go_ret
  exact ⟨rfl, hB.trans (x.2.mono hB.size)⟩
theorem shifts2_law (a b n m : Int) (w0 : (Lit.int .u64 a).wf = true) (w1 : (Lit.int .u64 b).wf = true) (w2 : (Lit.int .u8 n).wf = true) (w3 : (Lit.int .u8 m).wf = true) (w : World) :
    Calls Try.prog 8 #[.agg #[.int .u64 a, .int .u64 b], .int .u8 n, .int .u8 m] w fun r w' => r = .returned (.bool true) ∧ Below w.heap.size w w' := by
  have h0 := bounds_u64 w0; have h1 := bounds_u64 w1; have h2 := bounds_u8 w2; have h3 := bounds_u8 w3
  have a0 : 0 ≤ a := by omega
  have a1 : a < 18446744073709551616 := by omega
  have b0 : 0 ≤ b := by omega
  have b1 : b < 18446744073709551616 := by omega
  obtain ⟨z0, z1⟩ := wN_bd a0 a1 b0 b1
  have s0 : 0 ≤ wShr (wN a b) n := wShr_nonneg z0
  have s1 : wShr (wN a b) n < 340282366920938463463374607431768211456 := Int.lt_of_le_of_lt (wShr_le z0) z1
  have kB := fun w => wide_Shr (wHi (wShr (wN a b) n)) (wLo (wShr (wN a b) n)) m (wHi_bd _).1 (wHi_bd _).2 (wLo_bd _).1 (wLo_bd _).2 (by omega) (by omega) w
  rw [wN_of s0 s1, ← wShr_add _ _ _ (by omega) (by omega)] at kB
  have kD := fun w => wide_Shr a b (n + 1) a0 a1 b0 b1 (by omega) (by omega) w
  have e1 : wShr (wN a b) (n + 1) = wShr (wN a b) n / 2 := by rw [wShr_add _ _ _ (by omega) (by omega)]; rfl
  rw [e1] at kD
  have kE := fun w => wide_Shr a b 0 a0 a1 b0 b1 (by omega) (by omega) w
  rw [wShr_zero, wHi_wN a0 a1 b0 b1, wLo_wN b0 b1] at kE
  have kF := fun w => wide_DivP (wHi (wShr (wN a b) n)) (wLo (wShr (wN a b) n)) 2 (wHi_bd _).1 (wHi_bd _).2 (wLo_bd _).1 (wLo_bd _).2 (by decide) (by decide) w
  rw [wN_of s0 s1] at kF
  exact shifts_core a b n m _ _ _ _ _ _ _ w (by omega) (by omega) (by omega) (by omega) (by rw [IntKind.wrap_u64]; omega) (by rw [IntKind.wrap_u64]; omega) (fun w => wide_Shr a b n a0 a1 b0 b1 (by omega) (by omega) w) kB (fun w => wide_Shr a b (n + m) a0 a1 b0 b1 (by omega) (by omega) w) kD kE kF
end Go.Proofs.Ytglbgbgfenndgaa
