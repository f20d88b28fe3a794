/- The walks of the laws of the layer wide, first part: awake. -/
import Derived.Test.YtglbgbgfenndgaaWideR3
import Derived.Test.YtglbgbgfenndgaaWideX
import Derived.OpenShut
import Derived.Deep.DeepCutAuto
set_option linter.unusedVariables false
namespace Go.Proofs.Ytglbgbgfenndgaa
open Go.RowKit Go.Shelf

set_option maxRecDepth 100000 in
set_option maxHeartbeats 4000000 in
theorem awake2_any (w : World) : Calls Try.prog 9 #[] w fun r w' => r = .returned (.bool true) ∧ Below w.heap.size w w' := by
  have e1 : wHi (wN 18446744073709551615 18446744073709551615 + wN 0 2) = 0 := by decide
  have e2 : wLo (wN 18446744073709551615 18446744073709551615 + wN 0 2) = 1 := by decide
  have e3 : wOver (wN 18446744073709551615 18446744073709551615 + wN 0 2) = true := by decide
  have e4 : wHi (wN 0 1 - wN 0 2) = 18446744073709551615 := by decide
  have e5 : wLo (wN 0 1 - wN 0 2) = 18446744073709551615 := by decide
  have e6 : wUnder (wN 0 1 - wN 0 2) = true := by decide
  have e7 : wHi (wN 3 7 / 2) = 1 := by decide
  have e8 : wLo (wN 3 7 / 2) = 9223372036854775811 := by decide
  have e9 : wN 3 7 % 2 = 1 := by decide
  have e10 : wHi 55340232221128654848 = 3 := by decide
  have e11 : wLo 55340232221128654848 = 0 := by decide
  have e12 : cmpS (wN 18446744073709551615 18446744073709551615) (wN 0 1) = 1 := by decide
  have e13 : cmpS (wN 0 1) (wN 0 1) = 0 := by decide
  have e14 : cmpS (wN 0 1) (wN 18446744073709551615 18446744073709551615) = -1 := by decide
  have e15 : wHi (wShr (wN 3 0) 1) = 1 := by decide
  have e16 : wLo (wShr (wN 3 0) 1) = 9223372036854775808 := by decide
  have e17 : wHi (wShr (wN 18446744073709551615 18446744073709551615) 128) = 0 := by decide
  have e18 : wLo (wShr (wN 18446744073709551615 18446744073709551615) 128) = 0 := by decide
  go_enter Try.func9, Try.ntmps9
  go_upto_region 2 with fail
  go_cut [2, 3] (fun s2 s3 wx => ∃ g : Nat, w.heap.size ≤ g ∧ s2 = .pointer (some ⟨g, 0, none⟩) ∧ s3 = .bool true ∧ wx.cell? ⟨g, 0, none⟩ = some (.int .u64 0) ∧ wx.cell? ⟨g, 1, none⟩ = some (.int .u64 1) ∧
    wx.cell? ⟨w.heap.size, 0, none⟩ = some (.int .u64 18446744073709551615) ∧ wx.cell? ⟨w.heap.size, 1, none⟩ = some (.int .u64 18446744073709551615) ∧ Below w.heap.size w wx)
  case first =>
    go_region_with (first
      | (go_at_call 22; refine (wide_Of_exact _ _).mono ?_; rintro e w' ⟨rfl, rfl⟩)
      | (go_at_call 10; refine (wide_Add_exact _ _ _ _ (by decide) (by decide) (by decide) (by decide) (by decide) (by decide) (by decide) (by decide) _).mono ?_; rintro e w' ⟨rfl, rfl⟩))
    all_goals
      go_wp2_with fail
      go_meet
      refine ⟨_, ?_, rfl, rfl, ?_, ?_, ?_, ?_, ?_⟩
      · omega
      · simp (maxDischargeDepth := 9) [go_sem]
      · simp (maxDischargeDepth := 9) [go_sem]
      · simp (maxDischargeDepth := 9) [go_sem]
      · simp (maxDischargeDepth := 9) [go_sem]
      · repeat' (first | (with_reducible exact Below.refl _ _) | (with_reducible assumption) | (with_reducible refine Below.alloc ?_ ?_ _) | (with_reducible refine below_drewN ?_ _) | (with_reducible refine Below.drew ?_) | (with_reducible refine Below.setCell ?_ ?_ _) | go_size)
  case rest =>
    obtain ⟨g, hg, rfl, rfl, k1, k2, k3, k4, hB⟩ := hcut
    have hgz : g < wc.heap.size := World.block_lt_of_cell? wc _ k1
    have hwz : w.heap.size < wc.heap.size := World.block_lt_of_cell? wc _ k3
    go_wp2_with (first
      | (go_at_call 22; refine (wide_Of_exact _ _).mono ?_; rintro e w' ⟨rfl, rfl⟩)
      | (go_at_call 12; refine (wide_Sub_exact _ _ _ _ (by decide) (by decide) (by decide) (by decide) (by decide) (by decide) (by decide) (by decide) _).mono ?_; rintro e w' ⟨rfl, rfl⟩)
      | (go_at_call 16; refine (wide_Mul_exact _ _ (by decide) (by decide) (by decide) (by decide) _).mono ?_; rintro e w' ⟨rfl, rfl⟩))
    refine (wide_DivP 3 7 2 (by decide) (by decide) (by decide) (by decide) (by decide) (by decide) _).mono ?_
    rintro e wa ⟨rfl, hba⟩
    obtain ⟨hca, hfa⟩ := bcell hba
    have hza := hba.size
    simp at hza
    have hga : g < wa.heap.size := by omega
    have hwa : w.heap.size < wa.heap.size := by omega
    have q1 : wa.cell? ⟨w.heap.size, 0, none⟩ = some (.int .u64 18446744073709551615) := by repeat (first | (with_reducible assumption) | (simp (maxDischargeDepth := 9) [go_sem]; done) | refine keepA _ ?_ | refine keepD _ ?_ | refine keepB hba ?_)
    have q2 : wa.cell? ⟨w.heap.size, 1, none⟩ = some (.int .u64 18446744073709551615) := by repeat (first | (with_reducible assumption) | (simp (maxDischargeDepth := 9) [go_sem]; done) | refine keepA _ ?_ | refine keepD _ ?_ | refine keepB hba ?_)
    have q3 : wa.cell? ⟨g, 0, none⟩ = some (.int .u64 0) := by repeat (first | (with_reducible assumption) | (simp (maxDischargeDepth := 9) [go_sem]; done) | refine keepA _ ?_ | refine keepD _ ?_ | refine keepB hba ?_)
    have q4 : wa.cell? ⟨g, 1, none⟩ = some (.int .u64 1) := by repeat (first | (with_reducible assumption) | (simp (maxDischargeDepth := 9) [go_sem]; done) | refine keepA _ ?_ | refine keepD _ ?_ | refine keepB hba ?_)
    have q5 : wa.cell? ⟨wc.heap.size + 1 + 1 + 1 + 1 + 1, 0, none⟩ = some (.int .u64 18446744073709551615) := by repeat (first | (with_reducible assumption) | (simp (maxDischargeDepth := 9) [go_sem]; done) | refine keepA _ ?_ | refine keepD _ ?_ | refine keepB hba ?_)
    have q6 : wa.cell? ⟨wc.heap.size + 1 + 1 + 1 + 1 + 1, 1, none⟩ = some (.int .u64 18446744073709551615) := by repeat (first | (with_reducible assumption) | (simp (maxDischargeDepth := 9) [go_sem]; done) | refine keepA _ ?_ | refine keepD _ ?_ | refine keepB hba ?_)
    have hBa : Below w.heap.size w wa := by repeat' (first | (with_reducible exact Below.refl _ _) | (with_reducible assumption) | (with_reducible refine Below.trans ?_ (Below.mono hba ?_)) | (with_reducible refine Below.alloc ?_ ?_ _) | (with_reducible refine below_drewN ?_ _) | (with_reducible refine Below.drew ?_) | (with_reducible refine Below.setCell ?_ ?_ _) | go_size)
    clear hba hca hfa k1 k2 k3 k4
    go_wp2_with (first
      | (go_at_call 22; refine (wide_Of_exact _ _).mono ?_; rintro e w' ⟨rfl, rfl⟩)
      | (go_at_call 16; refine (wide_Mul_exact _ _ (by decide) (by decide) (by decide) (by decide) _).mono ?_; rintro e w' ⟨rfl, rfl⟩)
      | (go_at_call 14; refine (wide_Div0_exact 18446744073709551615 18446744073709551615 _).mono ?_; rintro e w' ⟨rfl, rfl⟩)
      | (go_at_call 18; refine (wide_Cmp_exact _ _ _ _ (by decide) (by decide) (by decide) (by decide) _).mono ?_; rintro e w' ⟨rfl, rfl⟩)
      | (go_at_call 20; refine (wide_Shr 3 0 1 (by decide) (by decide) (by decide) (by decide) (by decide) (by decide) _).mono ?_; rintro e ws ⟨rfl, hbs⟩; have r1 : ws.cell? ⟨w.heap.size, 0, none⟩ = some (.int .u64 18446744073709551615) := (by repeat (first | (with_reducible assumption) | (simp (maxDischargeDepth := 9) [go_sem]; done) | refine keepA _ ?_ | refine keepD _ ?_ | refine keepB hbs ?_)); have r2 : ws.cell? ⟨w.heap.size, 1, none⟩ = some (.int .u64 18446744073709551615) := (by repeat (first | (with_reducible assumption) | (simp (maxDischargeDepth := 9) [go_sem]; done) | refine keepA _ ?_ | refine keepD _ ?_ | refine keepB hbs ?_)); have hBs : Below w.heap.size w ws := (by repeat' (first | (with_reducible exact Below.refl _ _) | (with_reducible assumption) | (with_reducible refine Below.trans ?_ (Below.mono hbs ?_)) | (with_reducible refine Below.alloc ?_ ?_ _) | (with_reducible refine below_drewN ?_ _) | (with_reducible refine Below.drew ?_) | (with_reducible refine Below.setCell ?_ ?_ _) | go_size)))
      | (go_at_call 20; refine (wide_Shr 18446744073709551615 18446744073709551615 128 (by decide) (by decide) (by decide) (by decide) (by decide) (by decide) _).mono ?_; rintro e wt ⟨rfl, hbt⟩))
    refine forget (fun W => W.cell? ⟨w.heap.size, 0, none⟩ = some (.int .u64 18446744073709551615) ∧ W.cell? ⟨w.heap.size, 1, none⟩ = some (.int .u64 18446744073709551615) ∧ W.cell? ⟨g, 0, none⟩ = some (.int .u64 0) ∧ W.cell? ⟨g, 1, none⟩ = some (.int .u64 1) ∧
      W.cell? ⟨wc.heap.size + 1 + 1 + 1 + 1 + 1, 0, none⟩ = some (.int .u64 18446744073709551615) ∧ W.cell? ⟨wc.heap.size + 1 + 1 + 1 + 1 + 1, 1, none⟩ = some (.int .u64 18446744073709551615) ∧
      W.cell? ⟨wa.heap.size, 0, none⟩ = some (.int .u64 1) ∧ W.cell? ⟨wa.heap.size, 1, none⟩ = some (.int .u64 9223372036854775811) ∧ Below w.heap.size w W) ⟨?_, ?_, ?_, ?_, ?_, ?_, ?_, ?_, ?_⟩ ?_
    · repeat (first | (with_reducible assumption) | (simp (maxDischargeDepth := 9) [go_sem]; done) | refine keepA _ ?_ | refine keepD _ ?_)
    · repeat (first | (with_reducible assumption) | (simp (maxDischargeDepth := 9) [go_sem]; done) | refine keepA _ ?_ | refine keepD _ ?_)
    · repeat (first | (with_reducible assumption) | (simp (maxDischargeDepth := 9) [go_sem]; done) | refine keepA _ ?_ | refine keepD _ ?_)
    · repeat (first | (with_reducible assumption) | (simp (maxDischargeDepth := 9) [go_sem]; done) | refine keepA _ ?_ | refine keepD _ ?_)
    · repeat (first | (with_reducible assumption) | (simp (maxDischargeDepth := 9) [go_sem]; done) | refine keepA _ ?_ | refine keepD _ ?_)
    · repeat (first | (with_reducible assumption) | (simp (maxDischargeDepth := 9) [go_sem]; done) | refine keepA _ ?_ | refine keepD _ ?_)
    · repeat (first | (with_reducible assumption) | (simp (maxDischargeDepth := 9) [go_sem]; done) | refine keepA _ ?_ | refine keepD _ ?_)
    · repeat (first | (with_reducible assumption) | (simp (maxDischargeDepth := 9) [go_sem]; done) | refine keepA _ ?_ | refine keepD _ ?_)
    · repeat' (first | (with_reducible exact Below.refl _ _) | (with_reducible assumption) | (with_reducible refine Below.alloc ?_ ?_ _) | (with_reducible refine below_drewN ?_ _) | (with_reducible refine Below.drew ?_) | (with_reducible refine Below.setCell ?_ ?_ _) | go_size)
    clear q1 q2 q3 q4 q5 q6
    rintro W ⟨q1, q2, q3, q4, q5, q6, q7, q8, hB⟩
    have u1 := Under.cell q1; have u2 := Under.cell q2; have u3 := Under.cell q3; have u4 := Under.cell q4
    have u5 := Under.cell q5; have u6 := Under.cell q6; have u7 := Under.cell q7; have u8 := Under.cell q8
    clear q1 q2 q3 q4 q5 q6 q7 q8
    refine region_under (by kernel_rfl) (by kernel_rfl) ?_
    repeat (first | go_big_quiet_step ((first
      | (go_at_call 22; exact quietU (wide_Of _ _))
      | (go_at_call 16; exact quietU (wide_Mul _ _ (by decide) (by decide) (by decide) (by decide) _))
      | (go_at_call 18; exact quietU (wide_Cmp _ _ _ _ (by decide) (by decide) (by decide) (by decide) _))
      | (go_at_call 20; exact quietU (wide_Shr _ _ _ (by decide) (by decide) (by decide) (by decide) (by decide) (by decide) _)))) | quiet_step ((first
      | (go_at_call 22; exact quietU (wide_Of _ _))
      | (go_at_call 16; exact quietU (wide_Mul _ _ (by decide) (by decide) (by decide) (by decide) _))
      | (go_at_call 18; exact quietU (wide_Cmp _ _ _ _ (by decide) (by decide) (by decide) (by decide) _))
      | (go_at_call 20; exact quietU (wide_Shr _ _ _ (by decide) (by decide) (by decide) (by decide) (by decide) (by decide) _)))))
    refine wpQuiet_nil ?_
    intro _ hw'
    obtain ⟨x, hw''⟩ := hw'
    subst hw''
    go_wp2_with fail
    go_ret
    exact ⟨rfl, hB.trans (x.2.mono hB.size)⟩
end Go.Proofs.Ytglbgbgfenndgaa
