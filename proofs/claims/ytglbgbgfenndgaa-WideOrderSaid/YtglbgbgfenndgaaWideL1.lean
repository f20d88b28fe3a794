/- The walks of the laws of the layer wide, first part: awake. -/
import Derived.Test.YtglbgbgfenndgaaWideR3
import Derived.OpenShut
import Derived.Deep.DeepCutAuto
set_option linter.unusedVariables false
namespace Go.Proofs.Ytglbgbgfenndgaa
open Go.RowKit Go.Shelf

/-- A world in which all that is there in W is as it was. -/
def Under (W : World) : Type := { w' : World // Below W.heap.size W w' }
def Under.w {W : World} (x : Under W) : World := x.1
instance Under.non (W : World) : Nonempty (Under W) := ⟨⟨W, Below.refl _ _⟩⟩
theorem region_under {P : Program} {id : Nat} {Q : Exit → Act → World → Prop} {a : Act} {w : World} {l : List Oper} (hm : P.follows .mixedOrders = true) (hB : Region.lexB .any l.toArray = true)
    (h : wpQuiet P l.toArray (fun w' => ∃ x : Under w, w' = x.w) (fun a' => ∀ w', (∃ x : Under w, w' = x.w) → Q .normal a' w') l a) : (Code.region id l.toArray true).wp P Q a w :=
  wp_region_quiet (C := fun w' => ∃ x : Under w, w' = x.w) hm hB ⟨⟨_, (Below.refl _ w).drew⟩, rfl⟩ (by simpa using h)
theorem quietU {P : Program} {f : FuncId} {args : Array Value} {W : World} {x : Under W} {v : Value} (h : Calls P f args x.w fun e w' => e = .returned v ∧ Below x.w.heap.size x.w w') :
    Calls P f args x.w fun e w'' => e = .returned v ∧ ∃ m : Under W, w'' = m.w :=
  h.mono fun _ w' ⟨he, hb⟩ => ⟨he, ⟨w', x.2.trans (hb.mono x.2.size)⟩, rfl⟩
theorem Under.cell {W : World} {a : Addr} {v : Value} (h : W.cell? a = some v) (x : Under W) : x.w.cell? a = some v := keepB x.2 h
theorem wide_Sub_exact (a b c d : Int) (a0 : 0 ≤ a) (a1 : a < 18446744073709551616) (b0 : 0 ≤ b) (b1 : b < 18446744073709551616) (c0 : 0 ≤ c) (c1 : c < 18446744073709551616) (d0 : 0 ≤ d) (d1 : d < 18446744073709551616) (w : World) :
    Calls Try.prog 12 #[.agg #[.int .u64 a, .int .u64 b], .agg #[.int .u64 c, .int .u64 d]] w fun e w' =>
      e = .returned (.tuple #[.agg #[.int .u64 (wHi (wN a b - wN c d)), .int .u64 (wLo (wN a b - wN c d))], .bool (wUnder (wN a b - wN c d))]) ∧
      ((w.alloc (.cells #[.int .u64 a, .int .u64 b] 24)).alloc (.cells #[.int .u64 c, .int .u64 d] 24)).alloc (.cells #[.int .u64 (wHi (wN a b - wN c d)), .int .u64 (wLo (wN a b - wN c d))] 24) = w' := by
  obtain ⟨k0, k1⟩ := bor_bd b d
  go_enter Try.func12, Try.ntmps12
  go_wp2_with (first | simp only [sub64_0 b d b0 d0 d1] | simp only [sub64 a c _ a0 c0 c1 k0 k1])
  go_returns
  exact ⟨ret_wb (sub_hi b0 b1 d0 d1) sub_lo (sub_under b0 b1 d0 d1), by rw [sub_hi b0 b1 d0 d1, sub_lo (a := a) (c := c)]⟩
theorem wide_Mul_exact (a b : Int) (ha : 0 ≤ a) (ha' : a < 18446744073709551616) (hb : 0 ≤ b) (hb' : b < 18446744073709551616) (w : World) :
    Calls Try.prog 16 #[.int .u64 a, .int .u64 b] w fun e w' => e = .returned (.agg #[.int .u64 (wHi (a * b)), .int .u64 (wLo (a * b))]) ∧
      w.alloc (.cells #[.int .u64 (wHi (a * b)), .int .u64 (wLo (a * b))] 24) = w' := by
  go_enter Try.func16, Try.ntmps16
  go_wp2_with (go_at_call 28; refine (mul64 a b ha ha' hb hb' _).mono ?_; rintro e w' ⟨rfl, rfl⟩)
  go_returns
  exact ⟨ret_w (mul_hi ha ha' hb hb') rfl, by rw [mul_hi ha ha' hb hb']; rfl⟩
theorem wide_Div0_exact (a b : Int) (w : World) :
    Calls Try.prog 14 #[.agg #[.int .u64 a, .int .u64 b], .int .u64 0] w fun e w' =>
      e = .returned (.tuple #[.agg #[.int .u64 0, .int .u64 0], .int .u64 0, .int .i64 20]) ∧ (w.alloc (.cells #[.int .u64 a, .int .u64 b] 24)).alloc (.cells #[.int .u64 0, .int .u64 0] 24) = w' := by
  go_enter Try.func14, Try.ntmps14
  go_wp2
  go_returns
  exact ⟨rfl, rfl⟩
theorem wide_Cmp_exact (a b c d : Int) (b0 : 0 ≤ b) (b1 : b < 18446744073709551616) (d0 : 0 ≤ d) (d1 : d < 18446744073709551616) (w : World) :
    Calls Try.prog 18 #[.agg #[.int .u64 a, .int .u64 b], .agg #[.int .u64 c, .int .u64 d]] w fun e w' =>
      e = .returned (.int .i64 (cmpS (wN a b) (wN c d))) ∧ (w.alloc (.cells #[.int .u64 a, .int .u64 b] 24)).alloc (.cells #[.int .u64 c, .int .u64 d] 24) = w' := by
  rcases Int.lt_trichotomy a c with h | h | h
  · go_enter Try.func18, Try.ntmps18
    go_wp2
    go_ret
    exact ⟨ret_i (Eq.symm (cmpS_lt (by unfold wN; omega))), rfl⟩
  · subst h
    rcases Int.lt_trichotomy b d with h | h | h
    · go_enter Try.func18, Try.ntmps18
      go_wp2
      go_ret
      exact ⟨ret_i (Eq.symm (cmpS_lt (by unfold wN; omega))), rfl⟩
    · subst h
      go_enter Try.func18, Try.ntmps18
      go_wp2
      go_ret
      exact ⟨ret_i (Eq.symm (cmpS_eq rfl)), rfl⟩
    · go_enter Try.func18, Try.ntmps18
      go_wp2
      go_ret
      exact ⟨ret_i (Eq.symm (cmpS_gt (by unfold wN; omega))), rfl⟩
  · go_enter Try.func18, Try.ntmps18
    go_wp2
    go_ret
    exact ⟨ret_i (Eq.symm (cmpS_gt (by unfold wN; omega))), rfl⟩
theorem wide_Add_exact (a b c d : Int) (a0 : 0 ≤ a) (a1 : a < 18446744073709551616) (b0 : 0 ≤ b) (b1 : b < 18446744073709551616) (c0 : 0 ≤ c) (c1 : c < 18446744073709551616) (d0 : 0 ≤ d) (d1 : d < 18446744073709551616) (w : World) :
    Calls Try.prog 10 #[.agg #[.int .u64 a, .int .u64 b], .agg #[.int .u64 c, .int .u64 d]] w fun e w' =>
      e = .returned (.tuple #[.agg #[.int .u64 (wHi (wN a b + wN c d)), .int .u64 (wLo (wN a b + wN c d))], .bool (wOver (wN a b + wN c d))]) ∧
      ((w.alloc (.cells #[.int .u64 a, .int .u64 b] 24)).alloc (.cells #[.int .u64 c, .int .u64 d] 24)).alloc (.cells #[.int .u64 (wHi (wN a b + wN c d)), .int .u64 (wLo (wN a b + wN c d))] 24) = w' := by
  have k0 : 0 ≤ (b + d) / 18446744073709551616 := by omega
  have k1 : (b + d) / 18446744073709551616 ≤ 1 := by omega
  go_enter Try.func10, Try.ntmps10
  go_wp2_with (first | simp only [add64_0 b d b0 d0] | simp only [add64 a c _ a0 c0 k0 k1])
  go_returns
  exact ⟨ret_wb (add_hi b0 b1 d0 d1) add_lo (add_over a0 b0 b1 c0 d0 d1), by rw [add_hi b0 b1 d0 d1, add_lo (a := a) (c := c)]⟩
set_option maxRecDepth 100000 in
set_option maxHeartbeats 4000000 in
theorem awake2_any (w : World) : Calls Try.prog 9 #[] w fun r w' => r = .returned (.bool true) ∧ Below w.heap.size w w' := by
  have e1 : wHi (wN 18446744073709551615 18446744073709551615 + wN 0 2) = 0 := by decide
  have e2 : wLo (wN 18446744073709551615 18446744073709551615 + wN 0 2) = 1 := by decide
  have e3 : wOver (wN 18446744073709551615 18446744073709551615 + wN 0 2) = true := by decide
  have e4 : wHi (wN 0 1 - wN 0 2) = 18446744073709551615 := by decide
  have e5 : wLo (wN 0 1 - wN 0 2) = 18446744073709551615 := by decide
  have e6 : wUnder (wN 0 1 - wN 0 2) = true := by decide
  have e7 : wHi (wN 3 7 / 2) = 1 := by decide
  have e8 : wLo (wN 3 7 / 2) = 9223372036854775811 := by decide
  have e9 : wN 3 7 % 2 = 1 := by decide
  have e10 : wHi 55340232221128654848 = 3 := by decide
  have e11 : wLo 55340232221128654848 = 0 := by decide
  have e12 : cmpS (wN 18446744073709551615 18446744073709551615) (wN 0 1) = 1 := by decide
  have e13 : cmpS (wN 0 1) (wN 0 1) = 0 := by decide
  have e14 : cmpS (wN 0 1) (wN 18446744073709551615 18446744073709551615) = -1 := by decide
  have e15 : wHi (wShr (wN 3 0) 1) = 1 := by decide
  have e16 : wLo (wShr (wN 3 0) 1) = 9223372036854775808 := by decide
  have e17 : wHi (wShr (wN 18446744073709551615 18446744073709551615) 128) = 0 := by decide
  have e18 : wLo (wShr (wN 18446744073709551615 18446744073709551615) 128) = 0 := by decide
  go_enter Try.func9, Try.ntmps9
  go_upto_region 2 with fail
  go_cut [2, 3] (fun s2 s3 wx => ∃ g : Nat, w.heap.size ≤ g ∧ s2 = .pointer (some ⟨g, 0, none⟩) ∧ s3 = .bool true ∧ wx.cell? ⟨g, 0, none⟩ = some (.int .u64 0) ∧ wx.cell? ⟨g, 1, none⟩ = some (.int .u64 1) ∧
    wx.cell? ⟨w.heap.size, 0, none⟩ = some (.int .u64 18446744073709551615) ∧ wx.cell? ⟨w.heap.size, 1, none⟩ = some (.int .u64 18446744073709551615) ∧ Below w.heap.size w wx)
  case first =>
    go_region_with (first
      | (go_at_call 22; refine (wide_Of_exact _ _).mono ?_; rintro e w' ⟨rfl, rfl⟩)
      | (go_at_call 10; refine (wide_Add_exact _ _ _ _ (by decide) (by decide) (by decide) (by decide) (by decide) (by decide) (by decide) (by decide) _).mono ?_; rintro e w' ⟨rfl, rfl⟩))
    all_goals
      go_wp2_with fail
      go_meet
      refine ⟨_, ?_, rfl, rfl, ?_, ?_, ?_, ?_, ?_⟩
      · omega
      · simp (maxDischargeDepth := 9) [go_sem]
      · simp (maxDischargeDepth := 9) [go_sem]
      · simp (maxDischargeDepth := 9) [go_sem]
      · simp (maxDischargeDepth := 9) [go_sem]
      · repeat' (first | (with_reducible exact Below.refl _ _) | (with_reducible assumption) | (with_reducible refine Below.alloc ?_ ?_ _) | (with_reducible refine below_drewN ?_ _) | (with_reducible refine Below.drew ?_) | (with_reducible refine Below.setCell ?_ ?_ _) | go_size)
  case rest =>
    obtain ⟨g, hg, rfl, rfl, k1, k2, k3, k4, hB⟩ := hcut
    have hgz : g < wc.heap.size := World.block_lt_of_cell? wc _ k1
    have hwz : w.heap.size < wc.heap.size := World.block_lt_of_cell? wc _ k3
    go_wp2_with (first
      | (go_at_call 22; refine (wide_Of_exact _ _).mono ?_; rintro e w' ⟨rfl, rfl⟩)
      | (go_at_call 12; refine (wide_Sub_exact _ _ _ _ (by decide) (by decide) (by decide) (by decide) (by decide) (by decide) (by decide) (by decide) _).mono ?_; rintro e w' ⟨rfl, rfl⟩)
      | (go_at_call 16; refine (wide_Mul_exact _ _ (by decide) (by decide) (by decide) (by decide) _).mono ?_; rintro e w' ⟨rfl, rfl⟩))
    refine (wide_DivP 3 7 2 (by decide) (by decide) (by decide) (by decide) (by decide) (by decide) _).mono ?_
    rintro e wa ⟨rfl, hba⟩
    obtain ⟨hca, hfa⟩ := bcell hba
    have hza := hba.size
    simp at hza
    have hga : g < wa.heap.size := by omega
    have hwa : w.heap.size < wa.heap.size := by omega
    have q1 : wa.cell? ⟨w.heap.size, 0, none⟩ = some (.int .u64 18446744073709551615) := by repeat (first | (with_reducible assumption) | (simp (maxDischargeDepth := 9) [go_sem]; done) | refine keepA _ ?_ | refine keepD _ ?_ | refine keepB hba ?_)
    have q2 : wa.cell? ⟨w.heap.size, 1, none⟩ = some (.int .u64 18446744073709551615) := by repeat (first | (with_reducible assumption) | (simp (maxDischargeDepth := 9) [go_sem]; done) | refine keepA _ ?_ | refine keepD _ ?_ | refine keepB hba ?_)
    have q3 : wa.cell? ⟨g, 0, none⟩ = some (.int .u64 0) := by repeat (first | (with_reducible assumption) | (simp (maxDischargeDepth := 9) [go_sem]; done) | refine keepA _ ?_ | refine keepD _ ?_ | refine keepB hba ?_)
    have q4 : wa.cell? ⟨g, 1, none⟩ = some (.int .u64 1) := by repeat (first | (with_reducible assumption) | (simp (maxDischargeDepth := 9) [go_sem]; done) | refine keepA _ ?_ | refine keepD _ ?_ | refine keepB hba ?_)
    have q5 : wa.cell? ⟨wc.heap.size + 1 + 1 + 1 + 1 + 1, 0, none⟩ = some (.int .u64 18446744073709551615) := by repeat (first | (with_reducible assumption) | (simp (maxDischargeDepth := 9) [go_sem]; done) | refine keepA _ ?_ | refine keepD _ ?_ | refine keepB hba ?_)
    have q6 : wa.cell? ⟨wc.heap.size + 1 + 1 + 1 + 1 + 1, 1, none⟩ = some (.int .u64 18446744073709551615) := by repeat (first | (with_reducible assumption) | (simp (maxDischargeDepth := 9) [go_sem]; done) | refine keepA _ ?_ | refine keepD _ ?_ | refine keepB hba ?_)
    have hBa : Below w.heap.size w wa := by repeat' (first | (with_reducible exact Below.refl _ _) | (with_reducible assumption) | (with_reducible refine Below.trans ?_ (Below.mono hba ?_)) | (with_reducible refine Below.alloc ?_ ?_ _) | (with_reducible refine below_drewN ?_ _) | (with_reducible refine Below.drew ?_) | (with_reducible refine Below.setCell ?_ ?_ _) | go_size)
    clear hba hca hfa k1 k2 k3 k4
    go_wp2_with (first
      | (go_at_call 22; refine (wide_Of_exact _ _).mono ?_; rintro e w' ⟨rfl, rfl⟩)
      | (go_at_call 16; refine (wide_Mul_exact _ _ (by decide) (by decide) (by decide) (by decide) _).mono ?_; rintro e w' ⟨rfl, rfl⟩)
      | (go_at_call 14; refine (wide_Div0_exact 18446744073709551615 18446744073709551615 _).mono ?_; rintro e w' ⟨rfl, rfl⟩)
      | (go_at_call 18; refine (wide_Cmp_exact _ _ _ _ (by decide) (by decide) (by decide) (by decide) _).mono ?_; rintro e w' ⟨rfl, rfl⟩)
      | (go_at_call 20; refine (wide_Shr 3 0 1 (by decide) (by decide) (by decide) (by decide) (by decide) (by decide) _).mono ?_; rintro e ws ⟨rfl, hbs⟩; have r1 : ws.cell? ⟨w.heap.size, 0, none⟩ = some (.int .u64 18446744073709551615) := (by repeat (first | (with_reducible assumption) | (simp (maxDischargeDepth := 9) [go_sem]; done) | refine keepA _ ?_ | refine keepD _ ?_ | refine keepB hbs ?_)); have r2 : ws.cell? ⟨w.heap.size, 1, none⟩ = some (.int .u64 18446744073709551615) := (by repeat (first | (with_reducible assumption) | (simp (maxDischargeDepth := 9) [go_sem]; done) | refine keepA _ ?_ | refine keepD _ ?_ | refine keepB hbs ?_)); have hBs : Below w.heap.size w ws := (by repeat' (first | (with_reducible exact Below.refl _ _) | (with_reducible assumption) | (with_reducible refine Below.trans ?_ (Below.mono hbs ?_)) | (with_reducible refine Below.alloc ?_ ?_ _) | (with_reducible refine below_drewN ?_ _) | (with_reducible refine Below.drew ?_) | (with_reducible refine Below.setCell ?_ ?_ _) | go_size)))
      | (go_at_call 20; refine (wide_Shr 18446744073709551615 18446744073709551615 128 (by decide) (by decide) (by decide) (by decide) (by decide) (by decide) _).mono ?_; rintro e wt ⟨rfl, hbt⟩))
    refine forget (fun W => W.cell? ⟨w.heap.size, 0, none⟩ = some (.int .u64 18446744073709551615) ∧ W.cell? ⟨w.heap.size, 1, none⟩ = some (.int .u64 18446744073709551615) ∧ W.cell? ⟨g, 0, none⟩ = some (.int .u64 0) ∧ W.cell? ⟨g, 1, none⟩ = some (.int .u64 1) ∧
      W.cell? ⟨wc.heap.size + 1 + 1 + 1 + 1 + 1, 0, none⟩ = some (.int .u64 18446744073709551615) ∧ W.cell? ⟨wc.heap.size + 1 + 1 + 1 + 1 + 1, 1, none⟩ = some (.int .u64 18446744073709551615) ∧
      W.cell? ⟨wa.heap.size, 0, none⟩ = some (.int .u64 1) ∧ W.cell? ⟨wa.heap.size, 1, none⟩ = some (.int .u64 9223372036854775811) ∧ Below w.heap.size w W) ⟨?_, ?_, ?_, ?_, ?_, ?_, ?_, ?_, ?_⟩ ?_
    · repeat (first | (with_reducible assumption) | (simp (maxDischargeDepth := 9) [go_sem]; done) | refine keepA _ ?_ | refine keepD _ ?_)
    · repeat (first | (with_reducible assumption) | (simp (maxDischargeDepth := 9) [go_sem]; done) | refine keepA _ ?_ | refine keepD _ ?_)
    · repeat (first | (with_reducible assumption) | (simp (maxDischargeDepth := 9) [go_sem]; done) | refine keepA _ ?_ | refine keepD _ ?_)
    · repeat (first | (with_reducible assumption) | (simp (maxDischargeDepth := 9) [go_sem]; done) | refine keepA _ ?_ | refine keepD _ ?_)
    · repeat (first | (with_reducible assumption) | (simp (maxDischargeDepth := 9) [go_sem]; done) | refine keepA _ ?_ | refine keepD _ ?_)
    · repeat (first | (with_reducible assumption) | (simp (maxDischargeDepth := 9) [go_sem]; done) | refine keepA _ ?_ | refine keepD _ ?_)
    · repeat (first | (with_reducible assumption) | (simp (maxDischargeDepth := 9) [go_sem]; done) | refine keepA _ ?_ | refine keepD _ ?_)
    · repeat (first | (with_reducible assumption) | (simp (maxDischargeDepth := 9) [go_sem]; done) | refine keepA _ ?_ | refine keepD _ ?_)
    · repeat' (first | (with_reducible exact Below.refl _ _) | (with_reducible assumption) | (with_reducible refine Below.alloc ?_ ?_ _) | (with_reducible refine below_drewN ?_ _) | (with_reducible refine Below.drew ?_) | (with_reducible refine Below.setCell ?_ ?_ _) | go_size)
    clear q1 q2 q3 q4 q5 q6
    rintro W ⟨q1, q2, q3, q4, q5, q6, q7, q8, hB⟩
    have u1 := Under.cell q1; have u2 := Under.cell q2; have u3 := Under.cell q3; have u4 := Under.cell q4
    have u5 := Under.cell q5; have u6 := Under.cell q6; have u7 := Under.cell q7; have u8 := Under.cell q8
    clear q1 q2 q3 q4 q5 q6 q7 q8
    refine region_under (by kernel_rfl) (by kernel_rfl) ?_
    repeat (first | go_big_quiet_step ((first
      | (go_at_call 22; exact quietU (wide_Of _ _))
      | (go_at_call 16; exact quietU (wide_Mul _ _ (by decide) (by decide) (by decide) (by decide) _))
      | (go_at_call 18; exact quietU (wide_Cmp _ _ _ _ (by decide) (by decide) (by decide) (by decide) _))
      | (go_at_call 20; exact quietU (wide_Shr _ _ _ (by decide) (by decide) (by decide) (by decide) (by decide) (by decide) _)))) | quiet_step ((first
      | (go_at_call 22; exact quietU (wide_Of _ _))
      | (go_at_call 16; exact quietU (wide_Mul _ _ (by decide) (by decide) (by decide) (by decide) _))
      | (go_at_call 18; exact quietU (wide_Cmp _ _ _ _ (by decide) (by decide) (by decide) (by decide) _))
      | (go_at_call 20; exact quietU (wide_Shr _ _ _ (by decide) (by decide) (by decide) (by decide) (by decide) (by decide) _)))))
    refine wpQuiet_nil ?_
    intro _ hw'
    obtain ⟨x, hw''⟩ := hw'
    subst hw''
    go_wp2_with fail
    go_ret
    exact ⟨rfl, hB.trans (x.2.mono hB.size)⟩
end Go.Proofs.Ytglbgbgfenndgaa
