/- The walks of the layer ratio, but for the least of several: each function comes to the plain number of RatioS. -/
import Derived.Test.YtmehejdgdjaipaaWideX
import Derived.Test.YtmehejdgdjaipaaRatioS
set_option linter.unusedVariables false
namespace Go.Proofs.Ytmehejdgdjaipaa
open Go.RowKit Go.Shelf
attribute [local go_sem ↓] lt_alloc

theorem ret_ii {a b c d : Int} (h : a = b) (h' : c = d) : Ending.returned (.tuple #[.int .i64 a, .int .i64 c]) = .returned (.tuple #[.int .i64 b, .int .i64 d]) := by rw [h, h']
theorem ratio_Cmp_zl (a c d : Int) (w : World) :
    Calls Try.prog 40 #[.agg #[.int .u64 a, .int .u64 0], .agg #[.int .u64 c, .int .u64 d]] w fun e w' => e = .returned (.tuple #[.int .i64 0, .int .i64 20]) ∧ Below w.heap.size w w' := by
  go_enter Try.func40, Try.ntmps40
  go_wp2_with fail
  go_ret2
  exact ⟨rfl, by repeat' (first | (with_reducible exact Below.refl _ _) | (with_reducible assumption) | (with_reducible refine Below.alloc ?_ ?_ _) | (with_reducible refine below_drewN ?_ _) | (with_reducible refine Below.drew ?_) | (with_reducible refine Below.setCell ?_ ?_ _) | go_size | omega | (simp; omega))⟩
theorem ratio_Cmp_zr (a b c : Int) (hb : (b == 0) = false) (w : World) :
    Calls Try.prog 40 #[.agg #[.int .u64 a, .int .u64 b], .agg #[.int .u64 c, .int .u64 0]] w fun e w' => e = .returned (.tuple #[.int .i64 0, .int .i64 20]) ∧ Below w.heap.size w w' := by
  go_enter Try.func40, Try.ntmps40
  go_wp2_with fail
  go_ret2
  exact ⟨rfl, by repeat' (first | (with_reducible exact Below.refl _ _) | (with_reducible assumption) | (with_reducible refine Below.alloc ?_ ?_ _) | (with_reducible refine below_drewN ?_ _) | (with_reducible refine Below.drew ?_) | (with_reducible refine Below.setCell ?_ ?_ _) | go_size | omega | (simp; omega))⟩
theorem ratio_CmpP (a b c d : Int) (a0 : 0 ≤ a) (a1 : a < 18446744073709551616) (b0 : 0 < b) (b1 : b < 18446744073709551616) (c0 : 0 ≤ c) (c1 : c < 18446744073709551616) (d0 : 0 < d) (d1 : d < 18446744073709551616) (w : World) :
    Calls Try.prog 40 #[.agg #[.int .u64 a, .int .u64 b], .agg #[.int .u64 c, .int .u64 d]] w fun e w' => e = .returned (.tuple #[.int .i64 (cmpS (a * d) (c * b)), .int .i64 0]) ∧ Below w.heap.size w w' := by
  have hb : (b == 0) = false := by simp; omega
  have hd : (d == 0) = false := by simp; omega
  have b0' : 0 ≤ b := by omega
  have d0' : 0 ≤ d := by omega
  have p1 := mul_bd a0 a1 d0' d1
  have p2 := mul_bd c0 c1 b0' b1
  have e1 := Lib.hid (wN_of (n := a * d) (by omega) (by omega))
  have e2 := Lib.hid (wN_of (n := c * b) (by omega) (by omega))
  go_enter Try.func40, Try.ntmps40
  go_wp2_with fail
  refine forget (fun W => W.cell? ⟨w.heap.size, 0, none⟩ = some (.int .u64 a) ∧ W.cell? ⟨w.heap.size, 1, none⟩ = some (.int .u64 b) ∧ W.cell? ⟨w.heap.size + 1, 0, none⟩ = some (.int .u64 c) ∧ W.cell? ⟨w.heap.size + 1, 1, none⟩ = some (.int .u64 d) ∧ Below w.heap.size w W) ⟨?_, ?_, ?_, ?_, ?_⟩ ?_
  · repeat (first | (with_reducible assumption) | (simp (maxDischargeDepth := 9) [go_sem]; done) | refine keepA _ ?_ | refine keepD _ ?_)
  · repeat (first | (with_reducible assumption) | (simp (maxDischargeDepth := 9) [go_sem]; done) | refine keepA _ ?_ | refine keepD _ ?_)
  · repeat (first | (with_reducible assumption) | (simp (maxDischargeDepth := 9) [go_sem]; done) | refine keepA _ ?_ | refine keepD _ ?_)
  · repeat (first | (with_reducible assumption) | (simp (maxDischargeDepth := 9) [go_sem]; done) | refine keepA _ ?_ | refine keepD _ ?_)
  · repeat' (first | (with_reducible exact Below.refl _ _) | (with_reducible assumption) | (with_reducible refine Below.alloc ?_ ?_ _) | (with_reducible refine below_drewN ?_ _) | (with_reducible refine Below.drew ?_) | (with_reducible refine Below.setCell ?_ ?_ _) | go_size | omega | (simp; omega))
  rintro W ⟨q1, q2, q3, q4, hB⟩
  have u1 := Under.cell q1; have u2 := Under.cell q2; have u3 := Under.cell q3; have u4 := Under.cell q4
  clear q1 q2 q3 q4
  (refine region_under (by kernel_rfl) (by kernel_rfl) ?_; (repeat (first | go_big_quiet_step ((first | (go_at_call 49; exact quietU (wide_Mul _ _ (by assumption) (by assumption) (by assumption) (by assumption) _)) | (go_at_call 48; exact quietU (wide_Cmp _ _ _ _ (wLo_bd _).1 (wLo_bd _).2 (wLo_bd _).1 (wLo_bd _).2 _)))) | quiet_step ((first | (go_at_call 49; exact quietU (wide_Mul _ _ (by assumption) (by assumption) (by assumption) (by assumption) _)) | (go_at_call 48; exact quietU (wide_Cmp _ _ _ _ (wLo_bd _).1 (wLo_bd _).2 (wLo_bd _).1 (wLo_bd _).2 _)))))); refine wpQuiet_nil ?_; intro _ hw'; obtain ⟨x, hw''⟩ := hw'; subst hw''; go_wp2_with fail)
  go_ret2
  exact ⟨ret_ii (by rw [e1.out, e2.out]) rfl, hB.trans (x.2.mono hB.size)⟩
theorem ratio_Cmp (a b c d : Int) (a0 : 0 ≤ a) (a1 : a < 18446744073709551616) (b0 : 0 ≤ b) (b1 : b < 18446744073709551616) (c0 : 0 ≤ c) (c1 : c < 18446744073709551616) (d0 : 0 ≤ d) (d1 : d < 18446744073709551616) (w : World) :
    Calls Try.prog 40 #[.agg #[.int .u64 a, .int .u64 b], .agg #[.int .u64 c, .int .u64 d]] w fun e w' => e = .returned (.tuple #[.int .i64 (rCmp a b c d), .int .i64 (rErr b d)]) ∧ Below w.heap.size w w' := by
  rcases Int.lt_or_eq_of_le b0 with hb | rfl
  · rcases Int.lt_or_eq_of_le d0 with hd | rfl
    · rw [rCmp_pos hb hd, rErr_pos hb hd]; exact ratio_CmpP a b c d a0 a1 hb b1 c0 c1 hd d1 w
    · rw [rCmp_zr, rErr_zr]; exact ratio_Cmp_zr a b c (by simp; omega) w
  · rw [rCmp_zl, rErr_zl]; exact ratio_Cmp_zl a c d w
theorem part_z (a b : Int) (a0 : 0 ≤ a) (a1 : a < 18446744073709551616) (b0 : 0 ≤ b) (b1 : b < 18446744073709551616) (u : FuncId) (cap : Array Value) (w : World) :
    Calls Try.prog 50 #[.int .u64 a, .int .u64 b, .int .u64 0, .func (.func u) #[] cap] w fun e w' => e = .returned (.tuple #[.int .u64 0, .int .i64 20]) ∧ Below w.heap.size w w' := by
  go_enter Try.func50, Try.ntmps50
  go_wp2_with (first
    | (go_at_call 49; refine (wide_Mul_exact _ _ (by assumption) (by assumption) (by assumption) (by assumption) _).mono ?_; rintro e w' ⟨rfl, rfl⟩)
    | (go_at_call 54; refine (wide_Div0_exact _ _ _).mono ?_; rintro e w' ⟨rfl, rfl⟩))
  go_ret2
  exact ⟨rfl, by repeat' (first | (with_reducible exact Below.refl _ _) | (with_reducible assumption) | (with_reducible refine Below.alloc ?_ ?_ _) | (with_reducible refine below_drewN ?_ _) | (with_reducible refine Below.drew ?_) | (with_reducible refine Below.setCell ?_ ?_ _) | go_size | omega | (simp; omega))⟩
theorem up_Floor (r : Int) (w : World) : Calls Try.prog 51 #[.int .u64 r] w fun e w' => e = .returned (.bool false) ∧ w = w' := by
  go_enter Try.func51, Try.ntmps51
  go_wp2_with fail
  go_ret
  exact ⟨rfl, rfl⟩
set_option maxHeartbeats 1000000 in
theorem part_Floor (a b c : Int) (a0 : 0 ≤ a) (a1 : a < 18446744073709551616) (b0 : 0 ≤ b) (b1 : b < 18446744073709551616) (c0 : 0 < c) (c1 : c < 18446744073709551616)  (w : World) :
    Calls Try.prog 50 #[.int .u64 a, .int .u64 b, .int .u64 c, .func (.func 51) #[] #[]] w fun e w' =>
      e = .returned (.tuple #[.int .u64 (partV (a * b / c) c), .int .i64 (partE (a * b / c) c)]) ∧ Below w.heap.size w w' := by
  have p1 := mul_bd a0 a1 b0 b1
  have e1 := wN_of (n := a * b) (by omega) (by omega)
  obtain ⟨f1, f2, f3, f4, -⟩ := quo_facts p1.1 p1.2 c0
  obtain ⟨h0, h1⟩ := wHi_bd (a * b)
  obtain ⟨l0, l1⟩ := wLo_bd (a * b)
  have hd := fun w => wide_DivP (wHi (a * b)) (wLo (a * b)) c h0 h1 l0 l1 c0 c1 w
  rw [e1] at hd
  clear e1
  rcases Int.lt_or_le (a * b / c) 18446744073709551616 with hq | hq
  · rw [partV_lt c0 hq, partE_lt c0 hq]
    obtain ⟨k1, k2⟩ := hi_zero (by omega) hq
    go_enter Try.func50, Try.ntmps50
    go_wp2_with (go_at_call 49; refine (wide_Mul_exact _ _ (by assumption) (by assumption) (by assumption) (by assumption) _).mono ?_; rintro e w' ⟨rfl, rfl⟩)
    refine (hd _).mono ?_
    rintro e w1 ⟨rfl, hb1⟩
    have hB1 : Below w.heap.size w w1 := by repeat' (first | (with_reducible exact Below.refl _ _) | (with_reducible assumption) | (with_reducible refine Below.trans ?_ (Below.mono hb1 ?_)) | (with_reducible refine Below.alloc ?_ ?_ _) | (with_reducible refine below_drewN ?_ _) | (with_reducible refine Below.drew ?_) | (with_reducible refine Below.setCell ?_ ?_ _) | go_size | omega | (simp; omega))
    have hs1 : w.heap.size ≤ w1.heap.size := hB1.size
    clear hb1 hd
    go_wp2_with (first | (go_at_call 51; refine (up_Floor _ _).mono ?_; rintro e w' ⟨rfl, rfl⟩))
    all_goals
      go_ret2
      exact ⟨rfl, by repeat' (first | (with_reducible exact Below.refl _ _) | (with_reducible assumption) | (with_reducible refine Below.alloc ?_ ?_ _) | (with_reducible refine below_drewN ?_ _) | (with_reducible refine Below.drew ?_) | (with_reducible refine Below.setCell ?_ ?_ _) | go_size | omega | (simp; omega))⟩
  · rw [partV_ge c0 hq, partE_ge c0 hq]
    have k1 : (wHi (a * b / c) != 0) = true := by have := hi_pos hq (by omega); simp; omega
    go_enter Try.func50, Try.ntmps50
    go_wp2_with (go_at_call 49; refine (wide_Mul_exact _ _ (by assumption) (by assumption) (by assumption) (by assumption) _).mono ?_; rintro e w' ⟨rfl, rfl⟩)
    refine (hd _).mono ?_
    rintro e w1 ⟨rfl, hb1⟩
    have hB1 : Below w.heap.size w w1 := by repeat' (first | (with_reducible exact Below.refl _ _) | (with_reducible assumption) | (with_reducible refine Below.trans ?_ (Below.mono hb1 ?_)) | (with_reducible refine Below.alloc ?_ ?_ _) | (with_reducible refine below_drewN ?_ _) | (with_reducible refine Below.drew ?_) | (with_reducible refine Below.setCell ?_ ?_ _) | go_size | omega | (simp; omega))
    have hs1 : w.heap.size ≤ w1.heap.size := hB1.size
    clear hb1 hd
    go_wp2_with (first | (go_at_call 51; refine (up_Floor _ _).mono ?_; rintro e w' ⟨rfl, rfl⟩))
    all_goals
      go_ret2
      exact ⟨rfl, by repeat' (first | (with_reducible exact Below.refl _ _) | (with_reducible assumption) | (with_reducible refine Below.alloc ?_ ?_ _) | (with_reducible refine below_drewN ?_ _) | (with_reducible refine Below.drew ?_) | (with_reducible refine Below.setCell ?_ ?_ _) | go_size | omega | (simp; omega))⟩
theorem ratio_Floor (a b c : Int) (a0 : 0 ≤ a) (a1 : a < 18446744073709551616) (b0 : 0 ≤ b) (b1 : b < 18446744073709551616) (c0 : 0 ≤ c) (c1 : c < 18446744073709551616) (w : World) :
    Calls Try.prog 44 #[.int .u64 a, .int .u64 b, .int .u64 c] w fun e w' => e = .returned (.tuple #[.int .u64 (partV (a * b / c) c), .int .i64 (partE (a * b / c) c)]) ∧ Below w.heap.size w w' := by
  rcases Int.lt_or_eq_of_le c0 with hc | rfl
  · go_enter Try.func44, Try.ntmps44
    go_wp2_with (go_at_call 50; refine (part_Floor a b c a0 a1 b0 b1 hc c1 _).mono ?_; rintro e w' ⟨rfl, hb⟩)
    go_ret2
    exact ⟨rfl, hb⟩
  · rw [partV_z, partE_z]
    go_enter Try.func44, Try.ntmps44
    go_wp2_with (go_at_call 50; refine (part_z a b a0 a1 b0 b1 _ _ _).mono ?_; rintro e w' ⟨rfl, hb⟩)
    go_ret2
    exact ⟨rfl, hb⟩
end Go.Proofs.Ytmehejdgdjaipaa
