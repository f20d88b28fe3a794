/- The walks of the layer wide, with the world behind each call told whole. -/
import Derived.Test.YtmehejdgdjaipaaWideC
set_option linter.unusedVariables false
namespace Go.Proofs.Ytmehejdgdjaipaa
open Go.RowKit Go.Shelf

theorem wide_Mul_exact (a b : Int) (ha : 0 ≤ a) (ha' : a < 18446744073709551616) (hb : 0 ≤ b) (hb' : b < 18446744073709551616) (w : World) :
    Calls Try.prog 49 #[.int .u64 a, .int .u64 b] w fun e w' => e = .returned (.agg #[.int .u64 (wHi (a * b)), .int .u64 (wLo (a * b))]) ∧
      w.alloc (.cells #[.int .u64 (wHi (a * b)), .int .u64 (wLo (a * b))] 59) = w' := by
  go_enter Try.func49, Try.ntmps49
  go_wp2_with (go_at_call 53; refine (mul64 a b ha ha' hb hb' _).mono ?_; rintro e w' ⟨rfl, rfl⟩)
  go_returns
  exact ⟨ret_w (mul_hi ha ha' hb hb') rfl, by rw [mul_hi ha ha' hb hb']; rfl⟩
theorem wide_Div0_exact (a b : Int) (w : World) :
    Calls Try.prog 54 #[.agg #[.int .u64 a, .int .u64 b], .int .u64 0] w fun e w' =>
      e = .returned (.tuple #[.agg #[.int .u64 0, .int .u64 0], .int .u64 0, .int .i64 20]) ∧ (w.alloc (.cells #[.int .u64 a, .int .u64 b] 59)).alloc (.cells #[.int .u64 0, .int .u64 0] 59) = w' := by
  go_enter Try.func54, Try.ntmps54
  go_wp2
  go_returns
  exact ⟨rfl, rfl⟩
theorem wide_Cmp_exact (a b c d : Int) (b0 : 0 ≤ b) (b1 : b < 18446744073709551616) (d0 : 0 ≤ d) (d1 : d < 18446744073709551616) (w : World) :
    Calls Try.prog 48 #[.agg #[.int .u64 a, .int .u64 b], .agg #[.int .u64 c, .int .u64 d]] w fun e w' =>
      e = .returned (.int .i64 (cmpS (wN a b) (wN c d))) ∧ (w.alloc (.cells #[.int .u64 a, .int .u64 b] 59)).alloc (.cells #[.int .u64 c, .int .u64 d] 59) = w' := by
  rcases Int.lt_trichotomy a c with h | h | h
  · go_enter Try.func48, Try.ntmps48
    go_wp2
    go_ret
    exact ⟨ret_i (Eq.symm (cmpS_lt (by unfold wN; omega))), rfl⟩
  · subst h
    rcases Int.lt_trichotomy b d with h | h | h
    · go_enter Try.func48, Try.ntmps48
      go_wp2
      go_ret
      exact ⟨ret_i (Eq.symm (cmpS_lt (by unfold wN; omega))), rfl⟩
    · subst h
      go_enter Try.func48, Try.ntmps48
      go_wp2
      go_ret
      exact ⟨ret_i (Eq.symm (cmpS_eq rfl)), rfl⟩
    · go_enter Try.func48, Try.ntmps48
      go_wp2
      go_ret
      exact ⟨ret_i (Eq.symm (cmpS_gt (by unfold wN; omega))), rfl⟩
  · go_enter Try.func48, Try.ntmps48
    go_wp2
    go_ret
    exact ⟨ret_i (Eq.symm (cmpS_gt (by unfold wN; omega))), rfl⟩
theorem wide_Add_exact (a b c d : Int) (a0 : 0 ≤ a) (a1 : a < 18446744073709551616) (b0 : 0 ≤ b) (b1 : b < 18446744073709551616) (c0 : 0 ≤ c) (c1 : c < 18446744073709551616) (d0 : 0 ≤ d) (d1 : d < 18446744073709551616) (w : World) :
    Calls Try.prog 55 #[.agg #[.int .u64 a, .int .u64 b], .agg #[.int .u64 c, .int .u64 d]] w fun e w' =>
      e = .returned (.tuple #[.agg #[.int .u64 (wHi (wN a b + wN c d)), .int .u64 (wLo (wN a b + wN c d))], .bool (wOver (wN a b + wN c d))]) ∧
      ((w.alloc (.cells #[.int .u64 a, .int .u64 b] 59)).alloc (.cells #[.int .u64 c, .int .u64 d] 59)).alloc (.cells #[.int .u64 (wHi (wN a b + wN c d)), .int .u64 (wLo (wN a b + wN c d))] 59) = w' := by
  have k0 : 0 ≤ (b + d) / 18446744073709551616 := by omega
  have k1 : (b + d) / 18446744073709551616 ≤ 1 := by omega
  go_enter Try.func55, Try.ntmps55
  go_wp2_with (first | simp only [add64_0 b d b0 d0] | simp only [add64 a c _ a0 c0 k0 k1])
  go_returns
  exact ⟨ret_wb (add_hi b0 b1 d0 d1) add_lo (add_over a0 b0 b1 c0 d0 d1), by rw [add_hi b0 b1 d0 d1, add_lo (a := a) (c := c)]⟩
end Go.Proofs.Ytmehejdgdjaipaa
