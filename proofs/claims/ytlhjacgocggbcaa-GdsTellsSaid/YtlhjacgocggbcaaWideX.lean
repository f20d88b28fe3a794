/- The walks of the layer wide, with the world behind each call told whole. -/
import Derived.Test.YtlhjacgocggbcaaWideC
set_option linter.unusedVariables false
namespace Go.Proofs.Ytlhjacgocggbcaa
open Go.RowKit Go.Shelf

theorem wide_Mul_exact (a b : Int) (ha : 0 ≤ a) (ha' : a < 18446744073709551616) (hb : 0 ≤ b) (hb' : b < 18446744073709551616) (w : World) :
    Calls Try.prog 54 #[.int .u64 a, .int .u64 b] w fun e w' => e = .returned (.agg #[.int .u64 (wHi (a * b)), .int .u64 (wLo (a * b))]) ∧
      w.alloc (.cells #[.int .u64 (wHi (a * b)), .int .u64 (wLo (a * b))] 82) = w' := by
  go_enter Try.func54, Try.ntmps54
  go_wp2_with (go_at_call 48; refine (mul64 a b ha ha' hb hb' _).mono ?_; rintro e w' ⟨rfl, rfl⟩)
  go_returns
  exact ⟨ret_w (mul_hi ha ha' hb hb') rfl, by rw [mul_hi ha ha' hb hb']; rfl⟩
theorem wide_Div0_exact (a b : Int) (w : World) :
    Calls Try.prog 53 #[.agg #[.int .u64 a, .int .u64 b], .int .u64 0] w fun e w' =>
      e = .returned (.tuple #[.agg #[.int .u64 0, .int .u64 0], .int .u64 0, .int .i64 20]) ∧ (w.alloc (.cells #[.int .u64 a, .int .u64 b] 82)).alloc (.cells #[.int .u64 0, .int .u64 0] 82) = w' := by
  go_enter Try.func53, Try.ntmps53
  go_wp2
  go_returns
  exact ⟨rfl, rfl⟩
theorem wide_Add_exact (a b c d : Int) (a0 : 0 ≤ a) (a1 : a < 18446744073709551616) (b0 : 0 ≤ b) (b1 : b < 18446744073709551616) (c0 : 0 ≤ c) (c1 : c < 18446744073709551616) (d0 : 0 ≤ d) (d1 : d < 18446744073709551616) (w : World) :
    Calls Try.prog 55 #[.agg #[.int .u64 a, .int .u64 b], .agg #[.int .u64 c, .int .u64 d]] w fun e w' =>
      e = .returned (.tuple #[.agg #[.int .u64 (wHi (wN a b + wN c d)), .int .u64 (wLo (wN a b + wN c d))], .bool (wOver (wN a b + wN c d))]) ∧
      ((w.alloc (.cells #[.int .u64 a, .int .u64 b] 82)).alloc (.cells #[.int .u64 c, .int .u64 d] 82)).alloc (.cells #[.int .u64 (wHi (wN a b + wN c d)), .int .u64 (wLo (wN a b + wN c d))] 82) = w' := by
  have k0 : 0 ≤ (b + d) / 18446744073709551616 := by omega
  have k1 : (b + d) / 18446744073709551616 ≤ 1 := by omega
  go_enter Try.func55, Try.ntmps55
  go_wp2_with (first | simp only [add64_0 b d b0 d0] | simp only [add64 a c _ a0 c0 k0 k1])
  go_returns
  exact ⟨ret_wb (add_hi b0 b1 d0 d1) add_lo (add_over a0 b0 b1 c0 d0 d1), by rw [add_hi b0 b1 d0 d1, add_lo (a := a) (c := c)]⟩
end Go.Proofs.Ytlhjacgocggbcaa
