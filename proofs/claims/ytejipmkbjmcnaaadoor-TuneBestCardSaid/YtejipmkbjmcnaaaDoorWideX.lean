/- The walks of the layer wide, with the world behind each call told whole. -/
import Derived.Test.YtejipmkbjmcnaaaDoorWideC
set_option linter.unusedVariables false
namespace Go.Proofs.YtejipmkbjmcnaaaDoor
open Go.RowKit Go.Shelf

theorem wide_Mul_exact (a b : Int) (ha : 0 ≤ a) (ha' : a < 18446744073709551616) (hb : 0 ≤ b) (hb' : b < 18446744073709551616) (w : World) :
    Calls Tryd.prog 76 #[.int .u64 a, .int .u64 b] w fun e w' => e = .returned (.agg #[.int .u64 (wHi (a * b)), .int .u64 (wLo (a * b))]) ∧
      w.alloc (.cells #[.int .u64 (wHi (a * b)), .int .u64 (wLo (a * b))] 77) = w' := by
  go_enter Tryd.func76, Tryd.ntmps76
  go_wp2_with (go_at_call 61; refine (mul64 a b ha ha' hb hb' _).mono ?_; rintro e w' ⟨rfl, rfl⟩)
  go_returns
  exact ⟨ret_w (mul_hi ha ha' hb hb') rfl, by rw [mul_hi ha ha' hb hb']; rfl⟩
theorem wide_Div0_exact (a b : Int) (w : World) :
    Calls Tryd.prog 80 #[.agg #[.int .u64 a, .int .u64 b], .int .u64 0] w fun e w' =>
      e = .returned (.tuple #[.agg #[.int .u64 0, .int .u64 0], .int .u64 0, .int .i64 20]) ∧ (w.alloc (.cells #[.int .u64 a, .int .u64 b] 77)).alloc (.cells #[.int .u64 0, .int .u64 0] 77) = w' := by
  go_enter Tryd.func80, Tryd.ntmps80
  go_wp2
  go_returns
  exact ⟨rfl, rfl⟩
theorem wide_Add_exact (a b c d : Int) (a0 : 0 ≤ a) (a1 : a < 18446744073709551616) (b0 : 0 ≤ b) (b1 : b < 18446744073709551616) (c0 : 0 ≤ c) (c1 : c < 18446744073709551616) (d0 : 0 ≤ d) (d1 : d < 18446744073709551616) (w : World) :
    Calls Tryd.prog 81 #[.agg #[.int .u64 a, .int .u64 b], .agg #[.int .u64 c, .int .u64 d]] w fun e w' =>
      e = .returned (.tuple #[.agg #[.int .u64 (wHi (wN a b + wN c d)), .int .u64 (wLo (wN a b + wN c d))], .bool (wOver (wN a b + wN c d))]) ∧
      ((w.alloc (.cells #[.int .u64 a, .int .u64 b] 77)).alloc (.cells #[.int .u64 c, .int .u64 d] 77)).alloc (.cells #[.int .u64 (wHi (wN a b + wN c d)), .int .u64 (wLo (wN a b + wN c d))] 77) = w' := by
  have k0 : 0 ≤ (b + d) / 18446744073709551616 := by omega
  have k1 : (b + d) / 18446744073709551616 ≤ 1 := by omega
  go_enter Tryd.func81, Tryd.ntmps81
  go_wp2_with (first | simp only [add64_0 b d b0 d0] | simp only [add64 a c _ a0 c0 k0 k1])
  go_returns
  exact ⟨ret_wb (add_hi b0 b1 d0 d1) add_lo (add_over a0 b0 b1 c0 d0 d1), by rw [add_hi b0 b1 d0 d1, add_lo (a := a) (c := c)]⟩
end Go.Proofs.YtejipmkbjmcnaaaDoor
