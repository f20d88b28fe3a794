/- The walks of the document's answer for the layer wide: it comes to the same plain numbers. -/
import Derived.Test.YtlhjacgocggbcaaWideC
set_option linter.unusedVariables false
namespace Go.Proofs.Ytlhjacgocggbcaa
open Go.RowKit Go.Shelf

theorem ref2_digits (a b : Int) (a0 : 0 ≤ a) (a1 : a < 18446744073709551616) (b0 : 0 ≤ b) (b1 : b < 18446744073709551616) (w : World) :
    Calls Try.prog 61 #[.agg #[.int .u64 a, .int .u64 b]] w fun e w' =>
      e = .returned (.agg #[.int .u64 (b % 4294967296), .int .u64 (b / 4294967296), .int .u64 (a % 4294967296), .int .u64 (a / 4294967296)]) ∧
      (w.alloc (.cells #[.int .u64 a, .int .u64 b] 82)).alloc (.cells #[.int .u64 (b % 4294967296), .int .u64 (b / 4294967296), .int .u64 (a % 4294967296), .int .u64 (a / 4294967296)] 89) = w' := by
  go_enter Try.func61, Try.ntmps61
  go_wp2_with fail
  go_returns
  exact ⟨rfl, rfl⟩
theorem ref2_whole (a b c d : Int) (a0 : 0 ≤ a) (b0 : 0 ≤ b) (c0 : 0 ≤ c) (d0 : 0 ≤ d) (a1 : a < 4294967296) (b1 : b < 4294967296) (c1 : c < 4294967296) (d1 : d < 4294967296) (w : World) :
    Calls Try.prog 62 #[.agg #[.int .u64 a, .int .u64 b, .int .u64 c, .int .u64 d]] w fun e w' =>
      e = .returned (.agg #[.int .u64 (d * 4294967296 + c), .int .u64 (b * 4294967296 + a)]) ∧
      (w.alloc (.cells #[.int .u64 a, .int .u64 b, .int .u64 c, .int .u64 d] 89)).alloc (.cells #[.int .u64 (d * 4294967296 + c), .int .u64 (b * 4294967296 + a)] 82) = w' := by
  go_enter Try.func62, Try.ntmps62
  go_wp2_with fail
  go_returns
  exact ⟨rfl, rfl⟩
theorem ref_hi {a b c d : Int} (a0 : 0 ≤ a) (a1 : a < 18446744073709551616) (b0 : 0 ≤ b) (b1 : b < 18446744073709551616) (c0 : 0 ≤ c) (c1 : c < 18446744073709551616) (d0 : 0 ≤ d) (d1 : d < 18446744073709551616) :
    (a / 4294967296 + c / 4294967296 + (a % 4294967296 + c % 4294967296 + (b / 4294967296 + d / 4294967296 + (b % 4294967296 + d % 4294967296) / 4294967296) / 4294967296) / 4294967296) % 4294967296 * 4294967296 +
      (a % 4294967296 + c % 4294967296 + (b / 4294967296 + d / 4294967296 + (b % 4294967296 + d % 4294967296) / 4294967296) / 4294967296) % 4294967296 = wHi (wN a b + wN c d) := by unfold wHi wN; omega
theorem ref_lo {a b c d : Int} : (b / 4294967296 + d / 4294967296 + (b % 4294967296 + d % 4294967296) / 4294967296) % 4294967296 * 4294967296 + (b + d) % 4294967296 = wLo (wN a b + wN c d) := by unfold wLo wN; omega
theorem ref_over {a b c d : Int} (a0 : 0 ≤ a) (a1 : a < 18446744073709551616) (b0 : 0 ≤ b) (b1 : b < 18446744073709551616) (c0 : 0 ≤ c) (c1 : c < 18446744073709551616) (d0 : 0 ≤ d) (d1 : d < 18446744073709551616) :
    decide (0 < (a / 4294967296 + c / 4294967296 + (a % 4294967296 + c % 4294967296 + (b / 4294967296 + d / 4294967296 + (b % 4294967296 + d % 4294967296) / 4294967296) / 4294967296) / 4294967296) / 4294967296) = wOver (wN a b + wN c d) := by
  unfold wOver wN; rw [decide_eq_decide]; omega
set_option maxHeartbeats 1000000 in
theorem ref2_Add (a b c d : Int) (a0 : 0 ≤ a) (a1 : a < 18446744073709551616) (b0 : 0 ≤ b) (b1 : b < 18446744073709551616) (c0 : 0 ≤ c) (c1 : c < 18446744073709551616) (d0 : 0 ≤ d) (d1 : d < 18446744073709551616) (w : World) :
    Calls Try.prog 57 #[.agg #[.int .u64 a, .int .u64 b], .agg #[.int .u64 c, .int .u64 d]] w fun e w' =>
      e = .returned (.tuple #[.agg #[.int .u64 (wHi (wN a b + wN c d)), .int .u64 (wLo (wN a b + wN c d))], .bool (wOver (wN a b + wN c d))]) ∧ Below w.heap.size w w' := by
  go_enter Try.func57, Try.ntmps57
  go_wp2_with (go_at_call 61; refine (ref2_digits _ _ (by omega) (by omega) (by omega) (by omega) _).mono ?_; rintro e w1 ⟨rfl, rfl⟩)
  refine wp_loop_rounds 5 ?_
  repeat any_goals (first | (rw [rounds_succ]; go_wp2_with fail) | (go_quiet (fail); go_wp2_with fail))
  go_wp2_with (go_at_call 62; refine (ref2_whole _ _ _ _ (by omega) (by omega) (by omega) (by omega) (by omega) (by omega) (by omega) (by omega) _).mono ?_; rintro e w1 ⟨rfl, rfl⟩)
  go_returns
  refine ⟨ret_wb (ref_hi a0 a1 b0 b1 c0 c1 d0 d1) ref_lo (ref_over a0 a1 b0 b1 c0 c1 d0 d1), ?_⟩
  repeat' (first | (with_reducible exact Below.refl _ _) | (with_reducible assumption) | (with_reducible refine Below.alloc ?_ ?_ _) | (with_reducible refine below_drewN ?_ _) | (with_reducible refine Below.drew ?_) | (with_reducible refine Below.setCell ?_ ?_ _) | go_size | omega | (simp; omega))
end Go.Proofs.Ytlhjacgocggbcaa
