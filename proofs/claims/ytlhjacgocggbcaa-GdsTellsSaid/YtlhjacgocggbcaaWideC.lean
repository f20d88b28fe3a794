/- The walks of the layer wide: each function comes to the plain number of WideS; a struct that is a parameter or a result lies in a new block. -/
import Derived.Test.YtlhjacgocggbcaaDiv64C
import Derived.Test.YtlhjacgocggbcaaWideS
set_option linter.unusedVariables false
namespace Go.Proofs.Ytlhjacgocggbcaa
open Go.RowKit Go.Shelf

theorem ret_w {a b c d : Int} (h : a = b) (h' : c = d) : Ending.returned (.agg #[.int .u64 a, .int .u64 c]) = .returned (.agg #[.int .u64 b, .int .u64 d]) := by rw [h, h']
theorem ret_wb {a b c d : Int} {x y : Bool} (h : a = b) (h' : c = d) (h2 : x = y) : Ending.returned (.tuple #[.agg #[.int .u64 a, .int .u64 c], .bool x]) = .returned (.tuple #[.agg #[.int .u64 b, .int .u64 d], .bool y]) := by rw [h, h', h2]
theorem ret_wui {a b c d e f g k : Int} (h : a = b) (h' : c = d) (h2 : e = f) (h3 : g = k) : Ending.returned (.tuple #[.agg #[.int .u64 a, .int .u64 c], .int .u64 e, .int .i64 g]) = .returned (.tuple #[.agg #[.int .u64 b, .int .u64 d], .int .u64 f, .int .i64 k]) := by rw [h, h', h2, h3]

theorem wide_Of (n : Int) (w : World) :
    Calls Try.prog 56 #[.int .u64 n] w fun e w' => e = .returned (.agg #[.int .u64 0, .int .u64 n]) ∧ Below w.heap.size w w' := by
  go_enter Try.func56, Try.ntmps56
  go_wp2
  go_returns
  exact ⟨rfl, by go_grown⟩
theorem wide_Mul (a b : Int) (ha : 0 ≤ a) (ha' : a < 18446744073709551616) (hb : 0 ≤ b) (hb' : b < 18446744073709551616) (w : World) :
    Calls Try.prog 54 #[.int .u64 a, .int .u64 b] w fun e w' => e = .returned (.agg #[.int .u64 (wHi (a * b)), .int .u64 (wLo (a * b))]) ∧ Below w.heap.size w w' := by
  go_enter Try.func54, Try.ntmps54
  go_wp2_with (go_at_call 48; refine (mul64 a b ha ha' hb hb' _).mono ?_; rintro e w' ⟨rfl, rfl⟩)
  go_returns
  exact ⟨ret_w (mul_hi ha ha' hb hb') rfl, by go_grown⟩
theorem wide_Add (a b c d : Int) (a0 : 0 ≤ a) (a1 : a < 18446744073709551616) (b0 : 0 ≤ b) (b1 : b < 18446744073709551616) (c0 : 0 ≤ c) (c1 : c < 18446744073709551616) (d0 : 0 ≤ d) (d1 : d < 18446744073709551616) (w : World) :
    Calls Try.prog 55 #[.agg #[.int .u64 a, .int .u64 b], .agg #[.int .u64 c, .int .u64 d]] w fun e w' =>
      e = .returned (.tuple #[.agg #[.int .u64 (wHi (wN a b + wN c d)), .int .u64 (wLo (wN a b + wN c d))], .bool (wOver (wN a b + wN c d))]) ∧ Below w.heap.size w w' := by
  have k0 : 0 ≤ (b + d) / 18446744073709551616 := by omega
  have k1 : (b + d) / 18446744073709551616 ≤ 1 := by omega
  go_enter Try.func55, Try.ntmps55
  go_wp2_with (first | simp only [add64_0 b d b0 d0] | simp only [add64 a c _ a0 c0 k0 k1])
  go_returns
  exact ⟨ret_wb (add_hi b0 b1 d0 d1) add_lo (add_over a0 b0 b1 c0 d0 d1), by go_grown⟩
theorem wide_Div0 (a b : Int) (w : World) :
    Calls Try.prog 53 #[.agg #[.int .u64 a, .int .u64 b], .int .u64 0] w fun e w' =>
      e = .returned (.tuple #[.agg #[.int .u64 0, .int .u64 0], .int .u64 0, .int .i64 20]) ∧ Below w.heap.size w w' := by
  go_enter Try.func53, Try.ntmps53
  go_wp2
  go_returns
  exact ⟨rfl, by go_grown⟩
theorem wide_DivP (a b d : Int) (a0 : 0 ≤ a) (a1 : a < 18446744073709551616) (b0 : 0 ≤ b) (b1 : b < 18446744073709551616) (d0 : 0 < d) (d1 : d < 18446744073709551616) (w : World) :
    Calls Try.prog 53 #[.agg #[.int .u64 a, .int .u64 b], .int .u64 d] w fun e w' =>
      e = .returned (.tuple #[.agg #[.int .u64 (wHi (wN a b / d)), .int .u64 (wLo (wN a b / d))], .int .u64 (wN a b % d), .int .i64 0]) ∧ Below w.heap.size w w' := by
  obtain ⟨e1, e2, e3, e4, e5, e6, e7⟩ := div_words a0 a1 b0 b1 d0 d1
  have E1 := Lib.hid e1; have E2 := Lib.hid e2; have E3 := Lib.hid e3
  clear e1 e2 e3
  have hd : (d == 0) = false := by simp; omega
  go_enter Try.func53, Try.ntmps53
  go_wp2
  go_quiet (fail)
  go_wp2_with (go_at_call 60; refine (div64 _ _ _ (by omega) (by omega) (by omega) (by omega) (by omega) _).mono ?_; rintro e w' ⟨rfl, nd, rfl⟩)
  go_returns
  exact ⟨ret_wui E1.out E2.out E3.out rfl, by exact ((below_drewN (((Below.refl _ _).alloc (Nat.le_refl _) _).alloc (by go_size) _) _).setCell (by go_size) _).setCell (by go_size) _⟩
theorem wide_Of_exact (n : Int) (w : World) :
    Calls Try.prog 56 #[.int .u64 n] w fun e w' => e = .returned (.agg #[.int .u64 0, .int .u64 n]) ∧ (w.alloc (.cells #[.int .u64 0, .int .u64 n] 82)) = w' := by
  go_enter Try.func56, Try.ntmps56
  go_wp2
  go_returns
  exact ⟨rfl, rfl⟩
end Go.Proofs.Ytlhjacgocggbcaa
