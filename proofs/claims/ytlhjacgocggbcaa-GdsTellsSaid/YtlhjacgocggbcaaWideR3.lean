/- The walks of the document's answer for the layer wide, third part. -/
import Derived.Test.YtlhjacgocggbcaaWideR2
import Derived.Test.YtlhjacgocggbcaaWideT
import Derived.Deep.RegionHeld3
set_option linter.unusedVariables false
namespace Go.Proofs.Ytlhjacgocggbcaa
open Go.RowKit Go.Shelf

theorem ref2_Div0 (a b : Int) (w : World) :
    Calls Try.prog 59 #[.agg #[.int .u64 a, .int .u64 b], .int .u64 0] w fun e w' =>
      e = .returned (.tuple #[.agg #[.int .u64 0, .int .u64 0], .int .u64 0, .int .i64 20]) ∧ Below w.heap.size w w' := by
  go_enter Try.func59, Try.ntmps59
  go_wp2_with fail
  go_returns
  exact ⟨rfl, by repeat' (first | (with_reducible exact Below.refl _ _) | (with_reducible assumption) | (with_reducible refine Below.alloc ?_ ?_ _) | (with_reducible refine below_drewN ?_ _) | (with_reducible refine Below.drew ?_) | (with_reducible refine Below.setCell ?_ ?_ _) | go_size | omega | (simp; omega))⟩
set_option maxHeartbeats 2000000 in
theorem ref2_DivP (a b d : Int) (a0 : 0 ≤ a) (a1 : a < 18446744073709551616) (b0 : 0 ≤ b) (b1 : b < 18446744073709551616) (d0 : 0 < d) (d1 : d < 18446744073709551616) (w : World) :
    Calls Try.prog 59 #[.agg #[.int .u64 a, .int .u64 b], .int .u64 d] w fun e w' =>
      e = .returned (.tuple #[.agg #[.int .u64 (wHi (wN a b / d)), .int .u64 (wLo (wN a b / d))], .int .u64 (wN a b % d), .int .i64 0]) ∧ Below w.heap.size w w' := by
  have hd : (d == 0) = false := by simp; omega
  obtain ⟨e1, e2, e3, e4, e5, e6, e7⟩ := div_words a0 a1 b0 b1 d0 d1
  have E1 := Lib.hid e1; have E2 := Lib.hid e2; have E3 := Lib.hid e3
  clear e1 e2 e3
  go_enter Try.func59, Try.ntmps59
  go_wp2_with fail
  go_loop [7, 8, 9, 10] (fun r l q i => ∃ (k : Nat) (r' l' q' : Int), k ≤ 64 ∧ i = .int .i64 k ∧ r = .int .u64 r' ∧ l = .int .u64 l' ∧ q = .int .u64 q' ∧ BitDiv (a % d) b d k q' r' l') (fun _ _ _ i => 64 - (intOf i).toNat)
  case atStart => exact ⟨0, _, _, _, by omega, rfl, rfl, rfl, rfl, BitDiv.start e6 e7 b0 b1⟩
  case round =>
    obtain ⟨k, r, l, q, hk, rfl, rfl, rfl, rfl, D⟩ := hrel
    by_cases hk2 : k < 64
    · obtain ⟨l0, l1⟩ := D.l_bd
      obtain ⟨q0, q1⟩ := D.q_bd (by omega)
      obtain ⟨r0, r1⟩ : 0 ≤ r ∧ r < d := ⟨D.r0, D.r1⟩
      obtain ⟨s1, s2, s3, s4⟩ := D.step (by omega)
      have S1 := Lib.hid s1; have S2 := Lib.hid s2; clear s1 s2
      rcases Int.lt_or_le r 9223372036854775808 with hr | hr
      · rcases Int.lt_or_le (2 * r + l / 9223372036854775808) d with hc | hc
        · go_wp2_with fail
          exact ⟨⟨k + 1, _, _, _, by omega, by go_num, rfl, by rw [IntKind.wrap_u64], rfl, S1.out hc⟩, by simp [intOf]; omega⟩
        · go_wp2_with fail
          exact ⟨⟨k + 1, _, _, _, by omega, by go_num, rfl, by rw [IntKind.wrap_u64], rfl, S2.out hc⟩, by simp [intOf]; omega⟩
      · have hw : IntKind.u64.wrap (IntKind.u64.wrap (IntKind.u64.wrap (2 * r) + l / 9223372036854775808) - d) = 2 * r + l / 9223372036854775808 - d := by simp only [IntKind.wrap_u64]; omega
        have HW := Lib.hid hw; clear hw
        go_wp2_with fail
        exact ⟨⟨k + 1, _, _, _, by omega, by go_num, by rw [HW.out], by rw [IntKind.wrap_u64], rfl, S2.out (by omega)⟩, by simp [intOf]; omega⟩
    · obtain rfl : k = 64 := by omega
      obtain ⟨f1, f2⟩ := D.fin d0
      go_wp2_with fail
      go_returns
      exact ⟨ret_wui E1.out E2.out E3.out rfl, by repeat' (first | (with_reducible exact Below.refl _ _) | (with_reducible assumption) | (with_reducible refine Below.alloc ?_ ?_ _) | (with_reducible refine below_drewN ?_ _) | (with_reducible refine Below.drew ?_) | (with_reducible refine Below.setCell ?_ ?_ _) | go_size | omega | (simp; omega))⟩
end Go.Proofs.Ytlhjacgocggbcaa
