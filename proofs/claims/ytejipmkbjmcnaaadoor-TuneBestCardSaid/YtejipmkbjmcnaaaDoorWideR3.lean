/- The walks of the document's answer for the layer wide, third part. -/
import Derived.Test.YtejipmkbjmcnaaaDoorWideR2
import Derived.Test.YtejipmkbjmcnaaaDoorWideT
import Derived.Deep.RegionHeld3
set_option linter.unusedVariables false
namespace Go.Proofs.YtejipmkbjmcnaaaDoor
open Go.RowKit Go.Shelf

theorem ref2_Div0 (a b : Int) (w : World) :
    Calls Tryd.prog 79 #[.agg #[.int .u64 a, .int .u64 b], .int .u64 0] w fun e w' =>
      e = .returned (.tuple #[.agg #[.int .u64 0, .int .u64 0], .int .u64 0, .int .i64 20]) ∧ Below w.heap.size w w' := by
  go_enter Tryd.func79, Tryd.ntmps79
  go_wp2_with fail
  go_returns
  exact ⟨rfl, by repeat' (first | (with_reducible exact Below.refl _ _) | (with_reducible assumption) | (with_reducible refine Below.alloc ?_ ?_ _) | (with_reducible refine below_drewN ?_ _) | (with_reducible refine Below.drew ?_) | (with_reducible refine Below.setCell ?_ ?_ _) | go_size | omega | (simp; omega))⟩
set_option maxHeartbeats 2000000 in
theorem ref2_DivP (a b d : Int) (a0 : 0 ≤ a) (a1 : a < 18446744073709551616) (b0 : 0 ≤ b) (b1 : b < 18446744073709551616) (d0 : 0 < d) (d1 : d < 18446744073709551616) (w : World) :
    Calls Tryd.prog 79 #[.agg #[.int .u64 a, .int .u64 b], .int .u64 d] w fun e w' =>
      e = .returned (.tuple #[.agg #[.int .u64 (wHi (wN a b / d)), .int .u64 (wLo (wN a b / d))], .int .u64 (wN a b % d), .int .i64 0]) ∧ Below w.heap.size w w' := by
  have hd : (d == 0) = false := by simp; omega
  obtain ⟨e1, e2, e3, e4, e5, e6, e7⟩ := div_words a0 a1 b0 b1 d0 d1
  have E1 := Lib.hid e1; have E2 := Lib.hid e2; have E3 := Lib.hid e3
  clear e1 e2 e3
  go_enter Tryd.func79, Tryd.ntmps79
  go_wp2_with fail
  go_loop [7, 8, 9, 10] (fun r l q i => ∃ (k : Nat) (r' l' q' : Int), k ≤ 64 ∧ i = .int .i64 k ∧ r = .int .u64 r' ∧ l = .int .u64 l' ∧ q = .int .u64 q' ∧ BitDiv (a % d) b d k q' r' l') (fun _ _ _ i => 64 - (intOf i).toNat)
  case atStart => exact ⟨0, _, _, _, by omega, rfl, rfl, rfl, rfl, BitDiv.start e6 e7 b0 b1⟩
  case round =>
    obtain ⟨k, r, l, q, hk, rfl, rfl, rfl, rfl, D⟩ := hrel
    by_cases hk2 : k < 64
    · obtain ⟨l0, l1⟩ := D.l_bd
      obtain ⟨q0, q1⟩ := D.q_bd (by omega)
      obtain ⟨r0, r1⟩ : 0 ≤ r ∧ r < d := ⟨D.r0, D.r1⟩
      obtain ⟨s1, s2, s3, s4⟩ := D.step (by omega)
      have S1 := Lib.hid s1; have S2 := Lib.hid s2; clear s1 s2
      rcases Int.lt_or_le r 9223372036854775808 with hr | hr
      · rcases Int.lt_or_le (2 * r + l / 9223372036854775808) d with hc | hc
        · go_wp2_with fail
          exact ⟨⟨k + 1, _, _, _, by omega, by go_num, rfl, by rw [IntKind.wrap_u64], rfl, S1.out hc⟩, by simp [intOf]; omega⟩
        · go_wp2_with fail
          exact ⟨⟨k + 1, _, _, _, by omega, by go_num, rfl, by rw [IntKind.wrap_u64], rfl, S2.out hc⟩, by simp [intOf]; omega⟩
      · have hw : IntKind.u64.wrap (IntKind.u64.wrap (IntKind.u64.wrap (2 * r) + l / 9223372036854775808) - d) = 2 * r + l / 9223372036854775808 - d := by simp only [IntKind.wrap_u64]; omega
        have HW := Lib.hid hw; clear hw
        go_wp2_with fail
        exact ⟨⟨k + 1, _, _, _, by omega, by go_num, by rw [HW.out], by rw [IntKind.wrap_u64], rfl, S2.out (by omega)⟩, by simp [intOf]; omega⟩
    · obtain rfl : k = 64 := by omega
      obtain ⟨f1, f2⟩ := D.fin d0
      go_wp2_with fail
      go_returns
      exact ⟨ret_wui E1.out E2.out E3.out rfl, by repeat' (first | (with_reducible exact Below.refl _ _) | (with_reducible assumption) | (with_reducible refine Below.alloc ?_ ?_ _) | (with_reducible refine below_drewN ?_ _) | (with_reducible refine Below.drew ?_) | (with_reducible refine Below.setCell ?_ ?_ _) | go_size | omega | (simp; omega))⟩
theorem wShr_one (x : Int) (k : Nat) : wShr x (k + 1 : Nat) = wShr x k / 2 := by
  unfold wShr
  simp only [Int.toNat_natCast]
  rw [Int.pow_succ, Int.ediv_ediv_of_nonneg (Int.pow_nonneg (by decide))]
theorem shr_half {z : Int} (z0 : 0 ≤ z) (z1 : z < 340282366920938463463374607431768211456) : wHi (z / 2) = wHi z / 2 ∧ wLo (z / 2) = wLo z / 2 + wHi z % 2 * 9223372036854775808 := by unfold wHi wLo; omega
theorem shr_stop {x n : Int} {k : Nat} (x0 : 0 ≤ x) (x1 : x < 340282366920938463463374607431768211456) (hk : (k : Int) ≤ n) (hk' : k ≤ 128) (h : n ≤ k ∨ 128 ≤ (k : Int)) : wShr x k = wShr x n := by
  rcases h with h | h
  · rw [show n = k from by omega]
  · have e : wShr x 128 = 0 := by
      have h2 : wShr x 128 = x / 340282366920938463463374607431768211456 := rfl
      rw [h2]; omega
    rw [show (k : Int) = 128 from by omega, e]
    have := wShr_add x 128 (n - 128) (by omega) (by omega)
    rw [show (128 : Int) + (n - 128) = n from by omega, e, wShr_of_zero] at this
    exact this.symm
set_option maxHeartbeats 1000000 in
theorem ref2_Shr (a b n : Int) (a0 : 0 ≤ a) (a1 : a < 18446744073709551616) (b0 : 0 ≤ b) (b1 : b < 18446744073709551616) (n0 : 0 ≤ n) (n1 : n < 18446744073709551616) (w : World) :
    Calls Tryd.prog 67 #[.agg #[.int .u64 a, .int .u64 b], .int .u64 n] w fun e w' =>
      e = .returned (.agg #[.int .u64 (wHi (wShr (wN a b) n)), .int .u64 (wLo (wShr (wN a b) n))]) ∧ Below w.heap.size w w' := by
  obtain ⟨X0, X1⟩ := wN_bd a0 a1 b0 b1
  go_enter Tryd.func67, Tryd.ntmps67
  go_wp2_with fail
  go_loopw [5] (fun i wr => ∃ k : Nat, (k : Int) ≤ n ∧ k ≤ 128 ∧ i = .int .u64 k ∧ wr.cell? ⟨w.heap.size, 0, none⟩ = some (.int .u64 (wHi (wShr (wN a b) k))) ∧ wr.cell? ⟨w.heap.size, 1, none⟩ = some (.int .u64 (wLo (wShr (wN a b) k))) ∧
      wr.frozen? ⟨w.heap.size, 0, none⟩ = false ∧ wr.frozen? ⟨w.heap.size, 1, none⟩ = false ∧ wr.cell? ⟨w.heap.size + 1, 0, none⟩ = some (.int .u64 0) ∧ wr.cell? ⟨w.heap.size + 1, 1, none⟩ = some (.int .u64 0) ∧
      wr.frozen? ⟨w.heap.size + 1, 0, none⟩ = false ∧ wr.frozen? ⟨w.heap.size + 1, 1, none⟩ = false ∧ w.heap.size + 1 < wr.heap.size ∧ Below w.heap.size w wr) (fun i _ => 128 - (intOf i).toNat)
  case atStart =>
    refine ⟨0, by omega, by omega, rfl, ?_, ?_, ?_, ?_, ?_, ?_, ?_, ?_, ?_, ?_⟩
    · rw [show ((0 : Nat) : Int) = 0 from rfl, wShr_zero, wHi_wN a0 a1 b0 b1]; simp [go_sem]
    · rw [show ((0 : Nat) : Int) = 0 from rfl, wShr_zero, wLo_wN b0 b1]; simp [go_sem]
    · simp [go_sem]
    · simp [go_sem]
    · simp [go_sem]
    · simp [go_sem]
    · simp [go_sem]
    · simp [go_sem]
    · simp [go_sem]
    · repeat' (first | (with_reducible exact Below.refl _ _) | (with_reducible assumption) | (with_reducible refine Below.alloc ?_ ?_ _) | (with_reducible refine below_drewN ?_ _) | (with_reducible refine Below.drew ?_) | (with_reducible refine Below.setCell ?_ ?_ _) | go_size | omega | (simp; omega))
  case round =>
    obtain ⟨k, hk, hk', rfl, h1, h2, f1, f2, k1, k2, f3, f4, hz, hB⟩ := hrel
    have z0 : 0 ≤ wShr (wN a b) k := wShr_nonneg X0
    have z1 : wShr (wN a b) k < 340282366920938463463374607431768211456 := Int.lt_of_le_of_lt (wShr_le X0) X1
    obtain ⟨x0, x1⟩ := wHi_bd (wShr (wN a b) k)
    obtain ⟨y0, y1⟩ := wLo_bd (wShr (wN a b) k)
    by_cases hn : (k : Int) < n
    · by_cases h8 : (k : Int) < 128
      · obtain ⟨t1, t2⟩ := shr_half z0 z1
        have T1 := Lib.hid t1; have T2 := Lib.hid t2; clear t1 t2
        have hs := Lib.hid (wShr_one (wN a b) k)
        go_wp2_with fail
        refine ⟨⟨k + 1, by omega, by omega, by go_num, ?_, ?_, ?_, ?_, ?_, ?_, ?_, ?_, ?_, ?_⟩, by simp [intOf]; omega⟩
        · rw [hs.out, T1.out]; simp (maxDischargeDepth := 9) [go_sem, h1]
        · rw [hs.out, T2.out]; simp (maxDischargeDepth := 9) [go_sem, h2]
        · simp [go_sem, f1]
        · simp [go_sem, f2]
        · simp [go_sem, k1]
        · simp [go_sem, k2]
        · simp [go_sem, f3]
        · simp [go_sem, f4]
        · simp [go_sem, hz]
        · repeat' (first | (with_reducible exact Below.refl _ _) | (with_reducible assumption) | (with_reducible refine Below.alloc ?_ ?_ _) | (with_reducible refine below_drewN ?_ _) | (with_reducible refine Below.drew ?_) | (with_reducible refine Below.setCell ?_ ?_ _) | go_size | omega | (simp; omega))
      · go_wp2_with fail
        refine bodyPost_ret (by simp (maxDischargeDepth := 9) [results, Tryd.results67, go_sem, k1, k2]; try rfl) rfl ?_
        exact ⟨by rw [shr_stop X0 X1 hk hk' (by omega)], by repeat' (first | (with_reducible exact Below.refl _ _) | (with_reducible assumption) | (with_reducible refine Below.alloc ?_ ?_ _) | (with_reducible refine below_drewN ?_ _) | (with_reducible refine Below.drew ?_) | (with_reducible refine Below.setCell ?_ ?_ _) | go_size | omega | (simp; omega))⟩
    · go_wp2_with fail
      refine bodyPost_ret (by simp (maxDischargeDepth := 9) [results, Tryd.results67, go_sem, k1, k2]; try rfl) rfl ?_
      exact ⟨by rw [shr_stop X0 X1 hk hk' (by omega)], by repeat' (first | (with_reducible exact Below.refl _ _) | (with_reducible assumption) | (with_reducible refine Below.alloc ?_ ?_ _) | (with_reducible refine below_drewN ?_ _) | (with_reducible refine Below.drew ?_) | (with_reducible refine Below.setCell ?_ ?_ _) | go_size | omega | (simp; omega))⟩
end Go.Proofs.YtejipmkbjmcnaaaDoor
