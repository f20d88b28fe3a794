/- The walks of the layer wide: each function comes to the plain number of WideS; a struct that is a parameter or a result lies in a new block. -/
import Derived.Test.YtejipmkbjmcnaaaDoorDiv64C
import Derived.Test.YtejipmkbjmcnaaaDoorWideS
set_option linter.unusedVariables false
namespace Go.Proofs.YtejipmkbjmcnaaaDoor
open Go.RowKit Go.Shelf

theorem ret_w {a b c d : Int} (h : a = b) (h' : c = d) : Ending.returned (.agg #[.int .u64 a, .int .u64 c]) = .returned (.agg #[.int .u64 b, .int .u64 d]) := by rw [h, h']
theorem ret_wb {a b c d : Int} {x y : Bool} (h : a = b) (h' : c = d) (h2 : x = y) : Ending.returned (.tuple #[.agg #[.int .u64 a, .int .u64 c], .bool x]) = .returned (.tuple #[.agg #[.int .u64 b, .int .u64 d], .bool y]) := by rw [h, h', h2]
theorem ret_wui {a b c d e f g k : Int} (h : a = b) (h' : c = d) (h2 : e = f) (h3 : g = k) : Ending.returned (.tuple #[.agg #[.int .u64 a, .int .u64 c], .int .u64 e, .int .i64 g]) = .returned (.tuple #[.agg #[.int .u64 b, .int .u64 d], .int .u64 f, .int .i64 k]) := by rw [h, h', h2, h3]

theorem wide_Of (n : Int) (w : World) :
    Calls Tryd.prog 82 #[.int .u64 n] w fun e w' => e = .returned (.agg #[.int .u64 0, .int .u64 n]) ∧ Below w.heap.size w w' := by
  go_enter Tryd.func82, Tryd.ntmps82
  go_wp2
  go_returns
  exact ⟨rfl, by go_grown⟩
theorem wide_Mul (a b : Int) (ha : 0 ≤ a) (ha' : a < 18446744073709551616) (hb : 0 ≤ b) (hb' : b < 18446744073709551616) (w : World) :
    Calls Tryd.prog 76 #[.int .u64 a, .int .u64 b] w fun e w' => e = .returned (.agg #[.int .u64 (wHi (a * b)), .int .u64 (wLo (a * b))]) ∧ Below w.heap.size w w' := by
  go_enter Tryd.func76, Tryd.ntmps76
  go_wp2_with (go_at_call 61; refine (mul64 a b ha ha' hb hb' _).mono ?_; rintro e w' ⟨rfl, rfl⟩)
  go_returns
  exact ⟨ret_w (mul_hi ha ha' hb hb') rfl, by go_grown⟩
theorem wide_Add (a b c d : Int) (a0 : 0 ≤ a) (a1 : a < 18446744073709551616) (b0 : 0 ≤ b) (b1 : b < 18446744073709551616) (c0 : 0 ≤ c) (c1 : c < 18446744073709551616) (d0 : 0 ≤ d) (d1 : d < 18446744073709551616) (w : World) :
    Calls Tryd.prog 81 #[.agg #[.int .u64 a, .int .u64 b], .agg #[.int .u64 c, .int .u64 d]] w fun e w' =>
      e = .returned (.tuple #[.agg #[.int .u64 (wHi (wN a b + wN c d)), .int .u64 (wLo (wN a b + wN c d))], .bool (wOver (wN a b + wN c d))]) ∧ Below w.heap.size w w' := by
  have k0 : 0 ≤ (b + d) / 18446744073709551616 := by omega
  have k1 : (b + d) / 18446744073709551616 ≤ 1 := by omega
  go_enter Tryd.func81, Tryd.ntmps81
  go_wp2_with (first | simp only [add64_0 b d b0 d0] | simp only [add64 a c _ a0 c0 k0 k1])
  go_returns
  exact ⟨ret_wb (add_hi b0 b1 d0 d1) add_lo (add_over a0 b0 b1 c0 d0 d1), by go_grown⟩
theorem wide_Div0 (a b : Int) (w : World) :
    Calls Tryd.prog 80 #[.agg #[.int .u64 a, .int .u64 b], .int .u64 0] w fun e w' =>
      e = .returned (.tuple #[.agg #[.int .u64 0, .int .u64 0], .int .u64 0, .int .i64 20]) ∧ Below w.heap.size w w' := by
  go_enter Tryd.func80, Tryd.ntmps80
  go_wp2
  go_returns
  exact ⟨rfl, by go_grown⟩
theorem wide_DivP (a b d : Int) (a0 : 0 ≤ a) (a1 : a < 18446744073709551616) (b0 : 0 ≤ b) (b1 : b < 18446744073709551616) (d0 : 0 < d) (d1 : d < 18446744073709551616) (w : World) :
    Calls Tryd.prog 80 #[.agg #[.int .u64 a, .int .u64 b], .int .u64 d] w fun e w' =>
      e = .returned (.tuple #[.agg #[.int .u64 (wHi (wN a b / d)), .int .u64 (wLo (wN a b / d))], .int .u64 (wN a b % d), .int .i64 0]) ∧ Below w.heap.size w w' := by
  obtain ⟨e1, e2, e3, e4, e5, e6, e7⟩ := div_words a0 a1 b0 b1 d0 d1
  have E1 := Lib.hid e1; have E2 := Lib.hid e2; have E3 := Lib.hid e3
  clear e1 e2 e3
  have hd : (d == 0) = false := by simp; omega
  go_enter Tryd.func80, Tryd.ntmps80
  go_wp2
  go_quiet (fail)
  go_wp2_with (go_at_call 84; refine (div64 _ _ _ (by omega) (by omega) (by omega) (by omega) (by omega) _).mono ?_; rintro e w' ⟨rfl, nd, rfl⟩)
  go_returns
  exact ⟨ret_wui E1.out E2.out E3.out rfl, by exact ((below_drewN (((Below.refl _ _).alloc (Nat.le_refl _) _).alloc (by go_size) _) _).setCell (by go_size) _).setCell (by go_size) _⟩
theorem wide_Of_exact (n : Int) (w : World) :
    Calls Tryd.prog 82 #[.int .u64 n] w fun e w' => e = .returned (.agg #[.int .u64 0, .int .u64 n]) ∧ (w.alloc (.cells #[.int .u64 0, .int .u64 n] 77)) = w' := by
  go_enter Tryd.func82, Tryd.ntmps82
  go_wp2
  go_returns
  exact ⟨rfl, rfl⟩
theorem or_zero64 (x : Int) (h0 : 0 ≤ x) (h1 : x < 18446744073709551616) : bits .or .u64 x 0 = x := by
  obtain ⟨a, rfl⟩ := Int.eq_ofNat_of_zero_le h0
  have h := bits_or_u64_nat a 0 (by omega) (by omega)
  rw [Nat.or_zero] at h
  exact h
theorem shr_or {h l m P Q : Int} (h0 : 0 ≤ h) (h1 : h < 18446744073709551616) (l0 : 0 ≤ l) (l1 : l < 18446744073709551616) (m0 : 0 ≤ m) (m1 : m < 64) (hP : (2 : Int) ^ m.toNat = P) (hQ : (2 : Int) ^ (64 - m).toNat = Q) (P1 : 1 ≤ P) (Q1 : 1 ≤ Q) :
    h / P = wHi (wN h l / P) ∧ bits .or .u64 (l / P) (IntKind.u64.wrap (h * Q)) = wLo (wN h l / P) := by
  have hPQ : P * Q = 18446744073709551616 := by rw [← hP, ← hQ]; exact pow_split m0 m1
  obtain ⟨z0, z1⟩ := wN_bd h0 h1 l0 l1
  obtain ⟨r1, r2, r3, r4, r5⟩ := shr_part z0 z1 P1 Q1 hPQ
  rw [wHi_wN h0 h1 l0 l1] at r1 r2 r5
  rw [wLo_wN l0 l1] at r2 r3 r4
  refine ⟨r1, ?_⟩
  have hc : bits .or .u64 (l / P) (IntKind.u64.wrap (h * Q)) = bits .or .u64 (IntKind.u64.wrap (h * Q)) (l / P) := by simp only [bits, BitVec.or_comm]
  have q1 : Q ≤ 18446744073709551616 := by
    have := Int.mul_le_mul_of_nonneg_right P1 (show 0 ≤ Q by omega)
    omega
  rw [hc, IntKind.wrap_u64, join64 (64 - m).toNat _ _ (by omega) (by rw [hQ]; exact r5) (by omega) r3 (by rw [hQ]; exact r4) (by omega), ← r2, Int.add_comm]
set_option maxHeartbeats 1000000 in
theorem wide_Shr (a b n : Int) (a0 : 0 ≤ a) (a1 : a < 18446744073709551616) (b0 : 0 ≤ b) (b1 : b < 18446744073709551616) (n0 : 0 ≤ n) (n1 : n < 18446744073709551616) (w : World) :
    Calls Tryd.prog 75 #[.agg #[.int .u64 a, .int .u64 b], .int .u64 n] w fun e w' =>
      e = .returned (.agg #[.int .u64 (wHi (wShr (wN a b) n)), .int .u64 (wLo (wShr (wN a b) n))]) ∧ Below w.heap.size w w' := by
  have f1 : min (n % 64).toNat 64 = (n % 64).toNat := by omega
  have f2 : min (64 - n % 64).toNat 64 = (64 - n % 64).toNat := by omega
  obtain ⟨P, hP⟩ : ∃ P, (2 : Int) ^ (n % 64).toNat = P := ⟨_, rfl⟩
  obtain ⟨Q, hQ⟩ : ∃ Q, (2 : Int) ^ (64 - n % 64).toNat = Q := ⟨_, rfl⟩
  have P1 : 1 ≤ P := by have : (0 : Int) < 2 ^ (n % 64).toNat := Int.pow_pos (by decide); omega
  have Q1 : 1 ≤ Q := by have : (0 : Int) < 2 ^ (64 - n % 64).toNat := Int.pow_pos (by decide); omega
  obtain ⟨K1, K2, K3⟩ := shr_cases a0 a1 b0 b1 n0 hP
  obtain ⟨s1, s2⟩ := shr_or a0 a1 b0 b1 (show 0 ≤ n % 64 by omega) (by omega) hP hQ P1 Q1
  obtain ⟨s3, s4⟩ := shr_or (Int.le_refl 0) (by decide) a0 a1 (show 0 ≤ n % 64 by omega) (by omega) hP hQ P1 Q1
  rw [Int.zero_mul, show IntKind.u64.wrap 0 = 0 from rfl] at s4
  rw [Int.zero_ediv] at s3
  have ob : bits .or .u64 0 0 = 0 := or_zero64 0 (by decide) (by decide)
  have z1 : wN 0 0 = 0 := rfl
  have hs1 := Lib.hid s1; have hs2 := Lib.hid s2; have hs3 := Lib.hid s3; have hs4 := Lib.hid s4; have hob := Lib.hid ob
  clear s1 s2 s3 s4 ob z1
  rcases Int.lt_or_le n 64 with hn | hn
  · have k := Lib.hid (K1 hn)
    clear K1 K2 K3
    go_enter Tryd.func75, Tryd.ntmps75
    go_wp2_with fail
    go_step3
    go_wp2_with fail
    go_step3
    go_wp2_with fail
    refine wp_loop_rounds 3 ?_
    repeat any_goals (rw [rounds_succ]; go_wp2_with (go_at_call 82; refine (wide_Of_exact _ _).mono ?_; rintro e w' ⟨rfl, rfl⟩))
    rw [Exit.noGoto_ret]; show bodyPost _ _ _ _ _ _; go_returns
    exact ⟨ret_w (by rw [k.out]; exact hs1.out) (by rw [k.out]; exact hs2.out), by go_grown⟩
  · rcases Int.lt_or_le n 128 with hn2 | hn2
    · have k := Lib.hid (K2 hn hn2)
      clear K1 K2 K3
      go_enter Tryd.func75, Tryd.ntmps75
      go_wp2_with fail
      go_step3
      go_wp2_with fail
      go_step3
      go_wp2_with fail
      refine wp_loop_rounds 3 ?_
      repeat any_goals (rw [rounds_succ]; go_wp2_with (go_at_call 82; refine (wide_Of_exact _ _).mono ?_; rintro e w' ⟨rfl, rfl⟩))
      all_goals (rw [Exit.noGoto_ret]; show bodyPost _ _ _ _ _ _; go_returns)
      · have ha : a = 0 := by assumption
        exact ⟨ret_w (by rw [k.out, ha]; simp [wN, wHi]) (by rw [k.out, ha, hob.out]; simp [wN, wLo]), by go_grown⟩
      · have ha : a = 0 := by assumption
        exact ⟨ret_w (by rw [k.out, ha]; simp [wN, wHi]) (by rw [k.out, ha, hob.out]; simp [wN, wLo]), by go_grown⟩
      · exact ⟨ret_w (by rw [k.out]; exact hs3.out) (by rw [k.out]; exact hs4.out), by go_grown⟩
    · have k := Lib.hid (K3 hn2)
      clear K1 K2 K3
      go_enter Tryd.func75, Tryd.ntmps75
      go_wp2_with fail
      go_step3
      go_wp2_with fail
      go_step3
      go_wp2_with fail
      refine wp_loop_rounds 3 ?_
      repeat any_goals (rw [rounds_succ]; go_wp2_with (go_at_call 82; refine (wide_Of_exact _ _).mono ?_; rintro e w' ⟨rfl, rfl⟩))
      all_goals (rw [Exit.noGoto_ret]; show bodyPost _ _ _ _ _ _; go_returns)
      all_goals exact ⟨ret_w (by rw [k.out]; rfl) (by rw [k.out, hob.out]; rfl), by go_grown⟩
end Go.Proofs.YtejipmkbjmcnaaaDoor
