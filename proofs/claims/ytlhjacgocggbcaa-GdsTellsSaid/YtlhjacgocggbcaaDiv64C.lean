/- math/bits.Div64: the quotient and what is left over, where the high word is below the divisor. -/
import Derived.Test.YtlhjacgocggbcaaBitsC
set_option linter.unusedVariables false
namespace Go.Proofs.Ytlhjacgocggbcaa
open Go.RowKit Go.Shelf

theorem ret_uu {a b c d : Int} (h : a = b) (h' : c = d) : Ending.returned (.tuple #[.int .u64 a, .int .u64 c]) = .returned (.tuple #[.int .u64 b, .int .u64 d]) := by rw [h, h']
theorem div64_lo (lo y : Int) (hl : 0 ≤ lo) (hl' : lo < 18446744073709551616) (hy : 0 < y) (hy' : y < 18446744073709551616) (w : World) :
    Calls Try.prog 60 #[.int .u64 0, .int .u64 lo, .int .u64 y] w fun e w' => e = .returned (.tuple #[.int .u64 (lo / y), .int .u64 (lo % y)]) ∧ ∃ n, w' = w.drewN n := by
  go_enter Try.func60, Try.ntmps60
  go_wp2_with fail
  go_quiet (fail)
  go_wp2_with fail
  go_ret2
  exact ⟨rfl, _, rfl⟩

/-- The lowest 32 bits. -/
theorem mask32 (x : Int) (h0 : 0 ≤ x) (h1 : x < 18446744073709551616) : bits .and .u64 x 4294967295 = x % 4294967296 := by
  obtain ⟨a, rfl⟩ := Int.eq_ofNat_of_zero_le h0
  have h := bits_and_u64_nat a 4294967295 (by omega) (by omega)
  have e : a &&& 4294967295 = a % 4294967296 := Nat.and_two_pow_sub_one_eq_mod a 32
  rw [e] at h
  exact h
/-- Two numbers of unlike bits. -/
theorem join64 (k : Nat) (x y : Int) (x0 : 0 ≤ x) (hx : x % 2 ^ k = 0) (x1 : x < 18446744073709551616) (y0 : 0 ≤ y) (y1 : y < 2 ^ k) (y2 : y < 18446744073709551616) : bits .or .u64 x y = x + y :=
  bits_join .u64 64 (by decide) (fun n h h' => by rw [IntKind.wrap_u64]; exact Int.emod_eq_of_lt h h') k x y x0 hx x1 y0 y1 y2

/-- The norming of a divisor, and of what is divided. -/
theorem norm_facts {hi lo y : Int} (hh : 0 < hi) (hh' : hi < y) (hl : 0 ≤ lo) (hl' : lo < 18446744073709551616) (hy' : y < 18446744073709551616) :
    ∃ s P Q Y u L : Int, leadS y = s ∧ 0 ≤ s ∧ s < 64 ∧ min s.toNat 64 = s.toNat ∧ (2 : Int) ^ s.toNat = P ∧ min (64 - s).toNat 64 = (64 - s).toNat ∧ (2 : Int) ^ (64 - s).toNat = Q ∧
      1 ≤ P ∧ P < 18446744073709551616 ∧ y * P = Y ∧ 9223372036854775808 ≤ Y ∧ Y < 18446744073709551616 ∧ 0 ≤ hi * P ∧ hi * P < 18446744073709551616 ∧ 1 ≤ Q ∧
      bits .or .u64 (hi * P) (lo / Q) = u ∧ 0 ≤ u ∧ u < Y ∧ IntKind.u64.wrap (lo * P) = L ∧ 0 ≤ L ∧ L < 18446744073709551616 ∧
      (u * 18446744073709551616 + L) / Y = (hi * 18446744073709551616 + lo) / y ∧ (u * 18446744073709551616 + L) % Y / P = (hi * 18446744073709551616 + lo) % y := by
  obtain ⟨n1, n2, n3, n4⟩ := bitLen_norm 64 y.toNat (by omega) (by omega) (by omega)
  have hs : leadS y = 64 - (Lib.bitLen y.toNat : Int) := rfl
  generalize Lib.bitLen y.toNat = n at *
  obtain ⟨m, rfl⟩ : ∃ m, n = m + 1 := ⟨n - 1, by omega⟩
  rw [show m + 1 - 1 = m from by omega] at n1
  have e1 : (leadS y).toNat = 63 - m := by omega
  have e2 : (64 - leadS y).toNat = m + 1 := by omega
  have pm : (2 : Int) ^ m ≤ y := by
    have h : ((2 ^ m : Nat) : Int) ≤ ((y.toNat : Nat) : Int) := Int.ofNat_le.2 n1
    rw [Int.natCast_pow, Int.toNat_of_nonneg (by omega)] at h
    exact h
  have pm1 : y < (2 : Int) ^ (m + 1) := by
    have h : ((y.toNat : Nat) : Int) < ((2 ^ (m + 1) : Nat) : Int) := Int.ofNat_lt.2 n2
    rw [Int.natCast_pow, Int.toNat_of_nonneg (by omega)] at h
    exact h
  have p0 : (0 : Int) < 2 ^ m := Int.pow_pos (by decide)
  have q0 : (0 : Int) < 2 ^ (63 - m) := Int.pow_pos (by decide)
  have pq : (2 : Int) ^ m * 2 ^ (63 - m) = 9223372036854775808 := by
    rw [← Int.pow_add, show m + (63 - m) = 63 from by omega]; decide
  have ps : (2 : Int) ^ (m + 1) = 2 ^ m * 2 := Int.pow_succ _ _
  have hP : (2 : Int) ^ (leadS y).toNat = 2 ^ (63 - m) := by rw [e1]
  have hQ : (2 : Int) ^ (64 - leadS y).toNat = 2 ^ (m + 1) := by rw [e2]
  have hmod : hi * 2 ^ (63 - m) % 2 ^ (63 - m) = 0 := Int.mul_emod_left _ _
  generalize (2 : Int) ^ (63 - m) = P at *
  generalize hQv : (2 : Int) ^ (m + 1) = Q at *
  generalize (2 : Int) ^ m = R at *
  have hRP : R * P = 9223372036854775808 := pq
  have hQP : P * Q = 18446744073709551616 := by rw [ps, ← Int.mul_assoc, Int.mul_comm P R, hRP]; decide
  have yP0 : R * P ≤ y * P := Int.mul_le_mul_of_nonneg_right pm (by omega)
  have yP1 : (y + 1) * P ≤ Q * P := Int.mul_le_mul_of_nonneg_right (by omega) (by omega)
  have hiP : (hi + 1) * P ≤ y * P := Int.mul_le_mul_of_nonneg_right (by omega) (by omega)
  have hPQ : Q * P = 18446744073709551616 := by rw [Int.mul_comm]; exact hQP
  rw [Int.add_mul, Int.one_mul] at yP1 hiP
  have hiP0 : 0 ≤ hi * P := Int.mul_nonneg (by omega) (by omega)
  have dv := Int.emod_add_mul_ediv lo Q
  have dv0 := Int.emod_nonneg lo (show Q ≠ 0 by omega)
  have dv1 := Int.emod_lt_of_pos lo (show 0 < Q by omega)
  have dq0 : 0 ≤ lo / Q := Int.ediv_nonneg hl (by omega)
  have dq1 : lo / Q < P := Int.ediv_lt_of_lt_mul (by omega) (by omega)
  have hL : lo * P = lo / Q * 18446744073709551616 + lo % Q * P := by
    have : lo * P = (lo % Q + Q * (lo / Q)) * P := by rw [dv]
    rw [this, ← hPQ]; grind
  have rP0 : 0 ≤ lo % Q * P := Int.mul_nonneg dv0 (by omega)
  have rP1 : (lo % Q + 1) * P ≤ Q * P := Int.mul_le_mul_of_nonneg_right (by omega) (by omega)
  rw [Int.add_mul, Int.one_mul] at rP1
  have hLw : IntKind.u64.wrap (lo * P) = lo % Q * P := by
    rw [IntKind.wrap_u64, hL]
    generalize lo % Q * P = r at *
    omega
  have hor : bits .or .u64 (hi * P) (lo / Q) = hi * P + lo / Q := by
    refine join64 (63 - m) _ _ hiP0 ?_ (by omega) dq0 ?_ (by omega)
    · have e : (2 : Int) ^ (63 - m) = P := by rw [← hP, e1]
      rw [e]; exact hmod
    · have e : (2 : Int) ^ (63 - m) = P := by rw [← hP, e1]
      rw [e]; exact dq1
  have hN : (hi * P + lo / Q) * 18446744073709551616 + lo % Q * P = (hi * 18446744073709551616 + lo) * P := by
    rw [Int.add_mul (hi * 18446744073709551616), hL]; grind
  refine ⟨leadS y, P, Q, y * P, hi * P + lo / Q, lo % Q * P, rfl, by omega, by omega, by omega, hP, by omega, hQ, by omega, by omega, rfl, by omega, by omega, hiP0, by omega, by omega, hor, by omega, by omega, hLw, rP0, by omega, ?_, ?_⟩
  · rw [hN, Int.mul_ediv_mul_of_pos_left _ _ (by omega)]
  · rw [hN, Int.mul_comm _ P, Int.mul_comm y P, Int.mul_emod_mul_of_pos _ _ (by omega), Int.mul_ediv_cancel_left _ (by omega)]

set_option maxHeartbeats 4000000 in
theorem div64_hi (hi lo y : Int) (hh : 0 < hi) (hh' : hi < y) (hl : 0 ≤ lo) (hl' : lo < 18446744073709551616) (hy' : y < 18446744073709551616) (w : World) :
    Calls Try.prog 60 #[.int .u64 hi, .int .u64 lo, .int .u64 y] w fun e w' => e = .returned (.tuple #[.int .u64 ((hi * 18446744073709551616 + lo) / y), .int .u64 ((hi * 18446744073709551616 + lo) % y)]) ∧ w = w' := by
  obtain ⟨s, P, Q, Y, u, L, f1, s0, s1, f2, f3, f4, f5, P1, P2, f6, Y0, Y1, hp0, hp1, Q1, f7, u0, u1, f8, L0, L1, g1, g2⟩ := norm_facts hh hh' hl hl' hy'
  have m1 := mask32 Y (by omega) Y1
  have m2 := mask32 L L0 L1
  obtain ⟨D1, D1r⟩ := dig_start (v := L / 4294967296) u0 u1 (by omega) (by omega) Y0 Y1
  have qy0 : 0 ≤ u / (Y / 4294967296) * (Y / 4294967296) := Int.mul_nonneg (Int.ediv_nonneg u0 (by omega)) (by omega)
  have qy1 : u / (Y / 4294967296) * (Y / 4294967296) ≤ u := Int.ediv_mul_le _ (by omega)
  -- the two digits, and what each leaves over
  obtain ⟨b1, b2, b3, b4, b5⟩ := dig_bd (v := L / 4294967296) u0 u1 (by omega) (by omega) Y0
  obtain ⟨t1, t2⟩ := dig_two (v := L / 4294967296) (v' := L % 4294967296) u0 u1 (by omega) (by omega) (by omega) (by omega) Y0
  rw [show L / 4294967296 * 4294967296 + L % 4294967296 = L from by omega] at t1 t2
  obtain ⟨d1, hd1⟩ : ∃ d, d = (u * 4294967296 + L / 4294967296) / Y := ⟨_, rfl⟩
  obtain ⟨R1, hR1⟩ : ∃ d, d = (u * 4294967296 + L / 4294967296) % Y := ⟨_, rfl⟩
  rw [← hd1, ← hR1] at b3 t1
  rw [← hd1] at b1 b2
  rw [← hR1] at b4 b5 t2
  obtain ⟨c1, c2, c3, c4, c5⟩ := dig_bd (v := L % 4294967296) b4 b5 (by omega) (by omega) Y0
  obtain ⟨D2, D2r⟩ := dig_start (v := L % 4294967296) b4 b5 (by omega) (by omega) Y0 Y1
  have ry0 : 0 ≤ R1 / (Y / 4294967296) * (Y / 4294967296) := Int.mul_nonneg (Int.ediv_nonneg b4 (by omega)) (by omega)
  have ry1 : R1 / (Y / 4294967296) * (Y / 4294967296) ≤ R1 := Int.ediv_mul_le _ (by omega)
  obtain ⟨e1, he1⟩ : ∃ d, d = (R1 * 4294967296 + L % 4294967296) / Y := ⟨_, rfl⟩
  obtain ⟨R2, hR2⟩ : ∃ d, d = (R1 * 4294967296 + L % 4294967296) % Y := ⟨_, rfl⟩
  rw [← he1, ← hR2] at c3
  rw [← he1] at c1 c2 t1
  rw [← hR2] at c4 c5 t2
  have k1 : (hi * 18446744073709551616 + lo) / y = d1 * 4294967296 + e1 := by rw [← g1, t1]
  have k2 : (hi * 18446744073709551616 + lo) % y = R2 / P := by rw [← g2, t2]
  have w1 : IntKind.u64.wrap (IntKind.u64.wrap (IntKind.u64.wrap (u * 4294967296) + L / 4294967296) - IntKind.u64.wrap (d1 * Y)) = R1 := by
    simp only [IntKind.wrap_u64]; omega
  have w2 : IntKind.u64.wrap (IntKind.u64.wrap (IntKind.u64.wrap (R1 * 4294967296) + L % 4294967296) - IntKind.u64.wrap (e1 * Y)) = R2 := by
    simp only [IntKind.wrap_u64]; omega
  have R10 := b4; have R11 := b5
  have H1 := Lib.hid hd1; have E1 := Lib.hid he1; have K1 := Lib.hid k1; have K2 := Lib.hid k2
  clear hd1 he1 k1 k2 g1 g2 t1 t2 hR1 hR2 b3 c3 b4 b5
  go_enter Try.func60, Try.ntmps60
  go_wp2_with (go_at_call 63; refine (lead64 y (by omega) (by omega) _).mono ?_; rintro e w' ⟨rfl, rfl⟩)
  clear f1 f4 f5 f6 f7 f8 m1 m2
  go_loop [15, 16] (fun q r => ∃ a b : Int, q = .int .u64 a ∧ r = .int .u64 b ∧ Dig u (L / 4294967296) Y a b ∧ b < 4294967296) (fun q _ => (intOf q).toNat)
  case atStart => exact ⟨_, _, rfl, rfl, D1, D1r⟩
  case round =>
    obtain ⟨q, r, rfl, rfl, D, hr⟩ := hrel
    obtain ⟨d2, d4, d5⟩ : 0 ≤ r ∧ q ≤ 4294967297 ∧ 0 ≤ q := ⟨D.2.1, D.2.2.2.1, D.2.2.2.2⟩
    have z0 : 0 ≤ q * (Y % 4294967296) := Int.mul_nonneg d5 (by omega)
    rcases Int.lt_or_le q 4294967296 with hq | hq
    · have z1 : q * (Y % 4294967296) ≤ 4294967295 * (Y % 4294967296) := Int.mul_le_mul_of_nonneg_right (by omega) (by omega)
      rcases Int.lt_or_le (4294967296 * r + L / 4294967296) (q * (Y % 4294967296)) with hc | hc
      · obtain ⟨D', q1, q2⟩ := dig_dec u0 u1 (by omega) (by omega) Y0 D (.inr hc)
        rcases Int.lt_or_le (r + Y / 4294967296) 4294967296 with hb | hb
        · go_wp2_with fail
          exact ⟨⟨_, _, rfl, rfl, D', hb⟩, by simp [intOf]; omega⟩
        · obtain rfl : q = d1 + 1 := by have := dig_break (by omega) Y0 D' q1 hb; rw [← H1.out] at this; omega
          go_wp2_with fail
          clear D D' hc hb z0 z1 hq d4 d5 d2 q1 q2 hr
          go_loop [18, 16] (fun q r => ∃ a b : Int, q = .int .u64 a ∧ r = .int .u64 b ∧ Dig R1 (L % 4294967296) Y a b ∧ b < 4294967296) (fun q _ => (intOf q).toNat)
          case atStart => exact ⟨_, _, rfl, rfl, D2, D2r⟩
          case round =>
            obtain ⟨q, r, rfl, rfl, D, hr⟩ := hrel
            obtain ⟨d2, d4, d5⟩ : 0 ≤ r ∧ q ≤ 4294967297 ∧ 0 ≤ q := ⟨D.2.1, D.2.2.2.1, D.2.2.2.2⟩
            have z0 : 0 ≤ q * (Y % 4294967296) := Int.mul_nonneg d5 (by omega)
            rcases Int.lt_or_le q 4294967296 with hq | hq
            · have z1 : q * (Y % 4294967296) ≤ 4294967295 * (Y % 4294967296) := Int.mul_le_mul_of_nonneg_right (by omega) (by omega)
              rcases Int.lt_or_le (4294967296 * r + L % 4294967296) (q * (Y % 4294967296)) with hc | hc
              · obtain ⟨D', q1, q2⟩ := dig_dec R10 R11 (by omega) (by omega) Y0 D (.inr hc)
                rcases Int.lt_or_le (r + Y / 4294967296) 4294967296 with hb | hb
                · go_wp2_with fail
                  exact ⟨⟨_, _, rfl, rfl, D', hb⟩, by simp [intOf]; omega⟩
                · obtain rfl : q = e1 + 1 := by have := dig_break (by omega) Y0 D' q1 hb; rw [← E1.out] at this; omega
                  go_wp2_with fail
                  go_ret2
                  exact ⟨ret_uu (by rw [K1.out]) (by rw [K2.out]), rfl⟩
              · obtain rfl : q = e1 := by rw [E1.out]; exact dig_exit Y0 D hc
                go_wp2_with fail
                go_ret2
                exact ⟨ret_uu (by rw [K1.out]) (by rw [K2.out]), rfl⟩
            · obtain ⟨D', q1, q2⟩ := dig_dec R10 R11 (by omega) (by omega) Y0 D (.inl hq)
              rcases Int.lt_or_le (r + Y / 4294967296) 4294967296 with hb | hb
              · go_wp2_with fail
                exact ⟨⟨_, _, rfl, rfl, D', hb⟩, by simp [intOf]; omega⟩
              · obtain rfl : q = e1 + 1 := by have := dig_break (by omega) Y0 D' q1 hb; rw [← E1.out] at this; omega
                go_wp2_with fail
                go_ret2
                exact ⟨ret_uu (by rw [K1.out]) (by rw [K2.out]), rfl⟩
      · obtain rfl : q = d1 := by rw [H1.out]; exact dig_exit Y0 D hc
        go_wp2_with fail
        clear D hc z0 z1 hq d4 d5 d2 hr
        go_loop [18, 16] (fun q r => ∃ a b : Int, q = .int .u64 a ∧ r = .int .u64 b ∧ Dig R1 (L % 4294967296) Y a b ∧ b < 4294967296) (fun q _ => (intOf q).toNat)
        case atStart => exact ⟨_, _, rfl, rfl, D2, D2r⟩
        case round =>
          obtain ⟨q, r, rfl, rfl, D, hr⟩ := hrel
          obtain ⟨d2, d4, d5⟩ : 0 ≤ r ∧ q ≤ 4294967297 ∧ 0 ≤ q := ⟨D.2.1, D.2.2.2.1, D.2.2.2.2⟩
          have z0 : 0 ≤ q * (Y % 4294967296) := Int.mul_nonneg d5 (by omega)
          rcases Int.lt_or_le q 4294967296 with hq | hq
          · have z1 : q * (Y % 4294967296) ≤ 4294967295 * (Y % 4294967296) := Int.mul_le_mul_of_nonneg_right (by omega) (by omega)
            rcases Int.lt_or_le (4294967296 * r + L % 4294967296) (q * (Y % 4294967296)) with hc | hc
            · obtain ⟨D', q1, q2⟩ := dig_dec R10 R11 (by omega) (by omega) Y0 D (.inr hc)
              rcases Int.lt_or_le (r + Y / 4294967296) 4294967296 with hb | hb
              · go_wp2_with fail
                exact ⟨⟨_, _, rfl, rfl, D', hb⟩, by simp [intOf]; omega⟩
              · obtain rfl : q = e1 + 1 := by have := dig_break (by omega) Y0 D' q1 hb; rw [← E1.out] at this; omega
                go_wp2_with fail
                go_ret2
                exact ⟨ret_uu (by rw [K1.out]) (by rw [K2.out]), rfl⟩
            · obtain rfl : q = e1 := by rw [E1.out]; exact dig_exit Y0 D hc
              go_wp2_with fail
              go_ret2
              exact ⟨ret_uu (by rw [K1.out]) (by rw [K2.out]), rfl⟩
          · obtain ⟨D', q1, q2⟩ := dig_dec R10 R11 (by omega) (by omega) Y0 D (.inl hq)
            rcases Int.lt_or_le (r + Y / 4294967296) 4294967296 with hb | hb
            · go_wp2_with fail
              exact ⟨⟨_, _, rfl, rfl, D', hb⟩, by simp [intOf]; omega⟩
            · obtain rfl : q = e1 + 1 := by have := dig_break (by omega) Y0 D' q1 hb; rw [← E1.out] at this; omega
              go_wp2_with fail
              go_ret2
              exact ⟨ret_uu (by rw [K1.out]) (by rw [K2.out]), rfl⟩
    · obtain ⟨D', q1, q2⟩ := dig_dec u0 u1 (by omega) (by omega) Y0 D (.inl hq)
      rcases Int.lt_or_le (r + Y / 4294967296) 4294967296 with hb | hb
      · go_wp2_with fail
        exact ⟨⟨_, _, rfl, rfl, D', hb⟩, by simp [intOf]; omega⟩
      · obtain rfl : q = d1 + 1 := by have := dig_break (by omega) Y0 D' q1 hb; rw [← H1.out] at this; omega
        go_wp2_with fail
        clear D D' hb z0 hq d4 d5 d2 q1 q2 hr
        go_loop [18, 16] (fun q r => ∃ a b : Int, q = .int .u64 a ∧ r = .int .u64 b ∧ Dig R1 (L % 4294967296) Y a b ∧ b < 4294967296) (fun q _ => (intOf q).toNat)
        case atStart => exact ⟨_, _, rfl, rfl, D2, D2r⟩
        case round =>
          obtain ⟨q, r, rfl, rfl, D, hr⟩ := hrel
          obtain ⟨d2, d4, d5⟩ : 0 ≤ r ∧ q ≤ 4294967297 ∧ 0 ≤ q := ⟨D.2.1, D.2.2.2.1, D.2.2.2.2⟩
          have z0 : 0 ≤ q * (Y % 4294967296) := Int.mul_nonneg d5 (by omega)
          rcases Int.lt_or_le q 4294967296 with hq | hq
          · have z1 : q * (Y % 4294967296) ≤ 4294967295 * (Y % 4294967296) := Int.mul_le_mul_of_nonneg_right (by omega) (by omega)
            rcases Int.lt_or_le (4294967296 * r + L % 4294967296) (q * (Y % 4294967296)) with hc | hc
            · obtain ⟨D', q1, q2⟩ := dig_dec R10 R11 (by omega) (by omega) Y0 D (.inr hc)
              rcases Int.lt_or_le (r + Y / 4294967296) 4294967296 with hb | hb
              · go_wp2_with fail
                exact ⟨⟨_, _, rfl, rfl, D', hb⟩, by simp [intOf]; omega⟩
              · obtain rfl : q = e1 + 1 := by have := dig_break (by omega) Y0 D' q1 hb; rw [← E1.out] at this; omega
                go_wp2_with fail
                go_ret2
                exact ⟨ret_uu (by rw [K1.out]) (by rw [K2.out]), rfl⟩
            · obtain rfl : q = e1 := by rw [E1.out]; exact dig_exit Y0 D hc
              go_wp2_with fail
              go_ret2
              exact ⟨ret_uu (by rw [K1.out]) (by rw [K2.out]), rfl⟩
          · obtain ⟨D', q1, q2⟩ := dig_dec R10 R11 (by omega) (by omega) Y0 D (.inl hq)
            rcases Int.lt_or_le (r + Y / 4294967296) 4294967296 with hb | hb
            · go_wp2_with fail
              exact ⟨⟨_, _, rfl, rfl, D', hb⟩, by simp [intOf]; omega⟩
            · obtain rfl : q = e1 + 1 := by have := dig_break (by omega) Y0 D' q1 hb; rw [← E1.out] at this; omega
              go_wp2_with fail
              go_ret2
              exact ⟨ret_uu (by rw [K1.out]) (by rw [K2.out]), rfl⟩

/-- math/bits.Div64, the high word below the divisor. -/
theorem div64 (hi lo y : Int) (hh : 0 ≤ hi) (hh' : hi < y) (hl : 0 ≤ lo) (hl' : lo < 18446744073709551616) (hy' : y < 18446744073709551616) (w : World) :
    Calls Try.prog 60 #[.int .u64 hi, .int .u64 lo, .int .u64 y] w fun e w' => e = .returned (.tuple #[.int .u64 ((hi * 18446744073709551616 + lo) / y), .int .u64 ((hi * 18446744073709551616 + lo) % y)]) ∧ ∃ n, w' = w.drewN n := by
  rcases Int.lt_or_le 0 hi with h | h
  · exact (div64_hi hi lo y h hh' hl hl' hy' w).mono fun _ _ ⟨a, b⟩ => ⟨a, 0, b ▸ rfl⟩
  · obtain rfl : hi = 0 := by omega
    rw [Int.zero_mul, Int.zero_add]
    exact div64_lo lo y hl hl' hh' hy' w
end Go.Proofs.Ytlhjacgocggbcaa
