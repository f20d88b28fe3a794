/- The document's division of wide numbers, bit by bit, in plain numbers. -/
set_option linter.unusedVariables false
namespace Go.Proofs.Ytlhjacgocggbcaa
/-- The document's division, bit by bit: k rounds are done. h: what the high word leaves over; q, r: the quotient and what is left over so far; l: the bits to come. -/
structure BitDiv (h b d : Int) (k : Nat) (q r l : Int) : Prop where
  r0 : 0 ≤ r
  r1 : r < d
  q0 : 0 ≤ q
  q1 : q < 2 ^ k
  main : ∃ R : Int, (2 : Int) ^ k * R = 18446744073709551616 ∧ 1 ≤ R ∧ q * d + r = h * 2 ^ k + b / R ∧ l = b % R * 2 ^ k
theorem BitDiv.start {h b d : Int} (h0 : 0 ≤ h) (hd : h < d) (b0 : 0 ≤ b) (b1 : b < 18446744073709551616) : BitDiv h b d 0 0 h b :=
  ⟨h0, hd, by decide, by decide, 18446744073709551616, by decide, by decide, by simp; omega, by simp; omega⟩
theorem BitDiv.l_bd {h b d : Int} {k : Nat} {q r l : Int} (D : BitDiv h b d k q r l) : 0 ≤ l ∧ l < 18446744073709551616 := by
  obtain ⟨r0, r1, q0, q1, R, e1, e2, e3, e4⟩ := D
  have p0 : (0 : Int) < 2 ^ k := Int.pow_pos (by decide)
  have m0 := Int.emod_nonneg b (show R ≠ 0 by omega)
  have m1 := Int.emod_lt_of_pos b (show 0 < R by omega)
  generalize (2 : Int) ^ k = P at *
  have n0 : 0 ≤ b % R * P := Int.mul_nonneg m0 (by omega)
  have n1 : (b % R + 1) * P ≤ R * P := Int.mul_le_mul_of_nonneg_right (by omega) (by omega)
  rw [Int.mul_comm R P, e1, Int.add_mul, Int.one_mul] at n1
  omega
theorem BitDiv.q_bd {h b d : Int} {k : Nat} {q r l : Int} (D : BitDiv h b d k q r l) (hk : k ≤ 63) : 0 ≤ q ∧ q < 9223372036854775808 := by
  refine ⟨D.q0, Int.lt_of_lt_of_le D.q1 ?_⟩
  have : (2 : Nat) ^ k ≤ 2 ^ 63 := Nat.pow_le_pow_right (by omega) hk
  have h2 : ((2 ^ k : Nat) : Int) ≤ ((2 ^ 63 : Nat) : Int) := Int.ofNat_le.2 this
  rw [Int.natCast_pow] at h2
  exact h2
theorem BitDiv.step {h b d : Int} {k : Nat} {q r l : Int} (D : BitDiv h b d k q r l) (hk : k ≤ 63) :
    (2 * r + l / 9223372036854775808 < d → BitDiv h b d (k + 1) (2 * q) (2 * r + l / 9223372036854775808) (2 * l % 18446744073709551616)) ∧
    (d ≤ 2 * r + l / 9223372036854775808 → BitDiv h b d (k + 1) (2 * q + 1) (2 * r + l / 9223372036854775808 - d) (2 * l % 18446744073709551616)) ∧
    0 ≤ l / 9223372036854775808 ∧ l / 9223372036854775808 ≤ 1 := by
  obtain ⟨l0, l1⟩ := D.l_bd
  obtain ⟨r0, r1, q0, q1, R, e1, e2, e3, e4⟩ := D
  have p0 : (0 : Int) < 2 ^ k := Int.pow_pos (by decide)
  have hS : (2 : Int) ^ k * 2 ^ (63 - k) = 9223372036854775808 := by
    rw [← Int.pow_add, show k + (63 - k) = 63 from by omega]; decide
  have hR : R = 2 * 2 ^ (63 - k) := by
    have h1 : (2 : Int) ^ k * R = 2 ^ k * (2 * 2 ^ (63 - k)) := by rw [e1, Int.mul_left_comm, hS]; decide
    exact Int.eq_of_mul_eq_mul_left (by omega) h1
  have s0 : (0 : Int) < 2 ^ (63 - k) := Int.pow_pos (by decide)
  have hk1 : (2 : Int) ^ (k + 1) = 2 ^ k * 2 := Int.pow_succ _ _
  generalize (2 : Int) ^ (63 - k) = S at *
  rw [show (2 : Int) ^ k * 2 = 2 * 2 ^ k from Int.mul_comm _ _] at hk1
  have key : ∃ bit m : Int, 0 ≤ bit ∧ bit ≤ 1 ∧ 0 ≤ m ∧ m < S ∧ b / S = 2 * (b / R) + bit ∧ b % S = m ∧ l = bit * 9223372036854775808 + m * 2 ^ k := by
    have f1 := Int.emod_add_mul_ediv b R
    have f2 := Int.emod_nonneg b (show R ≠ 0 by omega)
    have f3 := Int.emod_lt_of_pos b (show 0 < R by omega)
    have g1 := Int.emod_add_mul_ediv (b % R) S
    have g2 := Int.emod_nonneg (b % R) (show S ≠ 0 by omega)
    have g3 := Int.emod_lt_of_pos (b % R) s0
    have g4 : 0 ≤ b % R / S := Int.ediv_nonneg f2 (by omega)
    have g5 : b % R / S < 2 := Int.ediv_lt_of_lt_mul s0 (by omega)
    have hb : b = b % R % S + (2 * (b / R) + b % R / S) * S := by
      have : b = (b % R % S + S * (b % R / S)) + 2 * S * (b / R) := by rw [g1, ← hR, f1]
      rw [Int.add_mul]
      rw [show 2 * (b / R) * S = 2 * S * (b / R) from by grind, show b % R / S * S = S * (b % R / S) from Int.mul_comm _ _]
      omega
    refine ⟨b % R / S, b % R % S, g4, by omega, g2, g3, ?_, ?_, ?_⟩
    · have h1 : b / S = (b % R % S + (2 * (b / R) + b % R / S) * S) / S := by rw [← hb]
      rw [h1, Int.add_mul_ediv_right _ _ (by omega), Int.ediv_eq_zero_of_lt g2 g3]; omega
    · have h1 : b % S = (b % R % S + (2 * (b / R) + b % R / S) * S) % S := by rw [← hb]
      rw [h1, Int.add_mul_emod_self_right, Int.emod_eq_of_lt g2 g3]
    · rw [e4, ← hS]
      have : b % R * 2 ^ k = (b % R % S + S * (b % R / S)) * 2 ^ k := by rw [g1]
      rw [this]; grind
  obtain ⟨bit, m, t0, t1, m0, m1, k1, k2, k3⟩ := key
  have mp0 : 0 ≤ m * 2 ^ k := Int.mul_nonneg m0 (by omega)
  have mp1 : (m + 1) * 2 ^ k ≤ S * 2 ^ k := Int.mul_le_mul_of_nonneg_right (by omega) (by omega)
  rw [Int.add_mul, Int.one_mul, Int.mul_comm S, hS] at mp1
  have hl : l / 9223372036854775808 = bit := by rw [k3]; generalize m * 2 ^ k = x at *; omega
  have hl2 : 2 * l % 18446744073709551616 = m * (2 * 2 ^ k) := by
    rw [show m * (2 * 2 ^ k) = 2 * (m * 2 ^ k) from by grind, k3]; generalize m * 2 ^ k = x at *; omega
  have hq : (2 * q) * d + (2 * r + bit) = h * (2 * 2 ^ k) + b / S := by
    rw [k1, show (2 * q) * d = 2 * (q * d) from by grind, show h * (2 * 2 ^ k) = 2 * (h * 2 ^ k) from by grind]
    omega
  have hPS : 2 * 2 ^ k * S = 18446744073709551616 := by rw [Int.mul_assoc, hS]; decide
  rw [hl]
  refine ⟨fun hlt => ⟨by omega, hlt, by omega, by rw [hk1]; omega, S, by rw [hk1]; exact hPS, by omega, by rw [hk1]; exact hq, by rw [hk1, k2]; exact hl2⟩,
    fun hle => ⟨by omega, by omega, by omega, by rw [hk1]; omega, S, by rw [hk1]; exact hPS, by omega, ?_, by rw [hk1, k2]; exact hl2⟩, t0, t1⟩
  rw [hk1, ← hq, Int.add_mul, Int.one_mul]; omega
theorem BitDiv.fin {h b d : Int} {q r l : Int} (D : BitDiv h b d 64 q r l) (d0 : 0 < d) : q = (h * 18446744073709551616 + b) / d ∧ r = (h * 18446744073709551616 + b) % d := by
  obtain ⟨r0, r1, q0, q1, R, e1, e2, e3, e4⟩ := D
  have e : (2 : Int) ^ 64 = 18446744073709551616 := by decide
  rw [e] at e1 e3
  have : R = 1 := by omega
  subst this
  rw [Int.ediv_one] at e3
  rw [← e3, Int.add_comm]
  exact ⟨by rw [Int.add_mul_ediv_right _ _ (by omega), Int.ediv_eq_zero_of_lt r0 r1]; omega, by rw [Int.add_mul_emod_self_right, Int.emod_eq_of_lt r0 r1]⟩
end Go.Proofs.Ytlhjacgocggbcaa
