/- The long division by digits of 32 bits, in plain numbers. Nothing of the program is in sight. -/
import Derived.Lib.BitFns
set_option linter.unusedVariables false
namespace Go.Proofs.Ytlhjacgocggbcaa

/-- The borrow of a difference, under a name. -/
def bor (x y : Int) : Int := if x < y then 1 else 0
/-- How many zeros lead. -/
def leadS (x : Int) : Int := 64 - (Lib.bitLen x.toNat : Int)

/-! ### One digit of a long division, of base 2^32: u is what is left over, v the next digit, Y the divisor, normed. -/
/-- The digit is guessed as q, r is what the guess leaves over. -/
def Dig (u v Y q r : Int) : Prop := u = q * (Y / 4294967296) + r ∧ 0 ≤ r ∧ (u * 4294967296 + v) / Y ≤ q ∧ q ≤ 4294967297 ∧ 0 ≤ q

theorem dig_start {u v Y : Int} (u0 : 0 ≤ u) (uY : u < Y) (v0 : 0 ≤ v) (v1 : v < 4294967296) (Y0 : 9223372036854775808 ≤ Y) (Y1 : Y < 18446744073709551616) :
    Dig u v Y (u / (Y / 4294967296)) (u - u / (Y / 4294967296) * (Y / 4294967296)) ∧ u - u / (Y / 4294967296) * (Y / 4294967296) < 4294967296 := by
  have hY : Y = Y / 4294967296 * 4294967296 + Y % 4294967296 := by omega
  have y0 : 2147483648 ≤ Y / 4294967296 := by omega
  have y1 : Y / 4294967296 < 4294967296 := by omega
  have z0 : 0 ≤ Y % 4294967296 := by omega
  have z1 : Y % 4294967296 < 4294967296 := by omega
  unfold Dig
  generalize Y / 4294967296 = y at *
  generalize Y % 4294967296 = z at *
  have h1 := Int.emod_add_mul_ediv u y
  have h2 := Int.emod_nonneg u (show y ≠ 0 by omega)
  have h3 := Int.emod_lt_of_pos u (show 0 < y by omega)
  have q0 : 0 ≤ u / y := Int.ediv_nonneg u0 (by omega)
  have q1 : u / y ≤ 4294967297 := by
    have : u / y < 4294967298 := Int.ediv_lt_of_lt_mul (by omega) (by omega)
    omega
  have e : u - u / y * y = u % y := by rw [Int.mul_comm]; omega
  rw [e]
  have hc : u / y * y = y * (u / y) := Int.mul_comm _ _
  refine ⟨⟨by omega, h2, ?_, q1, q0⟩, by omega⟩
  have h4 : (u * 4294967296 + v) / Y < u / y + 1 := by
    refine Int.ediv_lt_of_lt_mul (by omega) ?_
    have h5 : (u / y + 1) * Y = (y * (u / y)) * 4294967296 + y * 4294967296 + (u / y + 1) * z := by
      rw [hY]; grind
    have h6 : 0 ≤ (u / y + 1) * z := Int.mul_nonneg (by omega) z0
    rw [h5]
    generalize y * (u / y) = m at *
    omega
  omega

theorem dig_dec {u v Y q r : Int} (u0 : 0 ≤ u) (uY : u < Y) (v0 : 0 ≤ v) (v1 : v < 4294967296) (Y0 : 9223372036854775808 ≤ Y)
    (D : Dig u v Y q r) (h : 4294967296 ≤ q ∨ 4294967296 * r + v < q * (Y % 4294967296)) : Dig u v Y (q - 1) (r + Y / 4294967296) ∧ q - 1 ≤ 4294967296 ∧ 1 ≤ q := by
  obtain ⟨d1, d2, d3, d4, d5⟩ := D
  have hY : Y = Y / 4294967296 * 4294967296 + Y % 4294967296 := by omega
  have z0 : 0 ≤ Y % 4294967296 := by omega
  have y0 : 0 ≤ Y / 4294967296 := by omega
  have hq : q * Y = (q * (Y / 4294967296)) * 4294967296 + q * (Y % 4294967296) := by
    have : q * Y = q * (Y / 4294967296 * 4294967296 + Y % 4294967296) := by rw [← hY]
    rw [this]; grind
  have hlt : u * 4294967296 + v < q * Y := by
    rcases h with h | h
    · have h1 : 4294967296 * Y ≤ q * Y := Int.mul_le_mul_of_nonneg_right h (by omega)
      omega
    · rw [hq]
      generalize q * (Y / 4294967296) = m at *
      generalize q * (Y % 4294967296) = n at *
      omega
  have hd : (u * 4294967296 + v) / Y < q := Int.ediv_lt_of_lt_mul (by omega) hlt
  have hd0 : 0 ≤ (u * 4294967296 + v) / Y := Int.ediv_nonneg (by omega) (by omega)
  refine ⟨⟨?_, by omega, by omega, by omega, by omega⟩, by omega, by omega⟩
  rw [Int.sub_mul]; omega

theorem dig_exit {u v Y q r : Int} (Y0 : 9223372036854775808 ≤ Y) (D : Dig u v Y q r) (h : q * (Y % 4294967296) ≤ 4294967296 * r + v) : q = (u * 4294967296 + v) / Y := by
  obtain ⟨d1, d2, d3, d4, d5⟩ := D
  have hY : Y = Y / 4294967296 * 4294967296 + Y % 4294967296 := by omega
  have hq : q * Y = (q * (Y / 4294967296)) * 4294967296 + q * (Y % 4294967296) := by
    have : q * Y = q * (Y / 4294967296 * 4294967296 + Y % 4294967296) := by rw [← hY]
    rw [this]; grind
  have hle : q ≤ (u * 4294967296 + v) / Y := by
    refine Int.le_ediv_of_mul_le (by omega) ?_
    rw [hq]
    generalize q * (Y / 4294967296) = m at *
    generalize q * (Y % 4294967296) = n at *
    omega
  omega

theorem dig_break {u v Y q r : Int} (v0 : 0 ≤ v) (Y0 : 9223372036854775808 ≤ Y) (D : Dig u v Y q r) (hq : q ≤ 4294967296) (hr : 4294967296 ≤ r) : q = (u * 4294967296 + v) / Y := by
  refine dig_exit Y0 D ?_
  obtain ⟨d1, d2, d3, d4, d5⟩ := D
  have h1 : q * (Y % 4294967296) ≤ 4294967296 * (Y % 4294967296) := Int.mul_le_mul_of_nonneg_right hq (by omega)
  omega

/-- What a digit is, and what it leaves over. -/
theorem dig_bd {u v Y : Int} (u0 : 0 ≤ u) (uY : u < Y) (v0 : 0 ≤ v) (v1 : v < 4294967296) (Y0 : 9223372036854775808 ≤ Y) :
    0 ≤ (u * 4294967296 + v) / Y ∧ (u * 4294967296 + v) / Y < 4294967296 ∧ u * 4294967296 + v - (u * 4294967296 + v) / Y * Y = (u * 4294967296 + v) % Y ∧ 0 ≤ (u * 4294967296 + v) % Y ∧ (u * 4294967296 + v) % Y < Y := by
  refine ⟨Int.ediv_nonneg (by omega) (by omega), Int.ediv_lt_of_lt_mul (by omega) (by omega), ?_, Int.emod_nonneg _ (by omega), Int.emod_lt_of_pos _ (by omega)⟩
  have h1 := Int.emod_add_mul_ediv (u * 4294967296 + v) Y
  have h2 : (u * 4294967296 + v) / Y * Y = Y * ((u * 4294967296 + v) / Y) := Int.mul_comm _ _
  omega

/-- Two digits make the quotient. -/
theorem dig_two {u v v' Y : Int} (u0 : 0 ≤ u) (uY : u < Y) (v0 : 0 ≤ v) (v1 : v < 4294967296) (w0 : 0 ≤ v') (w1 : v' < 4294967296) (Y0 : 9223372036854775808 ≤ Y) :
    (u * 18446744073709551616 + (v * 4294967296 + v')) / Y = (u * 4294967296 + v) / Y * 4294967296 + ((u * 4294967296 + v) % Y * 4294967296 + v') / Y ∧
    (u * 18446744073709551616 + (v * 4294967296 + v')) % Y = ((u * 4294967296 + v) % Y * 4294967296 + v') % Y := by
  have h1 := Int.emod_add_mul_ediv (u * 4294967296 + v) Y
  generalize (u * 4294967296 + v) / Y = q at *
  generalize (u * 4294967296 + v) % Y = r at *
  have e : u * 18446744073709551616 + (v * 4294967296 + v') = (r * 4294967296 + v') + (q * 4294967296) * Y := by
    have : u * 18446744073709551616 + (v * 4294967296 + v') = (u * 4294967296 + v) * 4294967296 + v' := by omega
    rw [this, ← h1]; grind
  rw [e]
  exact ⟨by rw [Int.add_mul_ediv_right _ _ (by omega)]; omega, by rw [Int.add_mul_emod_self_right]⟩

/-- The norming shift. -/
theorem bitLen_norm : ∀ (k x : Nat), x < 2 ^ k → k ≤ 64 → x ≠ 0 → 2 ^ (Lib.bitLen x - 1) ≤ x ∧ x < 2 ^ Lib.bitLen x ∧ 1 ≤ Lib.bitLen x ∧ Lib.bitLen x ≤ k
  | 0, x, h, _, h0 => by simp at h; omega
  | k + 1, x, h, hk, h0 => by
    have h64 : x < 2 ^ 64 := Nat.lt_of_lt_of_le h (Nat.pow_le_pow_right (by omega) hk)
    rw [Lib.bitLen_half x h0 h64]
    by_cases h1 : x / 2 = 0
    · have : x = 1 := by omega
      subst this
      have e : Lib.bitLen (1 / 2) = 0 := by decide
      rw [e]; exact ⟨by decide, by decide, by omega, by omega⟩
    · obtain ⟨a, b, c, d⟩ := bitLen_norm k (x / 2) (by rw [Nat.pow_succ] at h; omega) (by omega) h1
      generalize Lib.bitLen (x / 2) = n at *
      obtain ⟨m, rfl⟩ : ∃ m, n = m + 1 := ⟨n - 1, by omega⟩
      rw [show 1 + (m + 1) - 1 = m + 1 from by omega, show 1 + (m + 1) = m + 2 from by omega]
      rw [show m + 1 - 1 = m from by omega] at a
      rw [Nat.pow_succ] at b ⊢
      refine ⟨by omega, ?_, by omega, by omega⟩
      rw [Nat.pow_succ, Nat.pow_succ]; omega
end Go.Proofs.Ytlhjacgocggbcaa
