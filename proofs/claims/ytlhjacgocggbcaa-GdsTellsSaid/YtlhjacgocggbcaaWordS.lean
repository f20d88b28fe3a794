/- Plain numbers: what the functions of the layer word come to, over Int. Nothing of the program is in sight. -/
set_option linter.unusedVariables false
namespace Go.Proofs.Ytlhjacgocggbcaa

/-- A sum, held. -/
def addS (a b : Int) : Int := if a + b < 18446744073709551616 then a + b else 18446744073709551615
/-- A difference, 0 if it is below that. -/
def subS (a b : Int) : Int := if a < b then 0 else a - b
/-- A product, held. -/
def mulS (a b : Int) : Int := if a * b < 18446744073709551616 then a * b else 18446744073709551615
def plusV (a b : Int) : Int := if a + b < 18446744073709551616 then a + b else 0
def plusE (a b : Int) : Int := if a + b < 18446744073709551616 then 0 else 10
def timesV (a b : Int) : Int := if a * b < 18446744073709551616 then a * b else 0
def timesE (a b : Int) : Int := if a * b < 18446744073709551616 then 0 else 10
def shlS (a n : Int) : Int := if a * 2 ^ n.toNat < 18446744073709551616 then a * 2 ^ n.toNat else 18446744073709551615
def shrS (a n : Int) : Int := a / 2 ^ n.toNat
def ofS (n : Int) : Int := if n < 0 then 0 else n
def intS (a : Int) : Int := if 9223372036854775807 < a then 9223372036854775807 else a

theorem addS_bd (a b : Int) (ha : 0 ≤ a) (hb : 0 ≤ b) : 0 ≤ addS a b ∧ addS a b < 18446744073709551616 := by unfold addS; split <;> omega
theorem subS_bd (a b : Int) (ha' : a < 18446744073709551616) (hb : 0 ≤ b) : 0 ≤ subS a b ∧ subS a b < 18446744073709551616 := by unfold subS; split <;> omega
theorem mulS_bd (a b : Int) (ha : 0 ≤ a) (hb : 0 ≤ b) : 0 ≤ mulS a b ∧ mulS a b < 18446744073709551616 := by
  have := Int.mul_nonneg ha hb
  unfold mulS; split <;> omega
theorem plusV_bd (a b : Int) (ha : 0 ≤ a) (hb : 0 ≤ b) : 0 ≤ plusV a b ∧ plusV a b < 18446744073709551616 := by unfold plusV; split <;> omega
theorem timesV_bd (a b : Int) (ha : 0 ≤ a) (hb : 0 ≤ b) : 0 ≤ timesV a b ∧ timesV a b < 18446744073709551616 := by
  have := Int.mul_nonneg ha hb
  unfold timesV; split <;> omega
theorem shlS_bd (a n : Int) (ha : 0 ≤ a) : 0 ≤ shlS a n ∧ shlS a n < 18446744073709551616 := by
  have : (0 : Int) ≤ a * 2 ^ n.toNat := Int.mul_nonneg ha (Int.pow_nonneg (by decide))
  unfold shlS; split <;> omega
theorem shrS_bd (a n : Int) (ha : 0 ≤ a) (ha' : a < 18446744073709551616) : 0 ≤ shrS a n ∧ shrS a n < 18446744073709551616 := by
  unfold shrS
  exact ⟨Int.ediv_nonneg ha (Int.pow_nonneg (by decide)), Int.lt_of_le_of_lt (Int.ediv_le_self _ ha) ha'⟩
theorem ofS_bd (n : Int) (h' : n < 9223372036854775808) : 0 ≤ ofS n ∧ ofS n < 18446744073709551616 := by unfold ofS; split <;> omega
theorem intS_bd (a : Int) (h : 0 ≤ a) : 0 ≤ intS a ∧ intS a < 9223372036854775808 := by unfold intS; split <;> omega

/-! What the walks leave. -/
theorem addS_lt {a b : Int} (h : (a + b) / 18446744073709551616 = 0) : (a + b) % 18446744073709551616 = addS a b := by
  unfold addS; split <;> omega
theorem addS_ge {a b : Int} (h : ¬ (a + b) / 18446744073709551616 = 0) (ha : 0 ≤ a) (hb : 0 ≤ b) : 18446744073709551615 = addS a b := by
  unfold addS; split <;> omega
theorem mulS_lt {a b : Int} (h : a * b / 18446744073709551616 = 0) : a * b % 18446744073709551616 = mulS a b := by
  unfold mulS; generalize a * b = p at *; split <;> omega
theorem mulS_ge {a b : Int} (h : ¬ a * b / 18446744073709551616 = 0) (ha : 0 ≤ a) (hb : 0 ≤ b) : 18446744073709551615 = mulS a b := by
  have := Int.mul_nonneg ha hb
  unfold mulS; generalize a * b = p at *; split <;> omega
theorem shl_le {a : Int} {k : Nat} (ha : 0 ≤ a) : a ≤ 18446744073709551615 / 2 ^ k ↔ a * 2 ^ k < 18446744073709551616 := by
  have hp : (0 : Int) < 2 ^ k := Int.pow_pos (by decide)
  rw [Int.le_ediv_iff_mul_le hp]; omega
/-- The shifts of the program go by at most 64. -/
theorem shl_cap {a : Int} {n : Int} (ha : 0 ≤ a) : (a * 2 ^ min n.toNat 64 < 18446744073709551616 ↔ a * 2 ^ n.toNat < 18446744073709551616) := by
  rcases Nat.lt_or_ge n.toNat 64 with h | h
  · rw [Nat.min_eq_left (by omega)]
  · rw [Nat.min_eq_right h]
    have hp : (2 : Int) ^ 64 ≤ 2 ^ n.toNat := by
      have := Nat.pow_le_pow_right (n := 2) (by omega) h
      exact_mod_cast this
    have e : (2 : Int) ^ 64 = 18446744073709551616 := by decide
    rw [e] at hp ⊢
    by_cases h0 : a = 0
    · subst h0; simp
    · have h1 : (1 : Int) ≤ a := by omega
      have h2 : a * 18446744073709551616 ≤ a * 2 ^ n.toNat := Int.mul_le_mul_of_nonneg_left hp ha
      constructor
      · omega
      · omega
theorem shlS_hi {a n : Int} (ha : 0 ≤ a) (h : 18446744073709551615 / 2 ^ min n.toNat 64 < a) : 18446744073709551615 = shlS a n := by
  unfold shlS
  rw [if_neg]
  rw [← shl_cap ha, ← shl_le ha]; omega
theorem shlS_lo {a n : Int} (ha : 0 ≤ a) (h : a ≤ 18446744073709551615 / 2 ^ min n.toNat 64) : a * 2 ^ min n.toNat 64 % 18446744073709551616 = shlS a n := by
  have h1 := (shl_le ha).1 h
  have h2 := (shl_cap (n := n) ha).1 h1
  unfold shlS
  rw [if_pos h2]
  have h0 : (0 : Int) ≤ a * 2 ^ min n.toNat 64 := Int.mul_nonneg ha (Int.pow_nonneg (by decide))
  rw [Int.emod_eq_of_lt h0 h1]
  rcases Nat.lt_or_ge n.toNat 64 with h | h
  · rw [Nat.min_eq_left (by omega)]
  · by_cases hz : a = 0
    · subst hz; simp
    · exfalso
      rw [Nat.min_eq_right h] at h1
      have e : (2 : Int) ^ 64 = 18446744073709551616 := by decide
      rw [e] at h1; omega
theorem shrS_cap {a n : Int} (ha : 0 ≤ a) (ha' : a < 18446744073709551616) : a / 2 ^ min n.toNat 64 = shrS a n := by
  unfold shrS
  rcases Nat.lt_or_ge n.toNat 64 with h | h
  · rw [Nat.min_eq_left (by omega)]
  · rw [Nat.min_eq_right h]
    have hp : (2 : Int) ^ 64 ≤ 2 ^ n.toNat := by
      have := Nat.pow_le_pow_right (n := 2) (by omega) h
      exact_mod_cast this
    have e : (2 : Int) ^ 64 = 18446744073709551616 := by decide
    rw [e] at hp ⊢
    rw [Int.ediv_eq_zero_of_lt ha ha', Int.ediv_eq_zero_of_lt ha (by omega)]

/-! The document's shifts: one step at a time. -/
theorem shlS_zero {a : Int} (ha' : a < 18446744073709551616) : shlS a 0 = a := by unfold shlS; simp; omega
theorem shlS_step {a : Int} (k : Nat) (ha : 0 ≤ a) : shlS a (k + 1 : Nat) = addS (shlS a k) (shlS a k) := by
  have h0 : (0 : Int) ≤ a * 2 ^ k := Int.mul_nonneg ha (Int.pow_nonneg (by decide))
  have e : a * (2 : Int) ^ (k + 1) = 2 * (a * 2 ^ k) := by rw [Int.pow_succ]; rw [← Int.mul_assoc, Int.mul_comm]
  unfold shlS addS
  simp only [Int.toNat_natCast]
  rw [e]
  generalize a * (2 : Int) ^ k = p at *
  split <;> split <;> omega
theorem shlS_all {a n : Int} (ha : 0 ≤ a) (hn : 64 ≤ n) : shlS a n = shlS a 64 := by
  have h1 := shl_cap (a := a) (n := n) ha
  rw [Nat.min_eq_right (by omega)] at h1
  unfold shlS
  rw [show (64 : Int).toNat = 64 from rfl]
  by_cases h : a * 2 ^ n.toNat < 18446744073709551616
  · have h2 := h1.2 h
    rw [if_pos h, if_pos h2]
    have e : (2 : Int) ^ 64 = 18446744073709551616 := by decide
    rw [e] at h2
    have : a = 0 := by omega
    subst this; simp
  · rw [if_neg h, if_neg (fun h2 => h (h1.1 h2))]
theorem shrS_zero {a : Int} : shrS a 0 = a := by unfold shrS; simp
theorem shrS_step {a : Int} (k : Nat) : shrS a (k + 1 : Nat) = shrS a k / 2 := by
  unfold shrS
  simp only [Int.toNat_natCast]
  rw [Int.pow_succ, Int.ediv_ediv_of_nonneg (Int.pow_nonneg (by decide))]
theorem shrS_all {a n : Int} (ha : 0 ≤ a) (ha' : a < 18446744073709551616) (hn : 64 ≤ n) : shrS a n = shrS a 64 := by
  rw [← shrS_cap ha ha', Nat.min_eq_right (by omega)]; rfl

/-! The laws' own facts. -/
theorem pow_bd (k : Nat) (h : k < 64) : (0 : Int) < 2 ^ k ∧ (2 : Int) ^ k < 18446744073709551616 := by
  refine ⟨Int.pow_pos (by decide), ?_⟩
  have h1 : 2 ^ k < 2 ^ 64 := Nat.pow_lt_pow_right (by omega) h
  have h2 : ((2 ^ k : Nat) : Int) < ((2 ^ 64 : Nat) : Int) := Int.ofNat_lt.2 h1
  rw [Int.natCast_pow] at h2
  exact h2
theorem back_shl {a n : Int} (ha : 0 ≤ a) (h : ¬ shlS a n = 18446744073709551615) : shrS (shlS a n) n = a := by
  unfold shlS at *
  split at h
  · rw [if_pos ‹_›]
    unfold shrS
    rw [Int.mul_ediv_cancel _ (by have : (0 : Int) < 2 ^ n.toNat := Int.pow_pos (by decide); omega)]
  · exact absurd rfl h
theorem back_shr {a n : Int} (ha : 0 ≤ a) (ha' : a < 18446744073709551616) : shlS (shrS a n) n ≤ a := by
  have h : a / 2 ^ n.toNat * 2 ^ n.toNat ≤ a := by
    have := Int.ediv_mul_le a (b := 2 ^ n.toNat) (by have : (0 : Int) < 2 ^ n.toNat := Int.pow_pos (by decide); omega)
    exact this
  unfold shlS shrS
  rw [if_pos (by omega)]
  exact h
theorem addS_comm (a b : Int) : addS a b = addS b a := by unfold addS; rw [Int.add_comm]
theorem mulS_comm (a b : Int) : mulS a b = mulS b a := by unfold mulS; rw [Int.mul_comm]
theorem addS_assoc (a b c : Int) (ha : 0 ≤ a) (hb : 0 ≤ b) (hc : 0 ≤ c) : addS (addS a b) c = addS a (addS b c) := by unfold addS; repeat' split <;> omega
theorem addS_mono {a b c : Int} (h : a ≤ b) : addS a c ≤ addS b c := by unfold addS; repeat' split <;> omega
theorem mulS_mono {a b c : Int} (h : a ≤ b) (hc : 0 ≤ c) : mulS a c ≤ mulS b c := by
  have := Int.mul_le_mul_of_nonneg_right h hc
  unfold mulS; repeat' split <;> omega
theorem subS_mono {a b c : Int} (h : a ≤ b) : subS a c ≤ subS b c := by unfold subS; repeat' split <;> omega
theorem subS_anti {a b c : Int} (h : a ≤ b) : subS c b ≤ subS c a := by unfold subS; repeat' split <;> omega
theorem shrS_shrS (a n m : Int) (hn : 0 ≤ n) (hm : 0 ≤ m) : shrS (shrS a n) m = shrS a (n + m) := by
  unfold shrS
  rw [Int.toNat_add hn hm, Int.pow_add, Int.ediv_ediv_of_nonneg (Int.pow_nonneg (by decide))]
theorem shlS_shlS (a n m : Int) (ha : 0 ≤ a) (hn : 0 ≤ n) (hm : 0 ≤ m) : shlS (shlS a n) m = shlS a (n + m) := by
  have p1 : (1 : Int) ≤ 2 ^ n.toNat := by have : (0 : Int) < 2 ^ n.toNat := Int.pow_pos (by decide); omega
  have p2 : (1 : Int) ≤ 2 ^ m.toNat := by have : (0 : Int) < 2 ^ m.toNat := Int.pow_pos (by decide); omega
  unfold shlS
  rw [Int.toNat_add hn hm, Int.pow_add, ← Int.mul_assoc]
  generalize a * 2 ^ n.toNat = p at *
  generalize (2 : Int) ^ m.toNat = q at *
  by_cases h : p < 18446744073709551616
  · rw [if_pos h]
  · rw [if_neg h]
    have h1 : 18446744073709551616 * q ≤ p * q := Int.mul_le_mul_of_nonneg_right (by omega) (by omega)
    have h2 : 18446744073709551616 * 1 ≤ 18446744073709551616 * q := Int.mul_le_mul_of_nonneg_left p2 (by decide)
    rw [if_neg (show ¬ p * q < 18446744073709551616 by omega)]
    by_cases h3 : (18446744073709551615 : Int) * q < 18446744073709551616
    · rw [if_pos h3]
      have : q = 1 := by omega
      rw [this]; rfl
    · rw [if_neg h3]
theorem shlS_mulS (a n : Int) : shlS a n = mulS a (2 ^ n.toNat) := rfl
theorem kinds_back {a : Int} (h : a ≤ 9223372036854775807) (h0 : 0 ≤ a) : ofS (intS a) = a := by unfold ofS intS; repeat' split <;> omega
theorem kinds_top {a : Int} (h : 9223372036854775807 < a) : intS a = 9223372036854775807 := by unfold intS; rw [if_pos h]
theorem kinds_forth {i : Int} (h' : i < 9223372036854775808) : intS (ofS i) = max i 0 := by unfold ofS intS; repeat' split <;> omega
theorem intS_mono {a b : Int} (h : a ≤ b) : intS a ≤ intS b := by unfold intS; repeat' split <;> omega
end Go.Proofs.Ytlhjacgocggbcaa
