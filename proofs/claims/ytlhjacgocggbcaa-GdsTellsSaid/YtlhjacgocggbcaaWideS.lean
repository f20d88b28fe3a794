/- Plain numbers of the layer wide: numbers of 128 bits as one Int, and the long division by digits of 32 bits. Nothing of the program is in sight. -/
set_option linter.unusedVariables false
namespace Go.Proofs.Ytlhjacgocggbcaa

/-- The number of two halves, and the halves of a number. -/
def wN (h l : Int) : Int := h * 18446744073709551616 + l
def wHi (n : Int) : Int := n / 18446744073709551616 % 18446744073709551616
def wLo (n : Int) : Int := n % 18446744073709551616
/-- Whether a sum goes over, a difference under. -/
def wOver (n : Int) : Bool := decide (340282366920938463463374607431768211456 ≤ n)
def wUnder (n : Int) : Bool := decide (n < 0)
def cmpS (x y : Int) : Int := if x = y then 0 else if x < y then -1 else 1
def divR (x d : Int) : Int := if d = 0 then 0 else x % d
def divE (d : Int) : Int := if d = 0 then 20 else 0
def wShr (x n : Int) : Int := x / 2 ^ n.toNat

theorem wHi_bd (n : Int) : 0 ≤ wHi n ∧ wHi n < 18446744073709551616 := by unfold wHi; omega
theorem wLo_bd (n : Int) : 0 ≤ wLo n ∧ wLo n < 18446744073709551616 := by unfold wLo; omega
theorem wN_bd {h l : Int} (h0 : 0 ≤ h) (h1 : h < 18446744073709551616) (l0 : 0 ≤ l) (l1 : l < 18446744073709551616) :
    0 ≤ wN h l ∧ wN h l < 340282366920938463463374607431768211456 := by unfold wN; omega
theorem wN_halves (n : Int) : wN (wHi n) (wLo n) = n % 340282366920938463463374607431768211456 := by unfold wN wHi wLo; omega
theorem wN_of {n : Int} (h0 : 0 ≤ n) (h1 : n < 340282366920938463463374607431768211456) : wN (wHi n) (wLo n) = n := by unfold wN wHi wLo; omega
theorem wHi_wN {h l : Int} (h0 : 0 ≤ h) (h1 : h < 18446744073709551616) (l0 : 0 ≤ l) (l1 : l < 18446744073709551616) : wHi (wN h l) = h := by unfold wN wHi; omega
theorem wLo_wN {h l : Int} (l0 : 0 ≤ l) (l1 : l < 18446744073709551616) : wLo (wN h l) = l := by unfold wN wLo; omega
theorem wHi_mod (n : Int) : wHi (n % 340282366920938463463374607431768211456) = wHi n := by unfold wHi; omega
theorem wLo_mod (n : Int) : wLo (n % 340282366920938463463374607431768211456) = wLo n := by unfold wLo; omega
theorem wN_inj {a b c d : Int} (a0 : 0 ≤ a) (b0 : 0 ≤ b) (b1 : b < 18446744073709551616) (c0 : 0 ≤ c) (d0 : 0 ≤ d) (d1 : d < 18446744073709551616) :
    wN a b = wN c d ↔ a = c ∧ b = d := by unfold wN; omega


/-! What the walks leave. -/
theorem mul_bd {a b : Int} (a0 : 0 ≤ a) (a1 : a < 18446744073709551616) (b0 : 0 ≤ b) (b1 : b < 18446744073709551616) : 0 ≤ a * b ∧ a * b ≤ 340282366920938463426481119284349108225 := by
  have h0 := Int.mul_nonneg a0 b0
  have h1 : a * b ≤ 18446744073709551615 * b := Int.mul_le_mul_of_nonneg_right (by omega) b0
  omega
theorem mul_hi {a b : Int} (a0 : 0 ≤ a) (a1 : a < 18446744073709551616) (b0 : 0 ≤ b) (b1 : b < 18446744073709551616) : a * b / 18446744073709551616 = wHi (a * b) := by
  have := mul_bd a0 a1 b0 b1
  unfold wHi; generalize a * b = p at *; omega
theorem add_hi {a b c d : Int} (b0 : 0 ≤ b) (b1 : b < 18446744073709551616) (d0 : 0 ≤ d) (d1 : d < 18446744073709551616) :
    (a + c + (b + d) / 18446744073709551616) % 18446744073709551616 = wHi (wN a b + wN c d) := by unfold wHi wN; omega
theorem add_lo {a b c d : Int} : (b + d) % 18446744073709551616 = wLo (wN a b + wN c d) := by unfold wLo wN; omega
theorem add_over {a b c d : Int} (a0 : 0 ≤ a) (b0 : 0 ≤ b) (b1 : b < 18446744073709551616) (c0 : 0 ≤ c) (d0 : 0 ≤ d) (d1 : d < 18446744073709551616) :
    ((a + c + (b + d) / 18446744073709551616) / 18446744073709551616 != 0) = wOver (wN a b + wN c d) := by
  unfold wOver wN; rw [Bool.eq_iff_iff]; simp only [bne_iff_ne, ne_eq, decide_eq_true_eq]; omega
theorem cmpS_eq {x y : Int} (h : x = y) : cmpS x y = 0 := by unfold cmpS; rw [if_pos h]
theorem cmpS_lt {x y : Int} (h : x < y) : cmpS x y = -1 := by unfold cmpS; rw [if_neg (by omega), if_pos h]
theorem cmpS_gt {x y : Int} (h : y < x) : cmpS x y = 1 := by unfold cmpS; rw [if_neg (by omega), if_neg (by omega)]
theorem cmpS_bd (x y : Int) : -1 ≤ cmpS x y ∧ cmpS x y ≤ 1 := by unfold cmpS; repeat' split <;> omega
/-- A long division by two words. -/
theorem div_words {h l d : Int} (h0 : 0 ≤ h) (h1 : h < 18446744073709551616) (l0 : 0 ≤ l) (l1 : l < 18446744073709551616) (d0 : 0 < d) (d1 : d < 18446744073709551616) :
    h / d = wHi (wN h l / d) ∧ (h % d * 18446744073709551616 + l) / d = wLo (wN h l / d) ∧ (h % d * 18446744073709551616 + l) % d = wN h l % d ∧ 0 ≤ h / d ∧ h / d < 18446744073709551616 ∧ 0 ≤ h % d ∧ h % d < d := by
  have e1 := Int.emod_add_mul_ediv h d
  have e2 := Int.emod_nonneg h (show d ≠ 0 by omega)
  have e3 := Int.emod_lt_of_pos h d0
  have e4 : 0 ≤ h / d := Int.ediv_nonneg h0 (by omega)
  have e5 : h / d ≤ h := Int.ediv_le_self _ h0
  have e6 : wN h l = (h % d * 18446744073709551616 + l) + (h / d * 18446744073709551616) * d := by
    unfold wN
    have : h * 18446744073709551616 + l = (h % d + d * (h / d)) * 18446744073709551616 + l := by rw [e1]
    rw [this]; grind
  have e7 : wN h l / d = (h % d * 18446744073709551616 + l) / d + h / d * 18446744073709551616 := by rw [e6, Int.add_mul_ediv_right _ _ (by omega)]
  have e8 : 0 ≤ (h % d * 18446744073709551616 + l) / d := Int.ediv_nonneg (by omega) (by omega)
  have e9 : (h % d * 18446744073709551616 + l) / d < 18446744073709551616 := Int.ediv_lt_of_lt_mul (by omega) (by omega)
  have e10 : wN h l % d = (h % d * 18446744073709551616 + l) % d := by rw [e6, Int.add_mul_emod_self_right]
  refine ⟨?_, ?_, e10.symm, e4, by omega, e2, e3⟩
  · rw [e7]; unfold wHi; omega
  · rw [e7]; unfold wLo; omega
theorem wShr_zero (x : Int) : wShr x 0 = x := by unfold wShr; simp
theorem wShr_add (x : Int) (m n : Int) (hm : 0 ≤ m) (hn : 0 ≤ n) : wShr x (m + n) = wShr (wShr x m) n := by
  unfold wShr; rw [Int.toNat_add hm hn, Int.pow_add, Int.ediv_ediv_of_nonneg (Int.pow_nonneg (by decide))]
theorem wShr_nonneg {x n : Int} (h : 0 ≤ x) : 0 ≤ wShr x n := by unfold wShr; exact Int.ediv_nonneg h (Int.pow_nonneg (by decide))
theorem wShr_le {x n : Int} (h : 0 ≤ x) : wShr x n ≤ x := by unfold wShr; exact Int.ediv_le_self _ h
theorem wShr_of_zero (n : Int) : wShr 0 n = 0 := by unfold wShr; simp
theorem wShr_word (x : Int) (k : Nat) : wShr x (64 * (k + 1 : Nat)) = wShr x (64 * k) / 18446744073709551616 := by
  rw [show (64 * ((k + 1 : Nat) : Int)) = 64 * k + 64 from by omega, wShr_add _ _ _ (by omega) (by omega)]
  rfl
theorem halves_word {x : Int} (h0 : 0 ≤ x) (h1 : x < 340282366920938463463374607431768211456) : wHi (x / 18446744073709551616) = 0 ∧ wLo (x / 18446744073709551616) = wHi x := by unfold wHi wLo; omega
theorem halves_zero {x : Int} (h0 : 0 ≤ x) (h1 : x < 340282366920938463463374607431768211456) (h : wHi x = 0) (l : wLo x = 0) : x = 0 := by unfold wHi wLo at *; omega
/-- The shift by less than a word. -/
theorem shr_part {z P Q : Int} (z0 : 0 ≤ z) (z1 : z < 340282366920938463463374607431768211456) (P1 : 1 ≤ P) (Q1 : 1 ≤ Q) (hPQ : P * Q = 18446744073709551616) :
    wHi z / P = wHi (z / P) ∧ wLo z / P + wHi z * Q % 18446744073709551616 = wLo (z / P) ∧ 0 ≤ wLo z / P ∧ wLo z / P < Q ∧ wHi z * Q % 18446744073709551616 % Q = 0 := by
  have hz : z = wHi z * 18446744073709551616 + wLo z := by unfold wHi wLo; omega
  obtain ⟨h0, h1⟩ := wHi_bd z
  obtain ⟨l0, l1⟩ := wLo_bd z
  generalize wHi z = h at *
  generalize wLo z = l at *
  have lq0 : 0 ≤ l / P := Int.ediv_nonneg l0 (by omega)
  have lq1 : l / P < Q := Int.ediv_lt_of_lt_mul (by omega) (by rw [Int.mul_comm, hPQ]; exact l1)
  have e1 : z / P = l / P + h * Q := by
    have : z = l + (h * Q) * P := by rw [hz, ← hPQ]; grind
    rw [this, Int.add_mul_ediv_right _ _ (by omega)]
  have hd := Int.emod_add_mul_ediv h P
  have hd0 := Int.emod_nonneg h (show P ≠ 0 by omega)
  have hd1 := Int.emod_lt_of_pos h (show 0 < P by omega)
  have e2 : h * Q = h / P * 18446744073709551616 + h % P * Q := by
    have : h * Q = (h % P + P * (h / P)) * Q := by rw [hd]
    rw [this, ← hPQ]; grind
  have r0 : 0 ≤ h % P * Q := Int.mul_nonneg hd0 (by omega)
  have r1 : (h % P + 1) * Q ≤ P * Q := Int.mul_le_mul_of_nonneg_right (by omega) (by omega)
  rw [Int.add_mul, Int.one_mul, hPQ] at r1
  have e3 : h * Q % 18446744073709551616 = h % P * Q := by rw [e2]; generalize h % P * Q = r at *; omega
  have q0 : 0 ≤ h / P := Int.ediv_nonneg h0 (by omega)
  have q1 : h / P ≤ h := Int.ediv_le_self _ h0
  refine ⟨?_, ?_, lq0, lq1, ?_⟩
  · rw [e1, e2]; unfold wHi; generalize h % P * Q = r at *; omega
  · rw [e3, e1, e2]; unfold wLo; generalize h % P * Q = r at *; omega
  · rw [e3]; exact Int.mul_emod_left _ _

theorem shr_cases {a b n P : Int} (a0 : 0 ≤ a) (a1 : a < 18446744073709551616) (b0 : 0 ≤ b) (b1 : b < 18446744073709551616) (n0 : 0 ≤ n) (hP : (2 : Int) ^ (n % 64).toNat = P) :
    (n < 64 → wShr (wN a b) n = wN a b / P) ∧ (64 ≤ n → n < 128 → wShr (wN a b) n = wN 0 a / P) ∧ (128 ≤ n → wShr (wN a b) n = 0) := by
  have e : ∀ k : Int, 0 ≤ k → n = 64 * k + n % 64 → wShr (wN a b) n = wShr (wN a b) (64 * k) / P := by
    intro k hk h
    have := wShr_add (wN a b) (64 * k) (n % 64) (by omega) (by omega)
    rw [← h] at this
    rw [this]; unfold wShr; rw [hP]
  have w1 : wShr (wN a b) (64 * (1 : Int)) = a := by
    have h := wShr_word (wN a b) 0
    rw [show ((0 : Nat) : Int) = 0 from rfl, Int.mul_zero, wShr_zero] at h
    have : wShr (wN a b) (64 * (1 : Int)) = wN a b / 18446744073709551616 := h
    rw [this]; unfold wN; omega
  have w2 : wShr (wN a b) (64 * (2 : Int)) = 0 := by
    have h := wShr_word (wN a b) 1
    have h1 : wShr (wN a b) (64 * ((1 : Nat) : Int)) = a := w1
    rw [h1] at h
    have : wShr (wN a b) (64 * (2 : Int)) = a / 18446744073709551616 := h
    rw [this]; omega
  refine ⟨fun h => ?_, fun h h' => ?_, fun h => ?_⟩
  · have := e 0 (by omega) (by omega)
    rw [Int.mul_zero, wShr_zero] at this
    exact this
  · have := e 1 (by omega) (by omega)
    rw [w1] at this
    rw [this]; unfold wN; rw [Int.zero_mul, Int.zero_add]
  · have := wShr_add (wN a b) 128 (n - 128) (by omega) (by omega)
    rw [show (128 : Int) + (n - 128) = n from by omega] at this
    rw [this, show (128 : Int) = 64 * 2 from rfl, w2, wShr_of_zero]
theorem pow_split {m : Int} (h0 : 0 ≤ m) (h1 : m < 64) : (2 : Int) ^ m.toNat * 2 ^ (64 - m).toNat = 18446744073709551616 := by
  rw [← Int.pow_add, show m.toNat + (64 - m).toNat = 64 from by omega]; decide
end Go.Proofs.Ytlhjacgocggbcaa
