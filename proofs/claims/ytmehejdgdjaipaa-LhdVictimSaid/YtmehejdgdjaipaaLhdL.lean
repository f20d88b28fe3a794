/- Plain laws of the layer lhd: densities, counts, halves. Nothing of the program is in sight. -/
import Derived.Test.YtmehejdgdjaipaaLhdS
set_option linter.unusedVariables false
namespace Go.Proofs.Ytmehejdgdjaipaa

theorem addS_mono2 {a b c d : Int} (h : a ≤ b) (h' : c ≤ d) : addS a c ≤ addS b d := by unfold addS; repeat' split <;> omega
theorem le_shlS {a : Int} (n : Int) (a0 : 0 ≤ a) (a1 : a < 18446744073709551616) : a ≤ shlS a n := by
  have p : (1 : Int) ≤ 2 ^ n.toNat := by have : (0 : Int) < 2 ^ n.toNat := Int.pow_pos (by decide); omega
  have := Int.mul_le_mul_of_nonneg_left p a0
  unfold shlS; split <;> omega
theorem le_addS {a b : Int} (a1 : a < 18446744073709551616) (b0 : 0 ≤ b) : a ≤ addS a b := by unfold addS; split <;> omega
theorem hitsD_bd {R : Nat → Int} (h : IsR R) (k : Nat) : ∀ n, 0 ≤ hitsD R k n ∧ hitsD R k n < 18446744073709551616
  | 0 => by unfold hitsD; omega
  | n + 1 => addS_bd _ _ (hitsD_bd h k n).1 (h _).1
theorem both_bd {R : Nat → Int} (h : IsR R) (i : Nat) : 0 ≤ addS (R i) (R (i + 8)) ∧ addS (R i) (R (i + 8)) < 18446744073709551616 := addS_bd _ _ (h _).1 (h _).1
theorem allD_bd {R : Nat → Int} (h : IsR R) (k : Nat) : ∀ n, 0 ≤ allD R k n ∧ allD R k n < 18446744073709551616
  | 0 => by unfold allD; omega
  | n + 1 => addS_bd _ _ (allD_bd h k n).1 (shlS_bd _ _ (both_bd h _).1).1
theorem hits_le_all {R : Nat → Int} (h : IsR R) (k : Nat) : ∀ n, hitsD R k n ≤ allD R k n
  | 0 => by unfold hitsD allD; omega
  | n + 1 => by
    have b := both_bd h (k + n)
    refine addS_mono2 (hits_le_all h k n) (Int.le_trans (le_addS (h (k + n)).2 (h (k + n + 8)).1) (le_shlS _ b.1 b.2))
theorem fx_of {a b : Int} (a0 : 0 ≤ a) (hab : a ≤ b) (hb : 0 < b) : fxV a b = a * 4294967296 / b ∧ 0 ≤ a * 4294967296 / b ∧ a * 4294967296 / b ≤ 4294967296 := by
  have h1 : a * 4294967296 / b ≤ 4294967296 := by
    have : a * 4294967296 / b ≤ b * 4294967296 / b := Int.ediv_le_ediv hb (by omega)
    rw [Int.mul_ediv_cancel_left _ (by omega)] at this
    exact this
  exact ⟨partV_lt hb (by omega), Int.ediv_nonneg (by omega) (by omega), h1⟩
theorem densR_bd {R : Nat → Int} (h : IsR R) (k : Nat) : 0 ≤ densR R k ∧ densR R k ≤ 4294967296 := by
  have a := allD_bd h k (8 - k)
  have b := hits_le_all h k (8 - k)
  have c := hitsD_bd h k (8 - k)
  unfold densR
  split
  · omega
  · obtain ⟨e, e0, e1⟩ := fx_of c.1 b (by omega)
    rw [e]; exact ⟨e0, e1⟩
theorem hitsD_congr {R S : Nat → Int} (k : Nat) : ∀ n, (∀ i, k ≤ i → i < k + n → R i = S i) → hitsD R k n = hitsD S k n
  | 0, _ => rfl
  | n + 1, h => by unfold hitsD; rw [hitsD_congr k n (fun i hi hj => h i hi (by omega)), h (k + n) (by omega) (by omega)]
theorem allD_congr {R S : Nat → Int} (k : Nat) : ∀ n, (∀ i, k ≤ i → i < k + n → R i = S i ∧ R (i + 8) = S (i + 8)) → allD R k n = allD S k n
  | 0, _ => rfl
  | n + 1, h => by unfold allD; rw [allD_congr k n (fun i hi hj => h i hi (by omega)), (h (k + n) (by omega) (by omega)).1, (h (k + n) (by omega) (by omega)).2]
theorem densR_congr {R S : Nat → Int} {k : Nat} (hk : k < 8) (h : ∀ i, k ≤ i → i < 8 → R i = S i ∧ R (i + 8) = S (i + 8)) : densR R k = densR S k := by
  unfold densR
  rw [allD_congr k (8 - k) (fun i hi hj => h i hi (by omega)), hitsD_congr k (8 - k) (fun i hi hj => (h i hi (by omega)).1)]
theorem shlS_zero_iff {a : Int} (n : Int) (a0 : 0 ≤ a) (a1 : a < 18446744073709551616) : shlS a n = 0 ↔ a = 0 := by
  have := le_shlS n a0 a1
  constructor
  · omega
  · rintro rfl; unfold shlS; simp
theorem addS_zero_iff {a b : Int} (a0 : 0 ≤ a) (b0 : 0 ≤ b) : addS a b = 0 ↔ a = 0 ∧ b = 0 := by unfold addS; split <;> omega
theorem allD_zero {R : Nat → Int} (h : IsR R) (k : Nat) : ∀ n, allD R k n = 0 ↔ ∀ i, k ≤ i → i < k + n → R i = 0 ∧ R (i + 8) = 0
  | 0 => by unfold allD; simp; omega
  | n + 1 => by
    have b := both_bd h (k + n)
    unfold allD
    rw [addS_zero_iff (allD_bd h k n).1 (shlS_bd _ _ b.1).1, allD_zero h k n, shlS_zero_iff _ b.1 b.2, addS_zero_iff (h _).1 (h _).1]
    constructor
    · rintro ⟨h1, h2⟩ i hi hj
      rcases Nat.lt_or_ge i (k + n) with hl | hl
      · exact h1 i hi hl
      · obtain rfl : i = k + n := by omega
        exact h2
    · intro h1
      exact ⟨fun i hi hj => h1 i hi (by omega), h1 (k + n) (by omega) (by omega)⟩
theorem hitsD_zero {R : Nat → Int} (k : Nat) : ∀ n, (∀ i, k ≤ i → i < k + n → R i = 0) → hitsD R k n = 0
  | 0, _ => rfl
  | n + 1, h => by unfold hitsD; rw [hitsD_zero k n (fun i hi hj => h i hi (by omega)), h (k + n) (by omega) (by omega)]; rfl
/-- Nothing at all. -/
theorem densR_none {R : Nat → Int} (h : IsR R) {k : Nat} (hk : k < 8) (hz : ∀ i, k ≤ i → i < 8 → R i = 0 ∧ R (i + 8) = 0) : densR R k = 4294967296 := by
  unfold densR; rw [if_pos ((allD_zero h k _).2 (fun i hi hj => hz i hi (by omega)))]
/-- Without hits: 0 just if there are evictions. -/
theorem densR_lost {R : Nat → Int} (h : IsR R) {k : Nat} (hk : k < 8) (hz : ∀ i, i < 8 → R i = 0) : densR R k = 0 ↔ ∃ i, k ≤ i ∧ i < 8 ∧ R (i + 8) ≠ 0 := by
  unfold densR
  rw [hitsD_zero k _ (fun i hi hj => hz i (by omega))]
  have e : allD R k (8 - k) = 0 ↔ ∀ i, k ≤ i → i < 8 → R (i + 8) = 0 := by
    rw [allD_zero h]
    constructor
    · intro h1 i hi hj; exact (h1 i hi (by omega)).2
    · intro h1 i hi hj; exact ⟨hz i (by omega), h1 i hi (by omega)⟩
  have a := allD_bd h k (8 - k)
  by_cases hc : allD R k (8 - k) = 0
  · rw [if_pos hc]
    have h1 := e.1 hc
    constructor
    · omega
    · rintro ⟨i, hi, hj, hn⟩; exact absurd (h1 i hi hj) hn
  · rw [if_neg hc]
    obtain ⟨e1, _, _⟩ := fx_of (a := 0) (b := allD R k (8 - k)) (by omega) (by omega) (by omega)
    rw [e1]
    simp only [Int.zero_mul, Int.zero_ediv, true_iff]
    refine Classical.byContradiction fun hn => hc (e.2 fun i hi hj => Classical.byContradiction fun h2 => hn ⟨i, hi, hj, h2⟩)
/-- Hits at the age 0 alone. -/
theorem densR_first {R : Nat → Int} (h : IsR R) (hz : ∀ i, 0 < i → i < 16 → R i = 0) : densR R 0 = 4294967296 := by
  have e : ∀ i, i < 7 → R (i + 1) = 0 := fun i hi => hz _ (by omega) (by omega)
  have h0 := h 0
  have hh : ∀ n, hitsD R 0 (n + 1) = R 0 ∨ 7 < n
    := fun n => by
      induction n with
      | zero => left; show addS 0 (R (0 + 0)) = R 0; unfold addS; simp; omega
      | succ n ih =>
        rcases ih with ih | ih
        · by_cases hn : n < 7
          · left; show addS (hitsD R 0 (n + 1)) (R (0 + (n + 1))) = _; rw [ih, Nat.zero_add, e n hn]; unfold addS; split <;> omega
          · right; omega
        · right; omega
  have ha : ∀ n, allD R 0 (n + 1) = R 0 ∨ 7 < n
    := fun n => by
      induction n with
      | zero =>
        left
        show addS 0 (shlS (addS (R (0 + 0)) (R (0 + 0 + 8))) ((0 + 0 : Nat) : Int)) = _
        rw [hz (0 + 0 + 8) (by omega) (by omega)]
        have e1 : addS (R (0 + 0)) 0 = R 0 := by unfold addS; simp; omega
        rw [e1]
        have e2 : shlS (R 0) ((0 + 0 : Nat) : Int) = R 0 := shlS_zero h0.2
        rw [e2]; unfold addS; split <;> omega
      | succ n ih =>
        rcases ih with ih | ih
        · by_cases hn : n < 7
          · left
            show addS (allD R 0 (n + 1)) (shlS (addS (R (0 + (n + 1))) (R (0 + (n + 1) + 8))) ((0 + (n + 1) : Nat) : Int)) = _
            rw [ih, hz (0 + (n + 1) + 8) (by omega) (by omega), Nat.zero_add, e n hn]
            have e2 : shlS (addS 0 0) ((n + 1 : Nat) : Int) = 0 := (shlS_zero_iff _ (by decide) (by decide)).2 rfl
            rw [e2]; unfold addS; split <;> omega
          · right; omega
        · right; omega
  have h8 := (hh 7).resolve_right (by omega)
  have a8 := (ha 7).resolve_right (by omega)
  unfold densR
  rw [show 8 - 0 = 7 + 1 from rfl, h8, a8]
  split
  · rfl
  · obtain ⟨e1, _, _⟩ := fx_of (a := R 0) (b := R 0) (by omega) (by omega) (by omega)
    rw [e1, Int.mul_ediv_cancel_left _ (by omega)]

/-! Counts that are not held: sums as they are. -/
def sumH (R : Nat → Int) (k : Nat) : Nat → Int
  | 0 => 0
  | n + 1 => sumH R k n + R (k + n)
def sumA (R : Nat → Int) (k : Nat) : Nat → Int
  | 0 => 0
  | n + 1 => sumA R k n + (R (k + n) + R (k + n + 8)) * 2 ^ (k + n)
/-- Counts of at most 2^51. -/
def Few (R : Nat → Int) : Prop := ∀ i, i < 16 → 0 ≤ R i ∧ R i ≤ 2251799813685248
theorem pow_7 {i : Nat} (h : i < 8) : (1 : Int) ≤ 2 ^ i ∧ (2 : Int) ^ i ≤ 128 := by
  rcases i with _ | _ | _ | _ | _ | _ | _ | _ | i <;> first | (exfalso; omega) | decide
theorem term_bd {R : Nat → Int} (h : Few R) {i : Nat} (hi : i < 8) : 0 ≤ (R i + R (i + 8)) * 2 ^ i ∧ (R i + R (i + 8)) * 2 ^ i ≤ 576460752303423488 := by
  obtain ⟨p0, p1⟩ := pow_7 hi
  have a := h i (by omega)
  have b := h (i + 8) (by omega)
  refine ⟨Int.mul_nonneg (by omega) (by omega), ?_⟩
  have h1 : (R i + R (i + 8)) * 2 ^ i ≤ (R i + R (i + 8)) * 128 := Int.mul_le_mul_of_nonneg_left p1 (by omega)
  omega
theorem sums_bd {R : Nat → Int} (h : Few R) (k : Nat) : ∀ n, k + n ≤ 8 → 0 ≤ sumH R k n ∧ sumH R k n ≤ n * 2251799813685248 ∧ 0 ≤ sumA R k n ∧ sumA R k n ≤ n * 576460752303423488
  | 0, _ => by unfold sumH sumA; simp
  | n + 1, hn => by
    obtain ⟨a, b, c, d⟩ := sums_bd h k n (by omega)
    have e := h (k + n) (by omega)
    have f := term_bd h (i := k + n) (by omega)
    unfold sumH sumA
    have : ((n + 1 : Nat) : Int) = (n : Int) + 1 := by omega
    rw [this]
    refine ⟨by omega, by omega, by omega, by omega⟩
theorem exact_D {R : Nat → Int} (h : Few R) (k : Nat) : ∀ n, k + n ≤ 8 → hitsD R k n = sumH R k n ∧ allD R k n = sumA R k n
  | 0, _ => ⟨rfl, rfl⟩
  | n + 1, hn => by
    obtain ⟨a, b⟩ := exact_D h k n (by omega)
    obtain ⟨c, d, e, f⟩ := sums_bd h k (n + 1) hn
    have g := h (k + n) (by omega)
    have g8 := h (k + n + 8) (by omega)
    have t := term_bd h (i := k + n) (by omega)
    have hN : ((n + 1 : Nat) : Int) ≤ 8 := by omega
    have e1 : addS (R (k + n)) (R (k + n + 8)) = R (k + n) + R (k + n + 8) := by unfold addS; rw [if_pos (by omega)]
    have e2 : shlS (R (k + n) + R (k + n + 8)) ((k + n : Nat) : Int) = (R (k + n) + R (k + n + 8)) * 2 ^ (k + n) := by
      unfold shlS; rw [Int.toNat_natCast, if_pos (by omega)]
    have sH : sumH R k (n + 1) = sumH R k n + R (k + n) := rfl
    have sA : sumA R k (n + 1) = sumA R k n + (R (k + n) + R (k + n + 8)) * 2 ^ (k + n) := rfl
    have hD : hitsD R k (n + 1) = addS (hitsD R k n) (R (k + n)) := rfl
    have aD : allD R k (n + 1) = addS (allD R k n) (shlS (addS (R (k + n)) (R (k + n + 8))) ((k + n : Nat) : Int)) := rfl
    rw [sH] at c d
    rw [sA] at e f
    rw [sH, sA, hD, aD, a, b, e1, e2]
    unfold addS
    rw [if_pos (by omega), if_pos (by omega)]
    exact ⟨rfl, rfl⟩
theorem sum_le {R : Nat → Int} (h : Few R) (k : Nat) : ∀ n, k + n ≤ 8 → sumH R k n ≤ sumA R k n
  | 0, _ => by unfold sumH sumA; omega
  | n + 1, hn => by
    have ih := sum_le h k n (by omega)
    obtain ⟨p0, _⟩ := pow_7 (i := k + n) (by omega)
    have a := h (k + n) (by omega)
    have b := h (k + n + 8) (by omega)
    have h1 : (R (k + n) + R (k + n + 8)) * 1 ≤ (R (k + n) + R (k + n + 8)) * 2 ^ (k + n) := Int.mul_le_mul_of_nonneg_left p0 (by omega)
    unfold sumH sumA; omega
theorem densR_few {R : Nat → Int} (h : Few R) {k : Nat} (hk : k < 8) : densR R k = if sumA R k (8 - k) = 0 then 4294967296 else sumH R k (8 - k) * 4294967296 / sumA R k (8 - k) := by
  obtain ⟨a, b⟩ := exact_D h k (8 - k) (by omega)
  obtain ⟨c, d, e, f⟩ := sums_bd h k (8 - k) (by omega)
  have g := sum_le h k (8 - k) (by omega)
  unfold densR
  rw [a, b]
  by_cases hz : sumA R k (8 - k) = 0
  · rw [if_pos hz, if_pos hz]
  · rw [if_neg hz, if_neg hz]
    exact (fx_of c g (by omega)).1
/-- One more hit at j. -/
theorem sum_hit {R : Nat → Int} {j : Nat} (hj : j < 8) {v : Int} (k : Nat) : ∀ n, k + n ≤ 8 →
    sumH (upd R j v) k n = sumH R k n + (if k ≤ j ∧ j < k + n then v - R j else 0) ∧ sumA (upd R j v) k n = sumA R k n + (if k ≤ j ∧ j < k + n then (v - R j) * 2 ^ j else 0)
  | 0, _ => by unfold sumH sumA; rw [if_neg (by omega), if_neg (by omega)]; simp
  | n + 1, hn => by
    obtain ⟨a, b⟩ := sum_hit hj (v := v) k n (by omega)
    unfold sumH sumA
    rw [a, b]
    have u8 : upd R j v (k + n + 8) = R (k + n + 8) := by unfold upd; rw [if_neg (by omega)]
    rw [u8]
    by_cases h1 : k + n = j
    · subst h1
      have u : upd R (k + n) v (k + n) = v := by unfold upd; rw [if_pos rfl]
      rw [u, if_neg (by omega), if_pos (by omega), if_neg (by omega), if_pos (by omega)]
      generalize (2 : Int) ^ (k + n) = p
      constructor
      · omega
      · grind
    · have u : upd R j v (k + n) = R (k + n) := by unfold upd; rw [if_neg h1]
      rw [u]
      by_cases h2 : k ≤ j ∧ j < k + n
      · rw [if_pos h2, if_pos (by omega), if_pos h2, if_pos (by omega)]; constructor <;> omega
      · rw [if_neg h2, if_neg (by omega), if_neg h2, if_neg (by omega)]; constructor <;> omega
theorem sum_out {R : Nat → Int} {j : Nat} (hj : j < 8) {v : Int} (k : Nat) : ∀ n, k + n ≤ 8 →
    sumH (upd R (j + 8) v) k n = sumH R k n ∧ sumA (upd R (j + 8) v) k n = sumA R k n + (if k ≤ j ∧ j < k + n then (v - R (j + 8)) * 2 ^ j else 0)
  | 0, _ => by unfold sumH sumA; rw [if_neg (by omega)]; simp
  | n + 1, hn => by
    obtain ⟨a, b⟩ := sum_out hj (v := v) k n (by omega)
    unfold sumH sumA
    rw [a, b]
    have u0 : upd R (j + 8) v (k + n) = R (k + n) := by unfold upd; rw [if_neg (by omega)]
    rw [u0]
    refine ⟨rfl, ?_⟩
    by_cases h1 : k + n = j
    · subst h1
      have u : upd R (k + n + 8) v (k + n + 8) = v := by unfold upd; rw [if_pos rfl]
      rw [u, if_neg (by omega), if_pos (by omega)]
      generalize (2 : Int) ^ (k + n) = p
      grind
    · have u : upd R (j + 8) v (k + n + 8) = R (k + n + 8) := by unfold upd; rw [if_neg (by omega)]
      rw [u]
      by_cases h2 : k ≤ j ∧ j < k + n
      · rw [if_pos h2, if_pos (by omega)]; omega
      · rw [if_neg h2, if_neg (by omega)]; omega
theorem quo_out {a b c : Int} (a0 : 0 ≤ a) (b0 : 0 < b) (c0 : 0 ≤ c) : a / (b + c) ≤ a / b := by
  rw [Int.le_ediv_iff_mul_le b0]
  have h1 := Int.ediv_mul_le a (b := b + c) (by omega)
  have h2 : 0 ≤ a / (b + c) := Int.ediv_nonneg a0 (by omega)
  have h3 : 0 ≤ a / (b + c) * c := Int.mul_nonneg h2 c0
  rw [Int.mul_add] at h1
  omega
theorem quo_hit {a b S : Int} (a0 : 0 ≤ a) (S0 : 0 ≤ S) (b0 : 0 < b) (h : a ≤ b) : a * S / b ≤ (a + 1) * S / (b + 1) := by
  rw [Int.le_ediv_iff_mul_le (by omega)]
  have h1 := Int.ediv_mul_le (a * S) (b := b) (by omega)
  have h2 : a * S / b ≤ S := by
    have h3 : a * S ≤ b * S := Int.mul_le_mul_of_nonneg_right h S0
    have : a * S / b ≤ b * S / b := Int.ediv_le_ediv b0 h3
    rwa [Int.mul_ediv_cancel_left _ (by omega)] at this
  generalize a * S / b = q at *
  grind
/-- Behind an eviction nothing is denser. -/
theorem dens_out {R : Nat → Int} (h : Few R) {j k : Nat} (hj : j < 8) (hk : k < 8) (hkj : k ≤ j) (hr : R (j + 8) < 2251799813685248) :
    densR (upd R (j + 8) (R (j + 8) + 1)) k ≤ densR R k := by
  have h' : Few (upd R (j + 8) (R (j + 8) + 1)) := by
    intro i hi; unfold upd; split
    · have := h (j + 8) (by omega); omega
    · exact h i hi
  rw [densR_few h hk, densR_few h' hk]
  obtain ⟨a, b⟩ := sum_out hj (v := R (j + 8) + 1) (R := R) k (8 - k) (by omega)
  rw [if_pos (by omega), show R (j + 8) + 1 - R (j + 8) = 1 from by omega, Int.one_mul] at b
  obtain ⟨c, d, e, f⟩ := sums_bd h k (8 - k) (by omega)
  have g := sum_le h k (8 - k) (by omega)
  obtain ⟨p0, _⟩ := pow_7 hj
  rw [a, b, if_neg (by omega)]
  generalize (2 : Int) ^ j = p at *
  generalize sumH R k (8 - k) = x at *
  generalize sumA R k (8 - k) = y at *
  by_cases hy : y = 0
  · rw [if_pos hy]
    have hx : x = 0 := by omega
    subst hx; simp
  · rw [if_neg hy]
    exact quo_out (by omega) (by omega) (by omega)
/-- Behind a hit at the age 0 nothing is less dense. -/
theorem dens_hit {R : Nat → Int} (h : Few R) (hr : R 0 < 2251799813685248) : densR R 0 ≤ densR (upd R 0 (R 0 + 1)) 0 := by
  have h' : Few (upd R 0 (R 0 + 1)) := by
    intro i hi; unfold upd; split
    · have := h 0 (by omega); omega
    · exact h i hi
  rw [densR_few h (by decide), densR_few h' (by decide)]
  obtain ⟨a, b⟩ := sum_hit (j := 0) (by decide) (v := R 0 + 1) (R := R) 0 (8 - 0) (by omega)
  rw [if_pos (by omega), show R 0 + 1 - R 0 = 1 from by omega] at a
  rw [if_pos (by omega), show R 0 + 1 - R 0 = 1 from by omega, Int.one_mul, Int.pow_zero] at b
  obtain ⟨c, d, e, f⟩ := sums_bd h 0 (8 - 0) (by omega)
  have g := sum_le h 0 (8 - 0) (by omega)
  rw [a, b, if_neg (show ¬ sumA R 0 (8 - 0) + 1 = 0 by omega)]
  generalize sumH R 0 (8 - 0) = x at *
  generalize sumA R 0 (8 - 0) = y at *
  by_cases hy : y = 0
  · subst hy
    have hx : x = 0 := by omega
    subst hx; simp
  · rw [if_neg hy]
    exact quo_hit (by omega) (by decide) (by omega) g
/-- Behind one at another age nothing turns. -/
theorem dens_same {R : Nat → Int} {j k : Nat} {v : Int} (hj : j < 8) (hk : k < 8) (hkj : j < k) : densR (upd R j v) k = densR R k ∧ densR (upd R (j + 8) v) k = densR R k := by
  constructor <;> refine densR_congr hk fun i hi hj => ⟨?_, ?_⟩ <;> unfold upd <;> rw [if_neg (by omega)]
/-- Twice as much of all. -/
def twiceR (R : Nat → Int) (i : Nat) : Int := 2 * R i
theorem sum_twice (R : Nat → Int) (k : Nat) : ∀ n, sumH (twiceR R) k n = 2 * sumH R k n ∧ sumA (twiceR R) k n = 2 * sumA R k n
  | 0 => ⟨rfl, rfl⟩
  | n + 1 => by
    obtain ⟨a, b⟩ := sum_twice R k n
    unfold sumH sumA
    rw [a, b]
    unfold twiceR
    generalize (2 : Int) ^ (k + n) = p
    constructor
    · omega
    · grind
theorem dens_twice {R : Nat → Int} (h : ∀ i, i < 16 → 0 ≤ R i ∧ R i < 1125899906842624) {k : Nat} (hk : k < 8) : densR (twiceR R) k = densR R k := by
  have h1 : Few R := fun i hi => by have := h i hi; omega
  have h2 : Few (twiceR R) := fun i hi => by have := h i hi; unfold twiceR; omega
  rw [densR_few h1 hk, densR_few h2 hk]
  obtain ⟨a, b⟩ := sum_twice R k (8 - k)
  rw [a, b]
  generalize sumH R k (8 - k) = x
  generalize sumA R k (8 - k) = y
  by_cases hy : y = 0
  · subst hy; simp
  · rw [if_neg hy, if_neg (by omega), Int.mul_assoc, Int.mul_ediv_mul_of_pos _ _ (by decide)]
theorem half_twice (R : Nat → Int) : halfR (twiceR R) = R := by funext i; unfold halfR twiceR; omega
/-- Halved n times. -/
def halfN (R : Nat → Int) : Nat → Nat → Int
  | 0 => R
  | n + 1 => halfR (halfN R n)
theorem halfN_is {R : Nat → Int} (h : IsR R) : ∀ n, IsR (halfN R n)
  | 0 => h
  | n + 1 => halfR_is (halfN_is h n)
theorem halfN_eq (R : Nat → Int) (i : Nat) : ∀ n, halfN R n i = R i / 2 ^ n
  | 0 => by simp [halfN]
  | n + 1 => by
    show halfN R n i / 2 = _
    rw [halfN_eq R i n, Int.ediv_ediv_of_nonneg (Int.pow_nonneg (by decide)), Int.pow_succ]
theorem halfN_zero {R : Nat → Int} {i : Nat} (h0 : 0 ≤ R i) (h1 : R i < 1125899906842624) : halfN R 50 i = 0 := by
  rw [halfN_eq]
  have e : (2 : Int) ^ 50 = 1125899906842624 := by decide
  rw [e]; omega
end Go.Proofs.Ytmehejdgdjaipaa
