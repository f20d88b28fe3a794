/- Plain numbers of the layer ratio: crosswise products, parts of a product, the least of several. Nothing of the program is in sight. -/
import Derived.Test.YtlhjacgocggbcaaWideS
set_option linter.unusedVariables false
namespace Go.Proofs.Ytlhjacgocggbcaa

def rCmp (a b c d : Int) : Int := if b = 0 ∨ d = 0 then 0 else cmpS (a * d) (c * b)
def rErr (b d : Int) : Int := if b = 0 ∨ d = 0 then 20 else 0
/-- A quotient q by c, told, and its error. -/
def partV (q c : Int) : Int := if c = 0 then 0 else if 18446744073709551616 ≤ q then 0 else q
def partE (q c : Int) : Int := if c = 0 then 20 else if 18446744073709551616 ≤ q then 10 else 0
def ceilQ (p c : Int) : Int := (p + (max c 1 - 1)) / c
def nearQ (p c : Int) : Int := (p + c / 2) / c

theorem rCmp_zl {a c d : Int} : rCmp a 0 c d = 0 := by unfold rCmp; simp
theorem rCmp_zr {a b c : Int} : rCmp a b c 0 = 0 := by unfold rCmp; simp
theorem rErr_zl {d : Int} : rErr 0 d = 20 := by unfold rErr; simp
theorem rErr_zr {b : Int} : rErr b 0 = 20 := by unfold rErr; simp
theorem rCmp_pos {a b c d : Int} (hb : 0 < b) (hd : 0 < d) : rCmp a b c d = cmpS (a * d) (c * b) := by unfold rCmp; rw [if_neg (by omega)]
theorem rErr_pos {b d : Int} (hb : 0 < b) (hd : 0 < d) : rErr b d = 0 := by unfold rErr; rw [if_neg (by omega)]
theorem rCmp_bd (a b c d : Int) : -1 ≤ rCmp a b c d ∧ rCmp a b c d ≤ 1 := by
  unfold rCmp; split
  · omega
  · exact cmpS_bd _ _
theorem partV_z {q : Int} : partV q 0 = 0 := by unfold partV; simp
theorem partE_z {q : Int} : partE q 0 = 20 := by unfold partE; simp
theorem partV_lt {q c : Int} (hc : 0 < c) (h : q < 18446744073709551616) : partV q c = q := by unfold partV; rw [if_neg (by omega), if_neg (by omega)]
theorem partE_lt {q c : Int} (hc : 0 < c) (h : q < 18446744073709551616) : partE q c = 0 := by unfold partE; rw [if_neg (by omega), if_neg (by omega)]
theorem partV_ge {q c : Int} (hc : 0 < c) (h : 18446744073709551616 ≤ q) : partV q c = 0 := by unfold partV; rw [if_neg (by omega), if_pos h]
theorem partE_ge {q c : Int} (hc : 0 < c) (h : 18446744073709551616 ≤ q) : partE q c = 10 := by unfold partE; rw [if_neg (by omega), if_pos h]
theorem partV_bd {q c : Int} (h0 : 0 ≤ q) : 0 ≤ partV q c ∧ partV q c < 18446744073709551616 := by unfold partV; repeat' split <;> omega

/-- What is left over says whether the quotient is one more. -/
theorem quo_facts {p c : Int} (p0 : 0 ≤ p) (p1 : p ≤ 340282366920938463426481119284349108225) (c0 : 0 < c) :
    0 ≤ p / c ∧ p / c ≤ 340282366920938463426481119284349108225 ∧ 0 ≤ p % c ∧ p % c < c ∧ p = c * (p / c) + p % c := by
  have e1 := Int.emod_add_mul_ediv p c
  have e2 := Int.emod_nonneg p (show c ≠ 0 by omega)
  have e3 := Int.emod_lt_of_pos p c0
  have e4 : 0 ≤ p / c := Int.ediv_nonneg p0 (by omega)
  have e5 : p / c ≤ p := Int.ediv_le_self _ p0
  exact ⟨e4, by omega, e2, e3, by omega⟩
theorem quo_add {p c add : Int} (c0 : 0 < c) (h0 : 0 ≤ add) (h1 : add < c) : (p + add) / c = p / c + if c ≤ p % c + add then 1 else 0 := by
  have e1 := Int.emod_add_mul_ediv p c
  have e2 := Int.emod_nonneg p (show c ≠ 0 by omega)
  have e3 := Int.emod_lt_of_pos p c0
  have h : p + add = (p % c + add) + (p / c) * c := by rw [Int.mul_comm]; omega
  rw [h, Int.add_mul_ediv_right _ _ (by omega)]
  split
  · have : (p % c + add) / c = 1 := by
      refine Int.le_antisymm ?_ (Int.le_ediv_of_mul_le c0 (by omega))
      have : (p % c + add) / c < 2 := Int.ediv_lt_of_lt_mul c0 (by omega)
      omega
    omega
  · rw [Int.ediv_eq_zero_of_lt (by omega) (by omega)]; omega
theorem ceil_up {p c : Int} (c0 : 0 < c) (h : 0 < p % c) : ceilQ p c = p / c + 1 := by
  unfold ceilQ; rw [quo_add c0 (by omega) (by omega), if_pos (by omega)]
theorem ceil_no {p c : Int} (c0 : 0 < c) (h : ¬ 0 < p % c) : ceilQ p c = p / c := by
  unfold ceilQ; rw [quo_add c0 (by omega) (by omega), if_neg (by omega)]; omega
theorem near_up {p c : Int} (c0 : 0 < c) (h : c - p % c ≤ p % c) : nearQ p c = p / c + 1 := by
  unfold nearQ; rw [quo_add c0 (by omega) (by omega), if_pos (by omega)]
theorem near_no {p c : Int} (c0 : 0 < c) (h : ¬ c - p % c ≤ p % c) : nearQ p c = p / c := by
  unfold nearQ; rw [quo_add c0 (by omega) (by omega), if_neg (by omega)]; omega
/-- The Hi of what is told says whether it is too great. -/
theorem hi_zero {q : Int} (q0 : 0 ≤ q) (q1 : q < 18446744073709551616) : wHi q = 0 ∧ wLo q = q := by unfold wHi wLo; omega
theorem hi_pos {q : Int} (q0 : 18446744073709551616 ≤ q) (q1 : q < 340282366920938463463374607431768211456) : 0 < wHi q := by unfold wHi; omega
theorem wN_add_one {q : Int} (q0 : 0 ≤ q) (q1 : q < 340282366920938463463374607431768211455) : wN (wHi q) (wLo q) + wN 0 1 = q + 1 := by
  rw [wN_of q0 (by omega)]; rfl

/-! The least of several ratios, one by one, as the program goes. -/
/-- a/b < c/d ≤ e/f -/
theorem cross_lt {a b c d e f : Int} (hd : 0 < d) (hb : 0 < b) (hf : 0 < f) (h1 : a * d < c * b) (h2 : c * f ≤ e * d) : a * f < e * b := by
  have h3 : a * d * f < c * b * f := Int.mul_lt_mul_of_pos_right h1 hf
  have h4 : c * f * b ≤ e * d * b := Int.mul_le_mul_of_nonneg_right h2 (by omega)
  have h5 : (a * f) * d < (e * b) * d := by
    have e1 : a * d * f = a * f * d := by grind
    have e2 : c * b * f = c * f * b := by grind
    have e3 : e * d * b = e * b * d := by grind
    omega
  exact Int.lt_of_mul_lt_mul_right h5 (by omega)
/-- The place of the least one so far, and whether there is one. -/
def lst (N D : Nat → Int) : Nat → Nat × Bool
  | 0 => (0, false)
  | n + 1 => if D n = 0 then lst N D n else if (lst N D n).2 = false ∨ N n * D (lst N D n).1 < N (lst N D n).1 * D n then (n, true) else lst N D n
theorem lst_spec (N D : Nat → Int) (h0 : ∀ i, 0 ≤ D i) : ∀ n,
    ((lst N D n).2 = false → (lst N D n).1 = 0 ∧ ∀ j, j < n → D j = 0) ∧
    ((lst N D n).2 = true → (lst N D n).1 < n ∧ 0 < D (lst N D n).1 ∧ (∀ j, j < n → 0 < D j → N (lst N D n).1 * D j ≤ N j * D (lst N D n).1) ∧
      (∀ j, j < (lst N D n).1 → 0 < D j → N (lst N D n).1 * D j < N j * D (lst N D n).1))
  | 0 => ⟨fun _ => ⟨rfl, fun j hj => absurd hj (Nat.not_lt_zero j)⟩, fun h => by cases h⟩
  | n + 1 => by
    obtain ⟨i1, i2⟩ := lst_spec N D h0 n
    rw [show lst N D (n + 1) = if D n = 0 then lst N D n else if (lst N D n).2 = false ∨ N n * D (lst N D n).1 < N (lst N D n).1 * D n then (n, true) else lst N D n from rfl]
    by_cases hz : D n = 0
    · rw [if_pos hz]
      refine ⟨fun h => ⟨(i1 h).1, fun j hj => ?_⟩, fun h => ?_⟩
      · rcases Nat.lt_succ_iff_lt_or_eq.1 hj with h' | rfl
        · exact (i1 h).2 j h'
        · exact hz
      · obtain ⟨a, b, c, d⟩ := i2 h
        refine ⟨by omega, b, fun j hj hp => ?_, d⟩
        rcases Nat.lt_succ_iff_lt_or_eq.1 hj with h' | rfl
        · exact c j h' hp
        · omega
    · rw [if_neg hz]
      have hpos : 0 < D n := by have := h0 n; omega
      by_cases hc : (lst N D n).2 = false ∨ N n * D (lst N D n).1 < N (lst N D n).1 * D n
      · rw [if_pos hc]
        refine ⟨(fun h => by cases h), fun _ => ⟨Nat.lt_succ_self n, hpos, ?_, ?_⟩⟩
        · intro j hj hp
          rcases Nat.lt_succ_iff_lt_or_eq.1 hj with h' | rfl
          · rcases hb : (lst N D n).2 with _ | _
            · have := (i1 hb).2 j h'; omega
            · obtain ⟨a, b, c, d⟩ := i2 hb
              have h1 : N n * D (lst N D n).1 < N (lst N D n).1 * D n := by
                by_cases hq : (lst N D n).2 = false
                · rw [hb] at hq; cases hq
                · exact hc.resolve_left hq
              have h2 := c j h' hp
              exact Int.le_of_lt (cross_lt b hpos hp h1 h2)
          · exact Int.le_refl _
        · intro j hj hp
          have h' : j < n := hj
          rcases hb : (lst N D n).2 with _ | _
          · have := (i1 hb).2 j h'; omega
          · obtain ⟨a, b, c, d⟩ := i2 hb
            have h1 : N n * D (lst N D n).1 < N (lst N D n).1 * D n := by
                by_cases hq : (lst N D n).2 = false
                · rw [hb] at hq; cases hq
                · exact hc.resolve_left hq
            have h2 := c j h' hp
            exact cross_lt b hpos hp h1 h2
      · rw [if_neg hc]
        refine ⟨fun h => absurd (Or.inl h) hc, fun h => ?_⟩
        obtain ⟨a, b, c, d⟩ := i2 h
        refine ⟨by omega, b, fun j hj hp => ?_, d⟩
        rcases Nat.lt_succ_iff_lt_or_eq.1 hj with h' | rfl
        · exact c j h' hp
        · have : ¬ N j * D (lst N D j).1 < N (lst N D j).1 * D j := fun h => hc (Or.inr h)
          omega
end Go.Proofs.Ytlhjacgocggbcaa
