/- The document's bounds of e to the minus x, and what the table tells: never far apart. Nothing of the program is in sight. -/
import Derived.Test.YtecacdghlefpfaaDoorExpoM
set_option linter.unusedVariables false
namespace Go.Proofs.YtecacdghlefpfaaDoor

/-- Near a power, as a ratio. -/
def NrR (a : Int) (g e : Rat) : Prop := sS * g - e ≤ (a : Rat) ∧ (a : Rat) ≤ sS * g + e
theorem last_24 {t : Int} (t0 : 0 ≤ t) (x1 : (t : Rat) * hh ≤ 1) : ((lastN t 24 : Int) : Rat) ≤ 49 := by
  obtain ⟨_, b⟩ := lastN_rat t0 x1 24
  have hx : 0 ≤ (t : Rat) * hh := Rat.mul_nonneg (Rat.intCast_nonneg.2 t0) (Rat.le_of_lt hh_bd.1)
  have k := Rat.mul_le_mul_of_nonneg_left (tT_24 hx x1) (show (0 : Rat) ≤ sS by decide +kernel)
  rw [sS_hh] at k
  have c : 2 * ((24 : Nat) : Rat) = 48 := by decide +kernel
  rw [c] at b
  generalize sS * tT 24 ((t : Rat) * hh) = T at *
  generalize ((lastN t 24 : Int) : Rat) = L at *
  grind
theorem start_near (m : Nat) (x1 : (m : Rat) * hh ≤ 1) : (0 ≤ lowF m ∧ lowF m ≤ highF m ∧ highF m ≤ 4611686018427387904) ∧ NrR (lowF m) (fF m) 1300 ∧ NrR (highF m) (fF m) 1300 := by
  have t0 : (0 : Int) ≤ (m : Int) := by omega
  have cm : (((m : Int)) : Rat) = (m : Rat) := rfl
  have x1' : (((m : Int)) : Rat) * hh ≤ 1 := x1
  obtain ⟨⟨l0, l1, l2⟩, h1, h2⟩ := low_high t0 x1' 24 (by omega)
  have g := last_24 t0 x1'
  have gn := lastN_nn t0 24
  have hx : 0 ≤ (m : Rat) * hh := Rat.mul_nonneg (cast_nonneg m) (Rat.le_of_lt hh_bd.1)
  have q1 := (qQ_one hx x1 24).1 (by decide)
  have q2 := Rat.mul_le_mul_of_nonneg_left q1 (show (0 : Rat) ≤ sS by decide +kernel)
  obtain ⟨p1, p2⟩ := qQ_fF m x1
  have e1 : sS * ((m : Rat) * (25 * (hh * hh))) = 25 * ((m : Rat) * hh) := by
    have e := sS_hh
    have : sS * ((m : Rat) * (25 * (hh * hh))) = 25 * ((m : Rat) * hh) * (sS * hh) := by grind
    rw [this, e, Rat.mul_one]
  have p1' := Rat.mul_le_mul_of_nonneg_left p1 (show (0 : Rat) ≤ sS by decide +kernel)
  have p2' := Rat.mul_le_mul_of_nonneg_left p2 (show (0 : Rat) ≤ sS by decide +kernel)
  have e2 : sS * -((m : Rat) * (25 * (hh * hh))) = -(25 * ((m : Rat) * hh)) := by rw [← e1]; grind
  have e3 : sS * (qQ 24 ((m : Rat) * hh) - fF m) = sS * qQ 24 ((m : Rat) * hh) - sS * fF m := by grind
  rw [e2, e3] at p1'
  rw [e1, e3] at p2'
  have c : 50 * ((24 : Nat) : Rat) = 1200 := by decide +kernel
  rw [cm] at *
  rw [c] at l2 h2
  rw [Rat.mul_one] at q2
  have cs : ((4611686018427387904 : Int) : Rat) = sS := rfl
  clear e1 e2 e3 p1 p2 q1 c x1' hx
  generalize sS * qQ 24 ((m : Rat) * hh) = Q at *
  generalize (m : Rat) * hh = x at *
  have i1 : lowN m 24 ≤ 4611686018427387904 := by
    refine Rat.intCast_le_intCast.1 ?_
    rw [cs]; exact Rat.le_trans l1 q2
  have i2 : lowN m 24 ≤ highN m 24 := Rat.intCast_le_intCast.1 (Rat.le_trans l1 h1)
  have hl : lowF m = lowN m 24 - min (lowN m 24) (lastN m 24) := rfl
  have hh' : highF m = min (highN m 24 + lastN m 24) 4611686018427387904 := rfl
  have j1 : lowF m ≤ lowN m 24 ∧ lowN m 24 ≤ lowF m + lastN m 24 := by omega
  have j2 : highF m ≤ highN m 24 + lastN m 24 ∧ (highN m 24 ≤ highF m ∨ highF m = 4611686018427387904) := by omega
  refine ⟨by omega, ?_, ?_⟩
  · have k1 := Rat.intCast_le_intCast.2 j1.1
    have k2 := Rat.intCast_le_intCast.2 j1.2
    rw [Rat.intCast_add] at k2
    unfold NrR
    generalize ((lowF m : Int) : Rat) = A at *
    generalize ((lowN m 24 : Int) : Rat) = B at *
    generalize ((lastN m 24 : Int) : Rat) = G at *
    generalize sS * fF m = F at *
    constructor <;> grind
  · have k1 := Rat.intCast_le_intCast.2 j2.1
    rw [Rat.intCast_add] at k1
    have k2 : Q ≤ ((highF m : Int) : Rat) := by
      rcases j2.2 with h | h
      · exact Rat.le_trans h1 (Rat.intCast_le_intCast.2 h)
      · rw [h, cs]; exact q2
    unfold NrR
    generalize ((highF m : Int) : Rat) = A at *
    generalize ((highN m 24 : Int) : Rat) = B at *
    generalize ((lastN m 24 : Int) : Rat) = G at *
    generalize sS * fF m = F at *
    constructor <;> grind
/-- A square, divided. -/
theorem sq_rat {α g e : Rat} (a0 : 0 ≤ α) (a1 : α ≤ sS) (g0 : 0 ≤ g) (g1 : g ≤ 1) (e0 : 0 ≤ e) (h1 : sS * g - e ≤ α) (h2 : α ≤ sS * g + e) :
    sS * (g * g) - 2 * e ≤ α * (α * hh) ∧ α * (α * hh) ≤ sS * (g * g) + 2 * e := by
  have hb := hh_bd
  have es := sS_hh
  have y0 : 0 ≤ α * hh := Rat.mul_nonneg a0 (Rat.le_of_lt hb.1)
  have y1 : α * hh ≤ 1 := by
    have := Rat.mul_le_mul_of_nonneg_right a1 (Rat.le_of_lt hb.1)
    rwa [es] at this
  have k1 := Rat.mul_le_mul_of_nonneg_right h1 y0
  have k2 := Rat.mul_le_mul_of_nonneg_right h2 y0
  have m1 := Rat.mul_le_mul_of_nonneg_left h1 g0
  have m2 := Rat.mul_le_mul_of_nonneg_left h2 g0
  have n1 : e * (α * hh) ≤ e * 1 := Rat.mul_le_mul_of_nonneg_left y1 e0
  have n2 : g * e ≤ 1 * e := Rat.mul_le_mul_of_nonneg_right g1 e0
  have e1 : (sS * g - e) * (α * hh) = g * α - e * (α * hh) := by
    have : (sS * g - e) * (α * hh) = g * α * (sS * hh) - e * (α * hh) := by grind
    rw [this, es, Rat.mul_one]
  have e2 : (sS * g + e) * (α * hh) = g * α + e * (α * hh) := by
    have : (sS * g + e) * (α * hh) = g * α * (sS * hh) + e * (α * hh) := by grind
    rw [this, es, Rat.mul_one]
  have e3 : g * (sS * g - e) = sS * (g * g) - g * e := by grind
  have e4 : g * (sS * g + e) = sS * (g * g) + g * e := by grind
  rw [e1] at k1
  rw [e2] at k2
  rw [e3] at m1
  rw [e4] at m2
  clear e1 e2 e3 e4 h1 h2 hb es a1 y0 y1
  generalize sS * (g * g) = W at *
  generalize e * (α * hh) = U at *
  generalize α * (α * hh) = P at *
  generalize g * α = V at *
  generalize g * e = X at *
  constructor <;> grind
theorem dn_near {a : Int} {g e : Rat} (a0 : 0 ≤ a) (a1 : a ≤ 4611686018427387904) (g0 : 0 ≤ g) (g1 : g ≤ 1) (e0 : 0 ≤ e) (h : NrR a g e) : NrR (dnT a a) (g * g) (2 * e + 1) := by
  have r0 : (0 : Rat) ≤ (a : Rat) := Rat.intCast_nonneg.2 a0
  have r1 : (a : Rat) ≤ sS := Rat.intCast_le_intCast.2 a1
  obtain ⟨k1, k2⟩ := sq_rat r0 r1 g0 g1 e0 h.1 h.2
  have d1 := Int.ediv_mul_le (a * a) (b := 4611686018427387904) (by decide)
  have d2 := Int.lt_ediv_add_one_mul_self (a * a) (b := 4611686018427387904) (by decide)
  have q1 := rat_le (a := dnT a a) (b := a) (c := 0) (t := a) (by rw [Int.zero_mul, Int.add_zero]; exact d1)
  have q2 := rat_ge (a := dnT a a + 1) (b := a) (t := a) (Int.le_of_lt d2)
  rw [Rat.intCast_add] at q2
  have c0 : ((0 : Int) : Rat) = 0 := rfl
  have c1 : ((1 : Int) : Rat) = 1 := rfl
  rw [c0] at q1
  rw [c1] at q2
  unfold NrR
  generalize (a : Rat) * ((a : Rat) * hh) = P at *
  generalize ((dnT a a : Int) : Rat) = D at *
  generalize sS * (g * g) = W at *
  constructor <;> grind
theorem up_near {a : Int} {g e : Rat} (a0 : 0 ≤ a) (a1 : a ≤ 4611686018427387904) (g0 : 0 ≤ g) (g1 : g ≤ 1) (e0 : 0 ≤ e) (h : NrR a g e) : NrR (upT a a) (g * g) (2 * e + 1) := by
  have r0 : (0 : Rat) ≤ (a : Rat) := Rat.intCast_nonneg.2 a0
  have r1 : (a : Rat) ≤ sS := Rat.intCast_le_intCast.2 a1
  obtain ⟨k1, k2⟩ := sq_rat r0 r1 g0 g1 e0 h.1 h.2
  have hu : upT a a * 4611686018427387904 ≤ a * a + 4611686018427387904 ∧ a * a ≤ upT a a * 4611686018427387904 := by
    have := Int.mul_nonneg a0 a0
    unfold upT; generalize a * a = p at *; split <;> omega
  have q1 := rat_le (a := upT a a) (b := a) (c := 1) (t := a) (by rw [Int.one_mul]; exact hu.1)
  have q2 := rat_ge (a := upT a a) (b := a) (t := a) hu.2
  have c1 : ((1 : Int) : Rat) = 1 := rfl
  rw [c1] at q1
  unfold NrR
  generalize (a : Rat) * ((a : Rat) * hh) = P at *
  generalize ((upT a a : Int) : Rat) = D at *
  generalize sS * (g * g) = W at *
  constructor <;> grind
theorem up_bd {a : Int} (a0 : 0 ≤ a) (a1 : a ≤ 4611686018427387904) : 0 ≤ upT a a ∧ upT a a ≤ 4611686018427387904 := by
  have h0 := Int.mul_nonneg a0 a0
  have h1 : a * a ≤ 4611686018427387904 * 4611686018427387904 := Int.le_trans (Int.mul_le_mul_of_nonneg_left a1 a0) (Int.mul_le_mul_of_nonneg_right a1 (by decide))
  unfold upT; generalize a * a = p at *; split <;> omega
theorem dn_le_up {a b : Int} (a0 : 0 ≤ a) (h : a ≤ b) : dnT a a ≤ upT b b := by
  have h1 : a * a ≤ b * b := Int.le_trans (Int.mul_le_mul_of_nonneg_left h a0) (Int.mul_le_mul_of_nonneg_right h (by omega))
  have := Int.ediv_le_ediv (show (0 : Int) < 4611686018427387904 by decide) h1
  unfold upT dnT; split <;> omega
/-- What five squares leave of what they lay apart. -/
def eE : Nat → Rat
  | 0 => 1300
  | n + 1 => 2 * eE n + 1
theorem eE_nn : ∀ n, 0 ≤ eE n
  | 0 => by unfold eE; decide +kernel
  | n + 1 => by have := eE_nn n; unfold eE; grind
theorem squares (m : Nat) (x1 : (m : Rat) * hh ≤ 1) : ∀ n, (0 ≤ sqL m n ∧ sqL m n ≤ sqH m n ∧ sqH m n ≤ 4611686018427387904) ∧ NrR (sqL m n) (fF (m * 2 ^ n)) (eE n) ∧ NrR (sqH m n) (fF (m * 2 ^ n)) (eE n)
  | 0 => by rw [Nat.pow_zero, Nat.mul_one]; exact start_near m x1
  | n + 1 => by
    obtain ⟨⟨a, b, c⟩, d, e⟩ := squares m x1 n
    obtain ⟨f0, f1⟩ := fF_bd (m * 2 ^ n)
    have ef : fF (m * 2 ^ (n + 1)) = fF (m * 2 ^ n) * fF (m * 2 ^ n) := by rw [← fF_add]; congr 1; rw [Nat.pow_succ, ← Nat.mul_assoc, Nat.mul_two]
    rw [ef]
    obtain ⟨u0, u1⟩ := up_bd (a := sqH m n) (by omega) c
    have v := dn_le_up a b
    have w : 0 ≤ dnT (sqL m n) (sqL m n) := Int.ediv_nonneg (Int.mul_nonneg a a) (by decide)
    exact ⟨⟨w, v, u1⟩, dn_near a (by omega) f0 f1 (eE_nn n) d, up_near (by omega) c f0 f1 (eE_nn n) e⟩
theorem eE_5 : eE 5 = 41631 := by decide +kernel
end Go.Proofs.YtecacdghlefpfaaDoor
