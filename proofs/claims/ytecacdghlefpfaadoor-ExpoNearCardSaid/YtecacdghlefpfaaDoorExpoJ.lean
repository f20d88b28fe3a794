/- What is told lies between the document's bounds, nearly. Nothing of the program is in sight. -/
import Derived.Test.YtecacdghlefpfaaDoorExpoK
set_option linter.unusedVariables false
namespace Go.Proofs.YtecacdghlefpfaaDoor

theorem tab_near : ∀ k, k < 37 → -2000 ≤ pw k - sqL (2 ^ (k + 25)) 5 ∧ pw k - sqL (2 ^ (k + 25)) 5 ≤ 2000 := by decide +kernel
theorem x_le {m : Nat} (h : m ≤ 4611686018427387904) : (m : Rat) * hh ≤ 1 := by
  have h1 : (m : Rat) ≤ sS := (Rat.natCast_le_natCast (a := m) (b := 4611686018427387904)).2 h
  have := Rat.mul_le_mul_of_nonneg_right h1 (Rat.le_of_lt hh_bd.1)
  rwa [sS_hh] at this
theorem pw_near {k : Nat} (h : k < 37) : NrR (pw k) (fF (2 ^ (k + 30))) 43631 := by
  have hp : 2 ^ (k + 25) ≤ 4611686018427387904 := by
    have := Nat.pow_le_pow_right (n := 2) (by omega) (show k + 25 ≤ 61 by omega)
    have e : 2 ^ 61 = 2305843009213693952 := by decide
    omega
  obtain ⟨_, ⟨d1, d2⟩, _⟩ := squares (2 ^ (k + 25)) (x_le hp) 5
  obtain ⟨t1, t2⟩ := tab_near k h
  have ec : (((2 ^ (k + 25) : Nat)) : Int) = 2 ^ (k + 25) := by rw [Int.natCast_pow]; rfl
  have ep : 2 ^ (k + 25) * 2 ^ 5 = 2 ^ (k + 30) := by rw [← Nat.pow_add]
  rw [ec, ep, eE_5] at d1 d2
  have s1 := Rat.intCast_le_intCast.2 t1
  have s2 := Rat.intCast_le_intCast.2 t2
  rw [Rat.intCast_sub] at s1 s2
  have c1 : ((-2000 : Int) : Rat) = -2000 := rfl
  have c2 : ((2000 : Int) : Rat) = 2000 := rfl
  rw [c1] at s1
  rw [c2] at s2
  unfold NrR
  generalize ((sqL (2 ^ (k + 25)) 5 : Int) : Rat) = A at *
  generalize ((pw k : Int) : Rat) = P at *
  generalize sS * fF (2 ^ (k + 30)) = F at *
  constructor <;> grind
/-- One step of the product, as ratios. -/
theorem step_near {G p d : Int} {A P e c : Rat} (G0 : 0 ≤ G) (p0 : 0 ≤ p) (p1 : p ≤ 4611686018427387904) (A0 : 0 ≤ A) (A1 : A ≤ 1) (e0 : 0 ≤ e) (c0 : 0 ≤ c)
    (hG : NrR G A e) (hp : NrR p P c) (hd : d = G * p / 4611686018427387904) : NrR d (A * P) (e + c + 1) := by
  obtain ⟨g1, g2⟩ := hG
  obtain ⟨q1, q2⟩ := hp
  have hb := hh_bd
  have es := sS_hh
  have r0 : (0 : Rat) ≤ (p : Rat) := Rat.intCast_nonneg.2 p0
  have r1 : (p : Rat) ≤ sS := Rat.intCast_le_intCast.2 p1
  have y0 : 0 ≤ (p : Rat) * hh := Rat.mul_nonneg r0 (Rat.le_of_lt hb.1)
  have y1 : (p : Rat) * hh ≤ 1 := by
    have := Rat.mul_le_mul_of_nonneg_right r1 (Rat.le_of_lt hb.1)
    rwa [es] at this
  have d1 := Int.ediv_mul_le (G * p) (b := 4611686018427387904) (by decide)
  have d2 := Int.lt_ediv_add_one_mul_self (G * p) (b := 4611686018427387904) (by decide)
  rw [← hd] at d1 d2
  have w1 := rat_le (a := d) (b := G) (c := 0) (t := p) (by rw [Int.zero_mul, Int.add_zero]; exact d1)
  have w2 := rat_ge (a := d + 1) (b := G) (t := p) (Int.le_of_lt d2)
  rw [Rat.intCast_add] at w2
  have c0' : ((0 : Int) : Rat) = 0 := rfl
  have c1' : ((1 : Int) : Rat) = 1 := rfl
  rw [c0'] at w1
  rw [c1'] at w2
  have k1 := Rat.mul_le_mul_of_nonneg_right g1 y0
  have k2 := Rat.mul_le_mul_of_nonneg_right g2 y0
  have m1 := Rat.mul_le_mul_of_nonneg_left q1 A0
  have m2 := Rat.mul_le_mul_of_nonneg_left q2 A0
  have n1 : e * ((p : Rat) * hh) ≤ e * 1 := Rat.mul_le_mul_of_nonneg_left y1 e0
  have n2 : A * c ≤ 1 * c := Rat.mul_le_mul_of_nonneg_right A1 c0
  have e1 : (sS * A - e) * ((p : Rat) * hh) = A * (p : Rat) - e * ((p : Rat) * hh) := by
    have : (sS * A - e) * ((p : Rat) * hh) = A * (p : Rat) * (sS * hh) - e * ((p : Rat) * hh) := by generalize (p : Rat) = pp; grind
    rw [this, es, Rat.mul_one]
  have e2 : (sS * A + e) * ((p : Rat) * hh) = A * (p : Rat) + e * ((p : Rat) * hh) := by
    have : (sS * A + e) * ((p : Rat) * hh) = A * (p : Rat) * (sS * hh) + e * ((p : Rat) * hh) := by generalize (p : Rat) = pp; grind
    rw [this, es, Rat.mul_one]
  have e3 : A * (sS * P - c) = sS * (A * P) - A * c := by grind
  have e4 : A * (sS * P + c) = sS * (A * P) + A * c := by grind
  rw [e1] at k1
  rw [e2] at k2
  rw [e3] at m1
  rw [e4] at m2
  unfold NrR
  clear e1 e2 e3 e4 g1 g2 q1 q2 hb es r0 r1 y0 y1 d1 d2 hd c0' c1'
  generalize sS * (A * P) = W at *
  generalize e * ((p : Rat) * hh) = U at *
  generalize (G : Rat) * ((p : Rat) * hh) = V at *
  generalize A * (p : Rat) = X at *
  generalize A * c = Y at *
  generalize (d : Rat) = D at *
  constructor <;> grind
set_option maxHeartbeats 1000000 in
theorem exG_near : ∀ (n j x : Nat), n + j = 37 → x < 2 ^ n → NrR (exG n j x) (fF (x * 2 ^ (j + 30))) (43632 * (n : Rat))
  | 0, j, x, hj, hx => by
    have : x = 0 := by simpa using hx
    subst this
    have e : fF (0 * 2 ^ (j + 30)) = 1 := by rw [Nat.zero_mul]; unfold fF; simp
    rw [e]
    unfold exG NrR
    have c : ((4611686018427387904 : Int) : Rat) = sS * 1 := by rw [Rat.mul_one]; rfl
    rw [c, show 43632 * ((0 : Nat) : Rat) = 0 from by decide +kernel]
    constructor
    · rw [Rat.sub_eq_add_neg, Rat.neg_zero, Rat.add_zero]; exact Rat.le_refl
    · rw [Rat.add_zero]; exact Rat.le_refl
  | n + 1, j, x, hj, hx => by
    have ih := exG_near n (j + 1) (x / 2) (by omega) (by rw [Nat.pow_succ] at hx; omega)
    have hc : ((x : Int) / 2) = ((x / 2 : Nat) : Int) := by omega
    have ef : exG (n + 1) j (x : Int) = exStep (exG n (j + 1) ((x / 2 : Nat) : Int)) (pw j) ((x : Int) % 2) := by rw [← hc]; rfl
    have b := exG_bd n (j + 1) ((x / 2 : Nat) : Int)
    obtain ⟨f0, f1⟩ := fF_bd (x / 2 * 2 ^ (j + 1 + 30))
    have ep : 2 ^ (j + 1 + 30) = 2 * 2 ^ (j + 30) := by rw [show j + 1 + 30 = j + 30 + 1 from by omega, Nat.pow_succ, Nat.mul_comm]
    have cn : ((n + 1 : Nat) : Rat) = (n : Rat) + 1 := by grind
    have nn := cast_nonneg n
    rw [ef, cn]
    generalize hG : exG n (j + 1) ((x / 2 : Nat) : Int) = G at *
    unfold exStep
    by_cases hb : (x : Int) % 2 = 1
    · rw [if_pos hb]
      have pb := pw_bd' j
      have k := step_near b.1 pb.1 pb.2 f0 f1 (by grind) (by decide +kernel) ih (pw_near (k := j) (by omega)) rfl
      have ex : fF (x / 2 * 2 ^ (j + 1 + 30)) * fF (2 ^ (j + 30)) = fF (x * 2 ^ (j + 30)) := by
        rw [← fF_add, ep]
        refine congrArg fF ?_
        generalize 2 ^ (j + 30) = q
        have hx2 : x = 2 * (x / 2) + 1 := by omega
        calc x / 2 * (2 * q) + q = (2 * (x / 2) + 1) * q := by rw [Nat.add_mul, Nat.one_mul, ← Nat.mul_assoc, Nat.mul_comm (x / 2) 2]
          _ = x * q := by rw [← hx2]
      rw [ex] at k
      obtain ⟨k1, k2⟩ := k
      unfold NrR
      generalize (n : Rat) = N at *
      generalize ((G * pw j / 4611686018427387904 : Int) : Rat) = D at *
      generalize sS * fF (x * 2 ^ (j + 30)) = W at *
      constructor <;> grind
    · rw [if_neg hb]
      have ex : fF (x / 2 * 2 ^ (j + 1 + 30)) = fF (x * 2 ^ (j + 30)) := by
        rw [ep]
        refine congrArg fF ?_
        generalize 2 ^ (j + 30) = q
        have hx2 : x = 2 * (x / 2) := by omega
        calc x / 2 * (2 * q) = (2 * (x / 2)) * q := by rw [← Nat.mul_assoc, Nat.mul_comm (x / 2) 2]
          _ = x * q := by rw [← hx2]
      rw [ex] at ih
      obtain ⟨k1, k2⟩ := ih
      unfold NrR
      generalize (n : Rat) = N at *
      generalize (G : Rat) = D at *
      generalize sS * fF (x * 2 ^ (j + 30)) = W at *
      constructor <;> grind
/-- What the law says, of any y below MaxExp. -/
theorem near_facts {y : Int} (y0 : 0 ≤ y) (y1 : y < 137438953472) :
    sqL (y * 33554432) 5 ≤ sqH (y * 33554432) 5 ∧ exV y ≤ sqH (y * 33554432) 5 / 1073741824 + 1 ∧ sqL (y * 33554432) 5 / 1073741824 + 1 ≤ exV y + 256 ∧ sqH (y * 33554432) 5 - sqL (y * 33554432) 5 < 274877906944 ∧ 0 ≤ sqL (y * 33554432) 5 ∧ sqH (y * 33554432) 5 ≤ 4611686018427387904 := by
  obtain ⟨m, rfl⟩ : ∃ m : Nat, y = m := ⟨y.toNat, by omega⟩
  have hm : m * 33554432 ≤ 4611686018427387904 := by omega
  obtain ⟨⟨a, b, c⟩, ⟨d1, d2⟩, e1, e2⟩ := squares (m * 33554432) (x_le hm) 5
  have g := exG_near 37 0 m rfl (by have e : 2 ^ 37 = 137438953472 := by decide
                                    rw [e]; omega)
  have ep : m * 33554432 * 2 ^ 5 = m * 2 ^ (0 + 30) := by
    rw [Nat.mul_assoc]
  have cm : ((m : Int) * 33554432) = ((m * 33554432 : Nat) : Int) := by omega
  rw [cm]
  rw [ep, eE_5] at d1 d2 e1 e2
  obtain ⟨g1, g2⟩ := g
  have c37 : 43632 * ((37 : Nat) : Rat) = 1614384 := by decide +kernel
  rw [c37] at g1 g2
  generalize sS * fF (m * 2 ^ (0 + 30)) = F at *
  have hv : exV (m : Int) = exG 37 0 (m : Int) / 1073741824 := by unfold exV; rw [if_neg (by omega)]
  rw [hv]
  generalize exG 37 0 (m : Int) = G at *
  generalize sqL ((m * 33554432 : Nat) : Int) 5 = L at *
  generalize sqH ((m * 33554432 : Nat) : Int) 5 = H at *
  have i1 : G ≤ H + 2000000 := by
    refine Rat.intCast_le_intCast.1 ?_
    rw [Rat.intCast_add, show ((2000000 : Int) : Rat) = 2000000 from rfl]
    generalize (G : Rat) = G' at *
    generalize (H : Rat) = H' at *
    grind
  have i2 : L ≤ G + 2000000 := by
    refine Rat.intCast_le_intCast.1 ?_
    rw [Rat.intCast_add, show ((2000000 : Int) : Rat) = 2000000 from rfl]
    generalize (G : Rat) = G' at *
    generalize (L : Rat) = L' at *
    grind
  have i3 : H ≤ L + 2000000 := by
    refine Rat.intCast_le_intCast.1 ?_
    rw [Rat.intCast_add, show ((2000000 : Int) : Rat) = 2000000 from rfl]
    generalize (H : Rat) = H' at *
    generalize (L : Rat) = L' at *
    grind
  omega
end Go.Proofs.YtecacdghlefpfaaDoor
