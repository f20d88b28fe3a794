/- The document's row for e to the minus x, in plain numbers: how near it comes to what the table tells. Nothing of the program is in sight. -/
import Derived.Test.YtecacdghlefpfaaDoorExpoS
set_option linter.unusedVariables false
namespace Go.Proofs.YtecacdghlefpfaaDoor

/-! Members of the row, and its sums, as ratios. -/
theorem le_of_kmul {y k b : Rat} (hk : 1 ≤ k) (hb : 0 ≤ b) (h : y * k ≤ b) : y ≤ b := by
  rcases (Rat.le_total : y ≤ b ∨ b ≤ y) with h' | h'
  · exact h'
  · have y0 : 0 ≤ y := Rat.le_trans hb h'
    have := Rat.mul_le_mul_of_nonneg_left hk y0
    grind
theorem nonneg_of_kmul {y k : Rat} (hk : 1 ≤ k) (h : 0 ≤ y * k) : 0 ≤ y := by
  refine Rat.le_of_mul_le_mul_right (c := k) ?_ (by grind)
  grind
theorem cast_one (m : Nat) : (1 : Rat) ≤ ((m + 1 : Nat) : Rat) := by
  have := (Rat.natCast_le_natCast (a := 1) (b := m + 1)).2 (by omega)
  simpa using this
theorem cast_nonneg (m : Nat) : (0 : Rat) ≤ (m : Rat) := by
  have := (Rat.natCast_le_natCast (a := 0) (b := m)).2 (by omega)
  simpa using this
/-- x^m / m! -/
def tT : Nat → Rat → Rat
  | 0, _ => 1
  | m + 1, x => tT m x * x / ((m + 1 : Nat) : Rat)
theorem tT_mul (m : Nat) (x : Rat) : tT (m + 1) x * ((m + 1 : Nat) : Rat) = tT m x * x := by
  have h := cast_one m
  show tT m x * x / ((m + 1 : Nat) : Rat) * ((m + 1 : Nat) : Rat) = _
  exact Rat.div_mul_cancel (by grind)
theorem tT_bd {x : Rat} (x0 : 0 ≤ x) (x1 : x ≤ 1) : ∀ m, 0 ≤ tT m x ∧ tT m x ≤ 1
  | 0 => by unfold tT; grind
  | m + 1 => by
    obtain ⟨a, b⟩ := tT_bd x0 x1 m
    have e := tT_mul m x
    have k := cast_one m
    have h0 : 0 ≤ tT m x * x := Rat.mul_nonneg a x0
    have h1 : tT m x * x ≤ tT m x * 1 := Rat.mul_le_mul_of_nonneg_left x1 a
    rw [← e] at h0 h1
    exact ⟨nonneg_of_kmul k h0, le_of_kmul k (by grind) (by grind)⟩
theorem tT_fall {x : Rat} (x0 : 0 ≤ x) (x1 : x ≤ 1) (m : Nat) : tT (m + 1) x ≤ tT m x := by
  obtain ⟨a, b⟩ := tT_bd x0 x1 m
  have e := tT_mul m x
  have h1 : tT m x * x ≤ tT m x * 1 := Rat.mul_le_mul_of_nonneg_left x1 a
  rw [← e] at h1
  exact le_of_kmul (cast_one m) a (by grind)
theorem tT_step {x h : Rat} (x0 : 0 ≤ x) (h0 : 0 ≤ h) (x1 : x + h ≤ 1) : ∀ m,
    0 ≤ tT (m + 1) (x + h) - tT (m + 1) x - h * tT m x ∧ tT (m + 1) (x + h) - tT (m + 1) x - h * tT m x ≤ h * h
  | 0 => by
    have e1 := tT_mul 0 (x + h)
    have e2 := tT_mul 0 x
    have hh : 0 ≤ h * h := Rat.mul_nonneg h0 h0
    have c1 : ((0 + 1 : Nat) : Rat) = 1 := rfl
    rw [c1] at e1 e2
    have c2 : ∀ y, tT 0 y = 1 := fun _ => rfl
    rw [c2] at e1 e2
    rw [c2]
    grind
  | m + 1 => by
    obtain ⟨i0, i1⟩ := tT_step x0 h0 x1 m
    have e1 := tT_mul (m + 1) (x + h)
    have e2 := tT_mul (m + 1) x
    have e3 := tT_mul m x
    have b := tT_bd x0 (by grind) m
    have hh : 0 ≤ h * h := Rat.mul_nonneg h0 h0
    have k := cast_one m
    have ck : ((m + 1 + 1 : Nat) : Rat) = ((m + 1 : Nat) : Rat) + 1 := by grind
    rw [ck] at e1 e2
    generalize ((m + 1 : Nat) : Rat) = K at *
    obtain ⟨r, hr⟩ : ∃ r, tT (m + 1) (x + h) - tT (m + 1) x - h * tT m x = r := ⟨_, rfl⟩
    rw [hr] at i0 i1
    have e4 : (tT (m + 1 + 1) (x + h) - tT (m + 1 + 1) x - h * tT (m + 1) x) * (K + 1) = h * h * tT m x + r * (x + h) := by
      have : tT (m + 1) (x + h) = r + tT (m + 1) x + h * tT m x := by grind
      rw [this] at e1
      grind
    have p1 : 0 ≤ h * h * tT m x := Rat.mul_nonneg hh b.1
    have p2 : h * h * tT m x ≤ h * h * 1 := Rat.mul_le_mul_of_nonneg_left b.2 hh
    have p3 : 0 ≤ r * (x + h) := Rat.mul_nonneg i0 (by grind)
    have p4 : r * (x + h) ≤ r * 1 := Rat.mul_le_mul_of_nonneg_left x1 i0
    refine ⟨nonneg_of_kmul (k := K + 1) (by grind) (by grind), ?_⟩
    refine Rat.le_of_mul_le_mul_right (c := K + 1) ?_ (by grind)
    have p5 : h * h * 1 ≤ h * h * K := Rat.mul_le_mul_of_nonneg_left k hh
    grind
/-- 1 - x + x^2/2! - .. -/
def qQ : Nat → Rat → Rat
  | 0, _ => 1
  | m + 1, x => if m % 2 = 0 then qQ m x - tT (m + 1) x else qQ m x + tT (m + 1) x
theorem qQ_pos {x : Rat} (x0 : 0 ≤ x) (x1 : x ≤ 1) : ∀ m, 0 ≤ qQ m x ∧ (m % 2 = 0 → tT m x ≤ qQ m x)
  | 0 => by unfold qQ tT; grind
  | m + 1 => by
    obtain ⟨i0, i1⟩ := qQ_pos x0 x1 m
    have f := tT_fall x0 x1 m
    have b := tT_bd x0 x1 (m + 1)
    by_cases h : m % 2 = 0
    · rw [qQ, if_pos h]
      have := i1 h
      exact ⟨by grind, fun h' => by omega⟩
    · rw [qQ, if_neg h]
      exact ⟨by grind, fun h' => by grind⟩
theorem qQ_step {x h : Rat} (x0 : 0 ≤ x) (h0 : 0 ≤ h) (x1 : x + h ≤ 1) : ∀ n : Nat,
    -(((n + 1 : Nat) : Rat) * (h * h)) ≤ qQ (n + 1) (x + h) - qQ (n + 1) x + h * qQ n x ∧ qQ (n + 1) (x + h) - qQ (n + 1) x + h * qQ n x ≤ ((n + 1 : Nat) : Rat) * (h * h)
  | 0 => by
    obtain ⟨s0, s1⟩ := tT_step x0 h0 x1 0
    have hh : 0 ≤ h * h := Rat.mul_nonneg h0 h0
    have c1 : ((0 + 1 : Nat) : Rat) = 1 := rfl
    have c2 : ∀ y, qQ (0 + 1) y = 1 - tT (0 + 1) y := fun _ => rfl
    have c3 : tT 0 x = 1 := rfl
    have c4 : qQ 0 x = 1 := rfl
    rw [c1, c2, c2, c4]
    rw [c3] at s0 s1
    grind
  | n + 1 => by
    obtain ⟨i0, i1⟩ := qQ_step x0 h0 x1 n
    obtain ⟨s0, s1⟩ := tT_step x0 h0 x1 (n + 1)
    have hh : 0 ≤ h * h := Rat.mul_nonneg h0 h0
    have ck : ((n + 1 + 1 : Nat) : Rat) = ((n + 1 : Nat) : Rat) + 1 := by grind
    rw [ck]
    have e : ∀ m y, qQ (m + 1) y = if m % 2 = 0 then qQ m y - tT (m + 1) y else qQ m y + tT (m + 1) y := fun _ _ => rfl
    have e1 := e (n + 1) (x + h)
    have e2 := e (n + 1) x
    have en := e n x
    clear e
    rw [e1, e2]
    clear e1 e2 ck
    generalize ((n + 1 : Nat) : Rat) = K at *
    generalize tT (n + 1 + 1) (x + h) = D at *
    generalize tT (n + 1 + 1) x = E at *
    generalize tT (n + 1) x = F at *
    generalize qQ (n + 1) (x + h) = A at *
    generalize qQ (n + 1) x = B at *
    generalize qQ n x = C at *
    by_cases hn : n % 2 = 0
    · rw [if_neg (by omega), if_neg (by omega)]
      rw [if_pos hn] at en
      clear hn
      subst en
      constructor <;> grind
    · rw [if_pos (by omega), if_pos (by omega)]
      rw [if_neg hn] at en
      clear hn
      subst en
      constructor <;> grind

/-! The row beside a power of 1 - 2^-62. -/
def hh : Rat := 1 / 4611686018427387904
theorem hh_mul : hh * 4611686018427387904 = 1 := by unfold hh; grind
theorem hh_bd : 0 < hh ∧ hh ≤ 1 / 100 := by unfold hh; grind
theorem tT_fact {x : Rat} (x0 : 0 ≤ x) (x1 : x ≤ 1) : ∀ m, tT m x * ((Nat.rec 1 (fun n f => (n + 1) * f) m : Nat) : Rat) ≤ 1
  | 0 => by
    show (1 : Rat) * ((1 : Nat) : Rat) ≤ 1
    decide +kernel
  | m + 1 => by
    have ih := tT_fact x0 x1 m
    have e := tT_mul m x
    have b := tT_bd x0 x1 m
    show tT (m + 1) x * (((m + 1) * (Nat.rec 1 (fun n f => (n + 1) * f) m : Nat) : Nat) : Rat) ≤ 1
    have c := cast_nonneg (Nat.rec 1 (fun n f => (n + 1) * f) m : Nat)
    rw [show (((m + 1) * (Nat.rec 1 (fun n f => (n + 1) * f) m : Nat) : Nat) : Rat) = ((m + 1 : Nat) : Rat) * ((Nat.rec 1 (fun n f => (n + 1) * f) m : Nat) : Rat) from by grind]
    generalize ((Nat.rec 1 (fun n f => (n + 1) * f) m : Nat) : Rat) = f at *
    have h1 : tT (m + 1) x * (((m + 1 : Nat) : Rat) * f) = tT m x * f * x := by
      have : tT (m + 1) x * (((m + 1 : Nat) : Rat) * f) = tT (m + 1) x * ((m + 1 : Nat) : Rat) * f := by grind
      rw [this, e]; grind
    rw [h1]
    have h2 : tT m x * f * x ≤ tT m x * f * 1 := Rat.mul_le_mul_of_nonneg_left x1 (Rat.mul_nonneg b.1 c)
    grind
theorem tT_24 {x : Rat} (x0 : 0 ≤ x) (x1 : x ≤ 1) : tT 24 x ≤ hh := by
  have h := tT_fact x0 x1 24
  have b := (tT_bd x0 x1 24).1
  have f : ((Nat.rec 1 (fun n f => (n + 1) * f) 24 : Nat) : Rat) = 620448401733239439360000 := by
    have : (Nat.rec 1 (fun n f => (n + 1) * f) 24 : Nat) = 620448401733239439360000 := by decide +kernel
    rw [this]; rfl
  rw [f] at h
  have k := hh_mul
  refine Rat.le_of_mul_le_mul_right (c := 4611686018427387904) ?_ (by decide +kernel)
  grind
/-- The power. -/
def fF (t : Nat) : Rat := (1 - hh) ^ t
theorem fF_bd (t : Nat) : 0 ≤ fF t ∧ fF t ≤ 1 := by
  have h := hh_bd
  induction t with
  | zero => unfold fF; simp; decide +kernel
  | succ t ih =>
    have e : fF (t + 1) = fF t * (1 - hh) := Rat.pow_succ _ _
    rw [e]
    have h1 : 0 ≤ fF t * (1 - hh) := Rat.mul_nonneg ih.1 (by grind)
    have h2 : fF t * (1 - hh) ≤ fF t * 1 := Rat.mul_le_mul_of_nonneg_left (by grind) ih.1
    grind
theorem fF_add (s t : Nat) : fF (s + t) = fF s * fF t := by
  induction t with
  | zero => unfold fF; simp
  | succ t ih =>
    have e : ∀ m, fF (m + 1) = fF m * (1 - hh) := fun m => Rat.pow_succ _ _
    rw [← Nat.add_assoc, e, ih, e]; grind
theorem qQ_fF : ∀ t : Nat, (t : Rat) * hh ≤ 1 → -((t : Rat) * (25 * (hh * hh))) ≤ qQ 24 ((t : Rat) * hh) - fF t ∧ qQ 24 ((t : Rat) * hh) - fF t ≤ (t : Rat) * (25 * (hh * hh))
  | 0, _ => by
    have e1 : fF 0 = 1 := by unfold fF; simp
    have e2 : qQ 24 (((0 : Nat) : Rat) * hh) = 1 := by
      rw [show (((0 : Nat) : Rat) * hh) = 0 from by grind]; decide +kernel
    rw [e1, e2]; simp; decide +kernel
  | t + 1, h => by
    have hb := hh_bd
    have ct : ((t + 1 : Nat) : Rat) = (t : Rat) + 1 := by grind
    rw [ct] at h
    rw [ct]
    have t0 := cast_nonneg t
    have h' : (t : Rat) * hh ≤ 1 := by grind
    obtain ⟨i0, i1⟩ := qQ_fF t h'
    have x0 : 0 ≤ (t : Rat) * hh := Rat.mul_nonneg t0 (by grind)
    have ex : ((t : Rat) + 1) * hh = (t : Rat) * hh + hh := by grind
    rw [ex] at h
    obtain ⟨s0, s1⟩ := qQ_step x0 (Rat.le_of_lt hb.1) h 23
    have T := tT_24 x0 h'
    have T0 := (tT_bd x0 h' 24).1
    have e : qQ 24 ((t : Rat) * hh) = qQ 23 ((t : Rat) * hh) + tT 24 ((t : Rat) * hh) := rfl
    have ef : fF (t + 1) = fF t * (1 - hh) := Rat.pow_succ _ _
    rw [ex, ef]
    have c24 : ((23 + 1 : Nat) : Rat) = 24 := rfl
    rw [c24] at s0 s1
    change -(24 * (hh * hh)) ≤ qQ 24 ((t : Rat) * hh + hh) - qQ 24 ((t : Rat) * hh) + hh * qQ 23 ((t : Rat) * hh) at s0
    change qQ 24 ((t : Rat) * hh + hh) - qQ 24 ((t : Rat) * hh) + hh * qQ 23 ((t : Rat) * hh) ≤ 24 * (hh * hh) at s1
    have m1 : hh * tT 24 ((t : Rat) * hh) ≤ hh * hh := Rat.mul_le_mul_of_nonneg_left T (Rat.le_of_lt hb.1)
    have m0 : 0 ≤ hh * tT 24 ((t : Rat) * hh) := Rat.mul_nonneg (Rat.le_of_lt hb.1) T0
    generalize qQ 24 ((t : Rat) * hh + hh) = A at *
    generalize qQ 24 ((t : Rat) * hh) = B at *
    generalize qQ 23 ((t : Rat) * hh) = C at *
    generalize tT 24 ((t : Rat) * hh) = D at *
    generalize fF t = E at *
    have hq : hh * C = hh * B - hh * D := by rw [e]; grind
    rw [hq] at s0 s1
    have q0 : 0 ≤ 1 - hh := by grind
    have q1 : 1 - hh ≤ 1 := by grind
    have e5 : ((t : Rat) + 1) * (25 * (hh * hh)) = (t : Rat) * (25 * (hh * hh)) + 25 * (hh * hh) := by
      rw [Rat.add_mul, Rat.one_mul]
    have z0 : 0 ≤ (t : Rat) * (25 * (hh * hh)) := by
      refine Rat.mul_nonneg t0 (Rat.mul_nonneg (by decide +kernel) (Rat.mul_nonneg (Rat.le_of_lt hb.1) (Rat.le_of_lt hb.1)))
    generalize (t : Rat) * (25 * (hh * hh)) = Z at *
    have r1 : (B - E) * (1 - hh) ≤ Z * (1 - hh) := Rat.mul_le_mul_of_nonneg_right i1 q0
    have r0 : -Z * (1 - hh) ≤ (B - E) * (1 - hh) := Rat.mul_le_mul_of_nonneg_right i0 q0
    have r2 : Z * (1 - hh) ≤ Z * 1 := Rat.mul_le_mul_of_nonneg_left q1 z0
    rw [e5]
    constructor <;> grind
end Go.Proofs.YtecacdghlefpfaaDoor
