/- The document's bounds of e to the minus x, in whole numbers: how far they lie from a power of 1 - 2^-62. Nothing of the program is in sight. -/
import Derived.Test.YtecacdghlefpfaaDoorExpoN
set_option linter.unusedVariables false
namespace Go.Proofs.YtecacdghlefpfaaDoor

def dnT (a t : Int) : Int := a * t / 4611686018427387904
def upT (a t : Int) : Int := a * t / 4611686018427387904 + (if 0 < a * t % 4611686018427387904 then 1 else 0)
def lastN (t : Int) : Nat → Int
  | 0 => 4611686018427387904
  | n + 1 => upT (lastN t n) t / ((n + 1 : Nat) : Int) + 1
def firstN (t : Int) : Nat → Int
  | 0 => 4611686018427387904
  | n + 1 => dnT (firstN t n) t / ((n + 1 : Nat) : Int)
def lowN (t : Int) : Nat → Int
  | 0 => 4611686018427387904
  | n + 1 => if n % 2 = 0 then lowN t n - min (lowN t n) (lastN t (n + 1)) else lowN t n + firstN t (n + 1)
def highN (t : Int) : Nat → Int
  | 0 => 4611686018427387904
  | n + 1 => if n % 2 = 0 then highN t n - firstN t (n + 1) else highN t n + lastN t (n + 1)
def lowF (t : Int) : Int := lowN t 24 - min (lowN t 24) (lastN t 24)
def highF (t : Int) : Int := min (highN t 24 + lastN t 24) 4611686018427387904
def sqL (t : Int) : Nat → Int
  | 0 => lowF t
  | n + 1 => dnT (sqL t n) (sqL t n)
def sqH (t : Int) : Nat → Int
  | 0 => highF t
  | n + 1 => upT (sqH t n) (sqH t n)

/-! Whole numbers, as ratios. -/
theorem dn_div {a t : Int} (m : Nat) (h : 0 ≤ a * t) : dnT a t / ((m + 1 : Nat) : Int) * ((m + 1 : Nat) : Int) * 4611686018427387904 ≤ a * t ∧ a * t ≤ (dnT a t / ((m + 1 : Nat) : Int) + 1) * ((m + 1 : Nat) : Int) * 4611686018427387904 := by
  unfold dnT
  have hM : (0 : Int) < ((m + 1 : Nat) : Int) := by omega
  have h1 := Int.ediv_mul_le (a * t) (b := 4611686018427387904) (by decide)
  have h2 := Int.lt_ediv_add_one_mul_self (a * t) (b := 4611686018427387904) (by decide)
  generalize a * t / 4611686018427387904 = q at *
  have h3 := Int.ediv_mul_le q (b := ((m + 1 : Nat) : Int)) (by omega)
  have h4 := Int.lt_ediv_add_one_mul_self q hM
  generalize q / ((m + 1 : Nat) : Int) * ((m + 1 : Nat) : Int) = d at *
  generalize (q / ((m + 1 : Nat) : Int) + 1) * ((m + 1 : Nat) : Int) = e at *
  omega
theorem up_div {a t : Int} (m : Nat) (h : 0 ≤ a * t) : (upT a t / ((m + 1 : Nat) : Int)) * ((m + 1 : Nat) : Int) * 4611686018427387904 ≤ a * t + 4611686018427387904 ∧ a * t ≤ (upT a t / ((m + 1 : Nat) : Int) + 1) * ((m + 1 : Nat) : Int) * 4611686018427387904 := by
  have hM : (0 : Int) < ((m + 1 : Nat) : Int) := by omega
  have h1 : upT a t * 4611686018427387904 ≤ a * t + 4611686018427387904 ∧ a * t ≤ upT a t * 4611686018427387904 := by
    unfold upT; generalize a * t = p at *; split <;> omega
  generalize upT a t = q at *
  have h3 := Int.ediv_mul_le q (b := ((m + 1 : Nat) : Int)) (by omega)
  have h4 := Int.lt_ediv_add_one_mul_self q hM
  generalize q / ((m + 1 : Nat) : Int) * ((m + 1 : Nat) : Int) = d at *
  generalize (q / ((m + 1 : Nat) : Int) + 1) * ((m + 1 : Nat) : Int) = e at *
  omega
theorem rat_le {a b c t : Int} (h : a * 4611686018427387904 ≤ b * t + c * 4611686018427387904) : (a : Rat) ≤ (b : Rat) * ((t : Rat) * hh) + (c : Rat) := by
  have h1 := Rat.intCast_le_intCast.2 h
  rw [Rat.intCast_add, Rat.intCast_mul, Rat.intCast_mul, Rat.intCast_mul] at h1
  have hb := hh_bd
  have h2 := Rat.mul_le_mul_of_nonneg_right h1 (Rat.le_of_lt hb.1)
  have e := hh_mul
  have c1 : ((4611686018427387904 : Int) : Rat) = 4611686018427387904 := rfl
  rw [c1] at h2
  clear c1 h h1 hb
  generalize ((a : Int) : Rat) = A at *
  generalize ((b : Int) : Rat) = B at *
  generalize ((c : Int) : Rat) = C at *
  generalize ((t : Int) : Rat) = T at *
  have e1 : A * 4611686018427387904 * hh = A := by rw [Rat.mul_assoc, Rat.mul_comm 4611686018427387904 hh, e, Rat.mul_one]
  have e2 : (B * T + C * 4611686018427387904) * hh = B * (T * hh) + C := by rw [Rat.add_mul, Rat.mul_assoc B, Rat.mul_assoc C, Rat.mul_comm 4611686018427387904 hh, e, Rat.mul_one]
  rw [e1, e2] at h2
  exact h2
theorem rat_ge {a b t : Int} (h : b * t ≤ a * 4611686018427387904) : (b : Rat) * ((t : Rat) * hh) ≤ (a : Rat) := by
  have h1 := Rat.intCast_le_intCast.2 h
  rw [Rat.intCast_mul, Rat.intCast_mul] at h1
  have hb := hh_bd
  have h2 := Rat.mul_le_mul_of_nonneg_right h1 (Rat.le_of_lt hb.1)
  have e := hh_mul
  have c1 : ((4611686018427387904 : Int) : Rat) = 4611686018427387904 := rfl
  rw [c1] at h2
  clear c1 h h1 hb
  generalize ((a : Int) : Rat) = A at *
  generalize ((b : Int) : Rat) = B at *
  generalize ((t : Int) : Rat) = T at *
  have e1 : A * 4611686018427387904 * hh = A := by rw [Rat.mul_assoc, Rat.mul_comm 4611686018427387904 hh, e, Rat.mul_one]
  rw [e1, Rat.mul_assoc] at h2
  exact h2
theorem first_step {f A A' x M d e s : Rat} (s0 : 0 ≤ s) (x0 : 0 ≤ x) (x1 : x ≤ 1) (hM : 1 ≤ M) (he : 0 ≤ e) (h1 : f ≤ s * A) (h2 : s * A ≤ f + e) (hA : A' * M = A * x) (h3 : d * M ≤ f * x) (h4 : f * x ≤ (d + 1) * M) :
    d ≤ s * A' ∧ s * A' ≤ d + (e + 1) := by
  have hM0 : 0 < M := by grind
  have k1 : f * x ≤ s * A * x := Rat.mul_le_mul_of_nonneg_right h1 x0
  have k2 : s * A * x ≤ (f + e) * x := Rat.mul_le_mul_of_nonneg_right h2 x0
  have k3 : e * x ≤ e * 1 := Rat.mul_le_mul_of_nonneg_left x1 he
  have k4 : e * 1 ≤ e * M := Rat.mul_le_mul_of_nonneg_left hM he
  have e1 : s * A' * M = s * A * x := by rw [Rat.mul_assoc, hA, Rat.mul_assoc]
  constructor
  · refine Rat.le_of_mul_le_mul_right (c := M) ?_ hM0
    rw [e1]; grind
  · refine Rat.le_of_mul_le_mul_right (c := M) ?_ hM0
    rw [e1]; grind
theorem last_step {f A A' x M d e s : Rat} (s0 : 0 ≤ s) (x0 : 0 ≤ x) (x1 : x ≤ 1) (hM : 1 ≤ M) (he : 0 ≤ e) (h1 : s * A ≤ f) (h2 : f ≤ s * A + e) (hA : A' * M = A * x) (h3 : d * M ≤ f * x + 1) (h4 : f * x ≤ (d + 1) * M) :
    s * A' ≤ d + 1 ∧ d + 1 ≤ s * A' + (e + 2) := by
  have hM0 : 0 < M := by grind
  have k1 : s * A * x ≤ f * x := Rat.mul_le_mul_of_nonneg_right h1 x0
  have k2 : f * x ≤ (s * A + e) * x := Rat.mul_le_mul_of_nonneg_right h2 x0
  have k3 : e * x ≤ e * 1 := Rat.mul_le_mul_of_nonneg_left x1 he
  have k4 : e * 1 ≤ e * M := Rat.mul_le_mul_of_nonneg_left hM he
  have e1 : s * A' * M = s * A * x := by rw [Rat.mul_assoc, hA, Rat.mul_assoc]
  constructor
  · refine Rat.le_of_mul_le_mul_right (c := M) ?_ hM0
    rw [e1]; grind
  · refine Rat.le_of_mul_le_mul_right (c := M) ?_ hM0
    have e2 : (s * A' + (e + 2)) * M = s * A * x + e * M + 2 * M := by rw [← e1]; grind
    rw [e2]; grind
/-- 2^62 -/
def sS : Rat := 4611686018427387904
theorem sS_hh : sS * hh = 1 := by unfold sS hh; grind
theorem firstN_nn {t : Int} (t0 : 0 ≤ t) : ∀ n, 0 ≤ firstN t n
  | 0 => by unfold firstN; omega
  | n + 1 => by
    have h := Int.mul_nonneg (firstN_nn t0 n) t0
    unfold firstN dnT
    exact Int.ediv_nonneg (Int.ediv_nonneg h (by decide)) (by omega)
theorem lastN_nn {t : Int} (t0 : 0 ≤ t) : ∀ n, 0 ≤ lastN t n
  | 0 => by unfold lastN; omega
  | n + 1 => by
    have h := Int.mul_nonneg (lastN_nn t0 n) t0
    have h1 : 0 ≤ upT (lastN t n) t := by
      have := Int.ediv_nonneg h (show (0 : Int) ≤ 4611686018427387904 by decide)
      unfold upT; split <;> omega
    have := Int.ediv_nonneg h1 (show (0 : Int) ≤ ((n + 1 : Nat) : Int) by omega)
    unfold lastN; omega
theorem firstN_rat {t : Int} (t0 : 0 ≤ t) (x1 : (t : Rat) * hh ≤ 1) : ∀ n, ((firstN t n : Int) : Rat) ≤ sS * tT n ((t : Rat) * hh) ∧ sS * tT n ((t : Rat) * hh) ≤ ((firstN t n : Int) : Rat) + (n : Rat)
  | 0 => by
    have e : ((firstN t 0 : Int) : Rat) = sS * tT 0 ((t : Rat) * hh) := by
      show ((4611686018427387904 : Int) : Rat) = sS * 1
      rw [Rat.mul_one]; rfl
    rw [e]
    refine ⟨Rat.le_refl, ?_⟩
    rw [show ((0 : Nat) : Rat) = 0 from rfl, Rat.add_zero]
    exact Rat.le_refl
  | n + 1 => by
    obtain ⟨a, b⟩ := firstN_rat t0 x1 n
    have hx : 0 ≤ (t : Rat) * hh := Rat.mul_nonneg (Rat.intCast_nonneg.2 t0) (Rat.le_of_lt hh_bd.1)
    obtain ⟨d1, d2⟩ := dn_div (a := firstN t n) n (Int.mul_nonneg (firstN_nn t0 n) t0)
    have r1 := rat_le (a := firstN t (n + 1) * ((n + 1 : Nat) : Int)) (b := firstN t n) (c := 0) (t := t) (by rw [Int.zero_mul, Int.add_zero]; exact d1)
    have r2 := rat_ge (a := (firstN t (n + 1) + 1) * ((n + 1 : Nat) : Int)) (b := firstN t n) (t := t) d2
    rw [Rat.intCast_mul] at r1 r2
    rw [Rat.intCast_add] at r2
    have c : (((n + 1 : Nat) : Int) : Rat) = ((n + 1 : Nat) : Rat) := rfl
    rw [c] at r1 r2
    have k := first_step (s := sS) (e := (n : Rat)) (by decide +kernel) hx x1 (cast_one n) (cast_nonneg n) a b (tT_mul n _) (d := ((firstN t (n + 1) : Int) : Rat)) (by simpa [Rat.add_zero] using r1) r2
    refine ⟨k.1, ?_⟩
    have cn : ((n + 1 : Nat) : Rat) = (n : Rat) + 1 := by grind
    rw [cn]; exact k.2
theorem lastN_rat {t : Int} (t0 : 0 ≤ t) (x1 : (t : Rat) * hh ≤ 1) : ∀ n, sS * tT n ((t : Rat) * hh) ≤ ((lastN t n : Int) : Rat) ∧ ((lastN t n : Int) : Rat) ≤ sS * tT n ((t : Rat) * hh) + 2 * (n : Rat)
  | 0 => by
    have e : ((lastN t 0 : Int) : Rat) = sS * tT 0 ((t : Rat) * hh) := by
      show ((4611686018427387904 : Int) : Rat) = sS * 1
      rw [Rat.mul_one]; rfl
    rw [e]
    refine ⟨Rat.le_refl, ?_⟩
    rw [show 2 * ((0 : Nat) : Rat) = 0 from by decide +kernel, Rat.add_zero]
    exact Rat.le_refl
  | n + 1 => by
    obtain ⟨a, b⟩ := lastN_rat t0 x1 n
    have hx : 0 ≤ (t : Rat) * hh := Rat.mul_nonneg (Rat.intCast_nonneg.2 t0) (Rat.le_of_lt hh_bd.1)
    obtain ⟨d1, d2⟩ := up_div (a := lastN t n) n (Int.mul_nonneg (lastN_nn t0 n) t0)
    have r1 := rat_le (a := upT (lastN t n) t / ((n + 1 : Nat) : Int) * ((n + 1 : Nat) : Int)) (b := lastN t n) (c := 1) (t := t) (by rw [Int.one_mul]; exact d1)
    have r2 := rat_ge (a := (upT (lastN t n) t / ((n + 1 : Nat) : Int) + 1) * ((n + 1 : Nat) : Int)) (b := lastN t n) (t := t) d2
    rw [Rat.intCast_mul] at r1 r2
    rw [Rat.intCast_add] at r2
    have c : (((n + 1 : Nat) : Int) : Rat) = ((n + 1 : Nat) : Rat) := rfl
    rw [c] at r1 r2
    have k := last_step (s := sS) (e := 2 * (n : Rat)) (by decide +kernel) hx x1 (cast_one n) (by have := cast_nonneg n; grind) a b (tT_mul n _) r1 r2
    have e : ((lastN t (n + 1) : Int) : Rat) = ((upT (lastN t n) t / ((n + 1 : Nat) : Int) : Int) : Rat) + 1 := by
      show ((upT (lastN t n) t / ((n + 1 : Nat) : Int) + 1 : Int) : Rat) = _
      rw [Rat.intCast_add]; rfl
    rw [e]
    have cn : ((n + 1 : Nat) : Rat) = (n : Rat) + 1 := by grind
    rw [cn]
    exact ⟨k.1, by have := k.2; grind⟩
theorem qQ_one {x : Rat} (x0 : 0 ≤ x) (x1 : x ≤ 1) : ∀ m, (m % 2 = 0 → qQ m x ≤ 1) ∧ (m % 2 = 1 → qQ m x + tT m x ≤ 1)
  | 0 => by
    constructor
    · intro _; show (1 : Rat) ≤ 1; decide +kernel
    · omega
  | m + 1 => by
    obtain ⟨a, b⟩ := qQ_one x0 x1 m
    have f := tT_fall x0 x1 m
    by_cases h : m % 2 = 0
    · have c := a h
      rw [qQ, if_pos h]
      clear a b
      generalize tT (m + 1) x = E at *
      generalize qQ m x = A at *
      constructor
      · omega
      · intro _; grind
    · have c := b (by omega)
      rw [qQ, if_neg h]
      clear a b
      generalize tT (m + 1) x = E at *
      generalize tT m x = F at *
      generalize qQ m x = A at *
      constructor
      · intro _; grind
      · omega
/-- The sums, with what they lie apart: n steps, 50 a step. -/
theorem low_high {t : Int} (t0 : 0 ≤ t) (x1 : (t : Rat) * hh ≤ 1) : ∀ n, n ≤ 24 →
    (0 ≤ lowN t n ∧ ((lowN t n : Int) : Rat) ≤ sS * qQ n ((t : Rat) * hh) ∧ sS * qQ n ((t : Rat) * hh) ≤ ((lowN t n : Int) : Rat) + 50 * (n : Rat)) ∧
    (sS * qQ n ((t : Rat) * hh) ≤ ((highN t n : Int) : Rat) ∧ ((highN t n : Int) : Rat) ≤ sS * qQ n ((t : Rat) * hh) + 50 * (n : Rat))
  | 0, _ => by
    have e : ((lowN t 0 : Int) : Rat) = sS * qQ 0 ((t : Rat) * hh) := by
      show ((4611686018427387904 : Int) : Rat) = sS * 1
      rw [Rat.mul_one]; rfl
    have e' : ((highN t 0 : Int) : Rat) = sS * qQ 0 ((t : Rat) * hh) := e
    rw [e, e', show 50 * ((0 : Nat) : Rat) = 0 from by decide +kernel, Rat.add_zero]
    exact ⟨⟨by show (0 : Int) ≤ 4611686018427387904; decide, Rat.le_refl, Rat.le_refl⟩, Rat.le_refl, Rat.le_refl⟩
  | n + 1, hn => by
    obtain ⟨⟨l0, l1, l2⟩, h1, h2⟩ := low_high t0 x1 n (by omega)
    obtain ⟨f1, f2⟩ := firstN_rat t0 x1 (n + 1)
    obtain ⟨g1, g2⟩ := lastN_rat t0 x1 (n + 1)
    have hx : 0 ≤ (t : Rat) * hh := Rat.mul_nonneg (Rat.intCast_nonneg.2 t0) (Rat.le_of_lt hh_bd.1)
    have qp := (qQ_pos hx x1 (n + 1)).1
    have hs : (0 : Rat) ≤ sS := by decide +kernel
    have qs := Rat.mul_nonneg hs qp
    have fn := firstN_nn t0 (n + 1)
    have cn : ((n + 1 : Nat) : Rat) = (n : Rat) + 1 := by grind
    have bn : (n : Rat) ≤ 23 := by
      have := (Rat.natCast_le_natCast (a := n) (b := 23)).2 (by omega)
      exact this
    have b0 := cast_nonneg n
    rw [cn] at f2 g2
    rw [cn]
    by_cases hm : n % 2 = 0
    · have el : lowN t (n + 1) = lowN t n - min (lowN t n) (lastN t (n + 1)) := by rw [lowN, if_pos hm]
      have eh : highN t (n + 1) = highN t n - firstN t (n + 1) := by rw [highN, if_pos hm]
      have eq : qQ (n + 1) ((t : Rat) * hh) = qQ n ((t : Rat) * hh) - tT (n + 1) ((t : Rat) * hh) := by rw [qQ, if_pos hm]
      have es : sS * qQ (n + 1) ((t : Rat) * hh) = sS * qQ n ((t : Rat) * hh) - sS * tT (n + 1) ((t : Rat) * hh) := by rw [eq]; grind
      rw [es] at qs
      rw [es, el, eh]
      clear eq es el eh hm qp cn
      generalize sS * qQ n ((t : Rat) * hh) = Q at *
      generalize sS * tT (n + 1) ((t : Rat) * hh) = T at *
      generalize (n : Rat) = nn at *
      have ch : ((highN t n - firstN t (n + 1) : Int) : Rat) = ((highN t n : Int) : Rat) - ((firstN t (n + 1) : Int) : Rat) := Rat.intCast_sub _ _
      rw [ch]
      have cl : (0 ≤ lowN t n - min (lowN t n) (lastN t (n + 1))) ∧ (((lowN t n - min (lowN t n) (lastN t (n + 1)) : Int) : Rat) = ((lowN t n : Int) : Rat) - ((lastN t (n + 1) : Int) : Rat) ∨ (((lowN t n - min (lowN t n) (lastN t (n + 1)) : Int) : Rat) = 0 ∧ ((lowN t n : Int) : Rat) ≤ ((lastN t (n + 1) : Int) : Rat))) := by
        refine ⟨by omega, ?_⟩
        rcases Int.le_total (lastN t (n + 1)) (lowN t n) with h | h
        · left; rw [Int.min_eq_right h]; exact Rat.intCast_sub _ _
        · right
          rw [Int.min_eq_left h, Int.sub_self]
          exact ⟨rfl, Rat.intCast_le_intCast.2 h⟩
      obtain ⟨c0, cl⟩ := cl
      generalize ((lowN t n - min (lowN t n) (lastN t (n + 1)) : Int) : Rat) = L' at *
      generalize ((lowN t n : Int) : Rat) = L at *
      generalize ((highN t n : Int) : Rat) = H at *
      generalize ((firstN t (n + 1) : Int) : Rat) = F at *
      generalize ((lastN t (n + 1) : Int) : Rat) = G at *
      refine ⟨⟨c0, ?_, ?_⟩, ?_, ?_⟩
      · rcases cl with rfl | ⟨rfl, _⟩ <;> grind
      · rcases cl with rfl | ⟨rfl, _⟩ <;> grind
      · grind
      · grind
    · have el : lowN t (n + 1) = lowN t n + firstN t (n + 1) := by rw [lowN, if_neg hm]
      have eh : highN t (n + 1) = highN t n + lastN t (n + 1) := by rw [highN, if_neg hm]
      have eq : qQ (n + 1) ((t : Rat) * hh) = qQ n ((t : Rat) * hh) + tT (n + 1) ((t : Rat) * hh) := by rw [qQ, if_neg hm]
      have es : sS * qQ (n + 1) ((t : Rat) * hh) = sS * qQ n ((t : Rat) * hh) + sS * tT (n + 1) ((t : Rat) * hh) := by rw [eq, Rat.mul_add]
      have c0 : 0 ≤ lowN t n + firstN t (n + 1) := by omega
      rw [es, el, eh, Rat.intCast_add, Rat.intCast_add]
      clear eq es el eh hm qp cn qs
      generalize sS * qQ n ((t : Rat) * hh) = Q at *
      generalize sS * tT (n + 1) ((t : Rat) * hh) = T at *
      generalize (n : Rat) = nn at *
      refine ⟨⟨c0, ?_, ?_⟩, ?_, ?_⟩ <;> (generalize ((lowN t n : Int) : Rat) = L at *; generalize ((highN t n : Int) : Rat) = H at *; generalize ((firstN t (n + 1) : Int) : Rat) = F at *; generalize ((lastN t (n + 1) : Int) : Rat) = G at *; grind)
end Go.Proofs.YtecacdghlefpfaaDoor
