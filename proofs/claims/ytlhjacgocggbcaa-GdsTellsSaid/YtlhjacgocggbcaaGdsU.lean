/- What is paid, exactly; parts of runs. Nothing of the program is walked. -/
import Derived.Test.YtlhjacgocggbcaaGdsT
set_option linter.unusedVariables false
namespace Go.Proofs.Ytlhjacgocggbcaa
open Go.RowKit

theorem payOne_le {Z C : Nat → Int} {n nc : Nat} (h : mayP Z C n nc) {i : Nat} (hi : i < n) : 0 ≤ payOne Z C i ∧ payOne Z C i ≤ 1099511627776 := by
  obtain ⟨z0, z1, c0, c1⟩ := h.2.2 i hi
  have ez : ofS (Z i) = Z i := by unfold ofS; rw [if_neg (by omega)]
  have ec : ofS (C i) = C i := by unfold ofS; rw [if_neg (by omega)]
  have hz : ¬ Z i = 0 := by omega
  have q0 : 0 ≤ C i * 1048576 / Z i := Int.ediv_nonneg (by omega) (by omega)
  have q1 : C i * 1048576 / Z i * Z i ≤ C i * 1048576 := Int.ediv_mul_le _ hz
  have q2 : C i * 1048576 / Z i ≤ C i * 1048576 := Int.ediv_le_self _ (by omega)
  have e : wgtO Z C i = C i * 1048576 / Z i := by
    unfold wgtO weightS
    rw [ez, ec, if_neg (by omega), if_neg (by decide)]
    have hp : partE (C i * 1048576 / Z i) (Z i) = 0 := by unfold partE; rw [if_neg hz, if_neg (by omega)]
    unfold floS
    rw [if_pos hp]
    unfold partV
    rw [if_neg hz, if_neg (by omega)]
  unfold payOne
  rw [e, ez]
  have q3 : Z i * (C i * 1048576 / Z i) = C i * 1048576 / Z i * Z i := Int.mul_comm _ _
  have q4 : 0 ≤ Z i * (C i * 1048576 / Z i) := Int.mul_nonneg (by omega) q0
  unfold mulS
  rw [if_pos (by omega)]
  omega
def sumF (f : Nat → Int) : Nat → Int
  | 0 => 0
  | i + 1 => sumF f i + f i
theorem sumF_congr {f g : Nat → Int} : ∀ {i : Nat}, (∀ j, j < i → f j = g j) → sumF f i = sumF g i
  | 0, _ => rfl
  | i + 1, h => by unfold sumF; rw [sumF_congr (fun j hj => h j (by omega)), h i (by omega)]
theorem sumF_add (f : Nat → Int) (k : Nat) : ∀ i, sumF f (k + i) = sumF f k + sumF (fun j => f (k + j)) i
  | 0 => by show sumF f k = sumF f k + 0; omega
  | i + 1 => by
    show sumF f (k + i) + f (k + i) = sumF f k + (sumF (fun j => f (k + j)) i + f (k + i))
    rw [sumF_add f k i]; omega
theorem sumF_le {f : Nat → Int} {B : Int} : ∀ {i : Nat}, (∀ j, j < i → 0 ≤ f j ∧ f j ≤ B) → 0 ≤ sumF f i ∧ sumF f i ≤ i * B
  | 0, _ => by show (0 : Int) ≤ 0 ∧ (0 : Int) ≤ _; omega
  | i + 1, h => by
    have a := sumF_le (i := i) fun j hj => h j (by omega)
    have b := h i (by omega)
    have e : ((i + 1 : Nat) : Int) * B = i * B + B := by rw [Int.natCast_add, Int.add_mul]; simp
    unfold sumF
    rw [e]
    omega
/-- What a call pays. -/
def payF (Z C : Nat → Int) (n nc ml : Nat) (A : Nat → Int) (H : Nat → Bool) (j : Nat) : Int := if paidB n nc ml A H j = true then payOne Z C (A j).toNat else 0
theorem payF_le {Z C : Nat → Int} {n nc ml : Nat} (h : mayP Z C n nc) (A : Nat → Int) (H : Nat → Bool) (j : Nat) : 0 ≤ payF Z C n nc ml A H j ∧ payF Z C n nc ml A H j ≤ 1099511627776 := by
  unfold payF
  split
  · rename_i hb
    unfold paidB hasB at hb
    simp only [Bool.and_eq_true, decide_eq_true_eq] at hb
    exact payOne_le h (by omega)
  · omega
theorem paidS_sum {Z C : Nat → Int} {n nc ml : Nat} (h : mayP Z C n nc) (A : Nat → Int) (H : Nat → Bool) : ∀ i, i ≤ 60 → paidS Z C n nc ml A H i = sumF (payF Z C n nc ml A H) i
  | 0, _ => rfl
  | i + 1, hi => by
    have ih := paidS_sum h A H (ml := ml) i (by omega)
    have hs := sumF_le (f := payF Z C n nc ml A H) (i := i) fun j _ => payF_le h A H j
    have hp := payF_le h (ml := ml) A H i
    unfold paidS sumF
    rw [ih]
    unfold payF at hp ⊢
    by_cases hb : paidB n nc ml A H i = true
    · rw [if_pos hb] at hp
      rw [if_pos hb, if_pos hb]
      unfold payF at hs
      unfold addS
      rw [if_pos (by omega)]
    · rw [if_neg hb, if_neg hb]; omega
theorem paidS_le {Z C : Nat → Int} {n nc ml : Nat} (h : mayP Z C n nc) (A : Nat → Int) (H : Nat → Bool) {i : Nat} (hi : i ≤ 60) : 0 ≤ paidS Z C n nc ml A H i ∧ paidS Z C n nc ml A H i ≤ 65970697666560 := by
  have hs := sumF_le (f := payF Z C n nc ml A H) (i := i) fun j _ => payF_le h A H j
  rw [paidS_sum h A H i hi]
  omega
/-- What is paid for the parts, together. -/
theorem paidS_parts {Z C : Nat → Int} {n nc m k : Nat} (h : mayP Z C n nc) (A : Nat → Int) (H : Nat → Bool) (hm : m ≤ 60) (hk : k ≤ m) :
    paidS Z C n nc k A H k + paidS Z C n nc (m - k) (fun j => A (k + j)) (fun j => H (k + j)) (m - k) = paidS Z C n nc m A H m := by
  rw [paidS_sum h _ _ k (by omega), paidS_sum h _ _ (m - k) (by omega), paidS_sum h _ _ m hm]
  have e : sumF (payF Z C n nc m A H) m = sumF (payF Z C n nc m A H) (k + (m - k)) := by congr 1; omega
  rw [e, sumF_add]
  congr 1
  · refine sumF_congr fun j hj => ?_
    unfold payF paidB
    rw [decide_eq_true (show j < k from hj), decide_eq_true (show j < m by omega)]
  · refine sumF_congr fun j hj => ?_
    unfold payF paidB
    rw [decide_eq_true (show j < m - k from hj), decide_eq_true (show k + j < m by omega)]
/-- The error of a part. -/
theorem runE_part {most : Int} {Z C : Nat → Int} {n nc m k : Nat} {A : Nat → Int} (hk : k ≤ m) :
    (runE most Z C n nc m A = 220 ∧ runE most Z C n nc k A = 220) ∨ (runE most Z C n nc m A = 221 ∧ runE most Z C n nc k A = 221) ∨ (runE most Z C n nc m A = 221 ∧ runE most Z C n nc k A = 0) ∨ (runE most Z C n nc m A = 0 ∧ runE most Z C n nc k A = 0) := by
  have r0 : ∀ m, ¬ cfgP most Z C n nc → runE most Z C n nc m A = 220 := fun m h => by unfold runE; rw [if_pos h]
  have r1 : ∀ m, cfgP most Z C n nc → ¬ callsP n m A → runE most Z C n nc m A = 221 := fun m h h2 => by unfold runE; rw [if_neg (fun hh => hh h), if_pos h2]
  by_cases h1 : cfgP most Z C n nc
  · by_cases h2 : callsP n m A
    · rw [runE_ok h1 h2, runE_ok h1 (fun j hj => h2 j (by omega))]; omega
    · rw [r1 m h1 h2]
      by_cases h3 : callsP n k A
      · rw [runE_ok h1 h3]; omega
      · rw [r1 k h1 h3]; omega
  · rw [r0 m h1, r0 k h1]; omega
theorem u8w {a : Int} (h : (Lit.int .u8 a).wf = true) : 0 ≤ a ∧ a < 256 := by have := bounds_u8 h; omega
theorem u16w {a : Int} (h : (Lit.int .u16 a).wf = true) : 0 ≤ a ∧ a < 65536 := by have := bounds_u16 h; omega
section
variable {H : Type} {enc : TypeId × Value → H} {P : Program} {w : World} {base : Nat} {spare : Nat → Bool} {held : Bool}
theorem capK_of {t e : TypeId} {k : IntKind} (ht : P.underlying t = some (.slice e)) (he : P.underlying e = some (.int k)) (ce : P.cellsOf e = 1) {a : Option Addr} {len cap : Nat} {d : DataW H} {ps : List MemPlace}
    (h : DataW.Trod enc P w base spare held t (.slice a len cap) d ps) : len ≤ cap := by
  obtain ⟨n, h⟩ := h
  have h' : DataW.trod enc P w base spare held n t [.slice a len cap] = some (d, ps) := h
  rcases Go.ChangeShapes.open_ints ht he ce h' with ⟨h0, _⟩ | ⟨A, len', cap', zs, hcs, hb, hl, hc, hm, hx, hf, hwf⟩
  · simp at h0; omega
  · simp at hcs
    obtain ⟨rfl, rfl, rfl⟩ := hcs
    exact hl
end
end Go.Proofs.Ytlhjacgocggbcaa
