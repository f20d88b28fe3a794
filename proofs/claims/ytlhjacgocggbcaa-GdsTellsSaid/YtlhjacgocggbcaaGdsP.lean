/- Plain laws of the layer gds: what a cache takes, and that there is always somebody to go. Nothing of the program is in sight. -/
import Derived.Test.YtlhjacgocggbcaaGdsS
set_option linter.unusedVariables false
namespace Go.Proofs.Ytlhjacgocggbcaa

/-- What those of the first n that are in it take, and how many they are. -/
def sumIn (Z : Nat → Int) (f : Nat → Bool) : Nat → Int
  | 0 => 0
  | n + 1 => sumIn Z f n + (if f n = true then Z n else 0)
def cntIn (f : Nat → Bool) : Nat → Nat
  | 0 => 0
  | n + 1 => cntIn f n + (if f n = true then 1 else 0)
theorem cntIn_le (f : Nat → Bool) : ∀ n, cntIn f n ≤ n
  | 0 => Nat.le_refl _
  | n + 1 => by have := cntIn_le f n; unfold cntIn; split <;> omega
theorem sumIn_set (Z : Nat → Int) (f : Nat → Bool) (b : Nat) (v : Bool) : ∀ n, sumIn Z (setB f b v) n = sumIn Z f n + (if b < n then (if v = true then Z b else 0) - (if f b = true then Z b else 0) else 0)
  | 0 => by unfold sumIn; rw [if_neg (by omega)]; omega
  | n + 1 => by
    have ih := sumIn_set Z f b v n
    unfold sumIn
    rw [ih]
    by_cases h : n = b
    · subst h
      rw [if_neg (by omega), if_pos (show n < n + 1 by omega)]
      have e : setB f n v n = v := by unfold setB; rw [if_pos rfl]
      rw [e]; omega
    · have e : setB f b v n = f n := by unfold setB; rw [if_neg h]
      rw [e]
      by_cases hb : b < n
      · rw [if_pos hb, if_pos (show b < n + 1 by omega)]; omega
      · rw [if_neg hb, if_neg (show ¬ b < n + 1 by omega)]; omega
theorem cntIn_out (f : Nat → Bool) {b : Nat} (hb : f b = true) : ∀ n, cntIn (setB f b false) n + (if b < n then 1 else 0) = cntIn f n
  | 0 => by unfold cntIn; rw [if_neg (by omega)]
  | n + 1 => by
    have ih := cntIn_out f hb n
    unfold cntIn
    by_cases h : n = b
    · subst h
      rw [if_neg (by omega)] at ih
      rw [if_pos (show n < n + 1 by omega), if_pos hb]
      have e : setB f n false n = false := by unfold setB; rw [if_pos rfl]
      rw [e, if_neg (by decide)]; omega
    · have e : setB f b false n = f n := by unfold setB; rw [if_neg h]
      rw [e]
      by_cases hb' : b < n
      · rw [if_pos hb'] at ih; rw [if_pos (show b < n + 1 by omega)]; omega
      · rw [if_neg hb'] at ih; rw [if_neg (show ¬ b < n + 1 by omega)]; omega
theorem leastG_none {s : Gd} : ∀ {n : Nat}, leastG s n = none → ∀ j, j < n → s.inn j = false
  | n + 1, h, j, hj => by
    rw [leastG] at h
    cases hl : leastG s n with
    | none =>
      rw [hl] at h
      dsimp only at h
      by_cases hi : s.inn n = true
      · rw [if_pos hi] at h; cases h
      · rcases Nat.lt_succ_iff_lt_or_eq.1 hj with h1 | rfl
        · exact leastG_none hl j h1
        · cases hh : s.inn j
          · rfl
          · exact absurd hh hi
    | some c =>
      rw [hl] at h
      dsimp only at h
      by_cases hi : s.inn n = true ∧ s.rk n < s.rk c
      · rw [if_pos hi] at h; cases h
      · rw [if_neg hi] at h; cases h
theorem sumIn_none (Z : Nat → Int) (f : Nat → Bool) : ∀ n, (∀ j, j < n → f j = false) → sumIn Z f n = 0
  | 0, _ => rfl
  | n + 1, h => by unfold sumIn; rw [sumIn_none Z f n (fun j hj => h j (by omega)), h n (by omega), if_neg (by decide)]; rfl
theorem sumIn_ge (Z : Nat → Int) (f : Nat → Bool) {m : Nat} (hZ : ∀ j, j < m → 0 ≤ Z j) : ∀ n, n ≤ m → 0 ≤ sumIn Z f n ∧ ∀ b, b < n → f b = true → Z b ≤ sumIn Z f n
  | 0, _ => ⟨Int.le_refl _, fun b hb => by omega⟩
  | n + 1, hn => by
    obtain ⟨a, c⟩ := sumIn_ge Z f hZ n (by omega)
    have z := hZ n (by omega)
    unfold sumIn
    refine ⟨by split <;> omega, fun b hb hf => ?_⟩
    rcases Nat.lt_succ_iff_lt_or_eq.1 hb with h | rfl
    · have := c b h hf; split <;> omega
    · rw [if_pos hf]; omega
/-- What holds of a cache at every turn. -/
structure InvG (Z : Nat → Int) (n : Nat) (most : Int) (s : Gd) : Prop where
  tk : s.tk = sumIn Z s.inn n
  le : s.tk ≤ most
  lv : 0 ≤ s.lv ∧ s.lv < 18446744073709551616
  rk : ∀ j, 0 ≤ s.rk j ∧ s.rk j < 18446744073709551616
theorem InvG.out {Z : Nat → Int} {n : Nat} {most : Int} {s : Gd} (h : InvG Z n most s) (hZ : ∀ j, j < n → 0 ≤ Z j) {b : Nat} (hb : b < n) (hi : s.inn b = true) : InvG Z n most (outG Z s b) := by
  have z := hZ b hb
  refine ⟨?_, ?_, h.rk b, h.rk⟩
  · show s.tk - Z b = sumIn Z (setB s.inn b false) n
    rw [sumIn_set, if_pos hb, if_pos hi, if_neg (by decide), ← h.tk]; omega
  · show s.tk - Z b ≤ most
    have := h.le; omega
theorem InvG.rank {Z C : Nat → Int} {n : Nat} {most : Int} {s : Gd} (h : InvG Z n most s) (i : Nat) : InvG Z n most (rankG Z C s i) := by
  refine ⟨h.tk, h.le, h.lv, fun j => ?_⟩
  show 0 ≤ setI s.rk i _ j ∧ setI s.rk i _ j < _
  unfold setI; split
  · omega
  · exact h.rk j
theorem InvG.come {Z C : Nat → Int} {n : Nat} {most : Int} {s : Gd} (h : InvG Z n most s) {i : Nat} (hi : i < n) (hn : s.inn i = false) (hr : s.tk + Z i ≤ most) : InvG Z n most (comeG Z C s i) := by
  refine InvG.rank (s := { s with tk := s.tk + Z i, inn := setB s.inn i true }) ⟨?_, hr, h.lv, h.rk⟩ i
  show s.tk + Z i = sumIn Z (setB s.inn i true) n
  rw [sumIn_set, if_pos hi, hn, if_pos rfl, if_neg (by decide), ← h.tk]; omega
/-- Where there is no room somebody is in it. -/
theorem InvG.some {Z : Nat → Int} {n : Nat} {most : Int} {s : Gd} (h : InvG Z n most s) {i : Nat} (hr : ¬ s.tk + Z i ≤ most) (hm : Z i ≤ most) : ∃ b, leastG s n = some b := by
  cases hl : leastG s n with
  | none =>
    have := sumIn_none Z s.inn n (leastG_none hl)
    have := h.tk
    omega
  | some b => exact ⟨b, rfl⟩
theorem InvG.zero (Z : Nat → Int) (n : Nat) {most : Int} (hm : 1 ≤ most) : InvG Z n most gd0 :=
  ⟨(sumIn_none Z _ n (fun _ _ => rfl)).symm, by show (0 : Int) ≤ most; omega, by show (0 : Int) ≤ 0 ∧ (0 : Int) < _; omega, fun _ => by show (0 : Int) ≤ 0 ∧ (0 : Int) < _; omega⟩
theorem roomG_stop {Z : Nat → Int} {n : Nat} {most : Int} {i : Nat} (f : Nat) {s : Gd} (h : s.tk + Z i ≤ most) : roomG Z n most i f s = (s, []) := by
  cases f with
  | zero => rfl
  | succ f => rw [roomG, if_pos h]
theorem roomG_step {Z : Nat → Int} {n : Nat} {most : Int} {i b : Nat} (f : Nat) {s : Gd} (h : ¬ s.tk + Z i ≤ most) (hb : leastG s n = some b) :
    roomG Z n most i (f + 1) s = ((roomG Z n most i f (outG Z s b)).1, b :: (roomG Z n most i f (outG Z s b)).2) := by
  rw [roomG, if_neg h, hb]
end Go.Proofs.Ytlhjacgocggbcaa
