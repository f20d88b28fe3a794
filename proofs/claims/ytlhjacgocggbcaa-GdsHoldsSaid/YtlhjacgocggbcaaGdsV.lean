/- Plain law: a call's turns, one who goes behind the other. Nothing of the program is walked. -/
import Derived.Test.YtlhjacgocggbcaaGdsL
set_option linter.unusedVariables false
namespace Go.Proofs.Ytlhjacgocggbcaa

/-- The cache, when those of a list have gone. -/
def outsG (Z : Nat → Int) (s : Gd) : List Nat → Gd
  | [] => s
  | b :: l => outsG Z (outG Z s b) l
theorem outsG_snoc (Z : Nat → Int) : ∀ (l : List Nat) (s : Gd) (b : Nat), outsG Z s (l ++ [b]) = outG Z (outsG Z s l) b
  | [], _, _ => rfl
  | c :: l, s, b => outsG_snoc Z l (outG Z s c) b
theorem roomG_turns {Z : Nat → Int} {n : Nat} {most : Int} {i : Nat} (hZ : ∀ j, j < n → 0 ≤ Z j) : ∀ f (s : Gd), InvG Z n most s →
    (roomG Z n most i f s).1 = outsG Z s (roomG Z n most i f s).2 ∧ ∀ k b, (roomG Z n most i f s).2[k]? = some b → b < n ∧ (outsG Z s ((roomG Z n most i f s).2.take k)).inn b = true ∧ most < (outsG Z s ((roomG Z n most i f s).2.take k)).tk + Z i ∧ InvG Z n most (outsG Z s ((roomG Z n most i f s).2.take k))
  | 0, s, h => ⟨rfl, fun k b hk => by simp [roomG] at hk⟩
  | f + 1, s, h => by
    by_cases hr : s.tk + Z i ≤ most
    · rw [roomG_stop _ hr]
      exact ⟨rfl, fun k b hk => by simp at hk⟩
    · cases hl : leastG s n with
      | none =>
        have e : roomG Z n most i (f + 1) s = (s, []) := by rw [roomG, if_neg hr, hl]
        rw [e]
        exact ⟨rfl, fun k b hk => by simp at hk⟩
      | some c =>
        obtain ⟨b1, b2⟩ := leastG_some hl
        rw [roomG_step f hr hl]
        obtain ⟨ih1, ih2⟩ := roomG_turns hZ f (outG Z s c) (h.out hZ b1 b2)
        refine ⟨ih1, fun k b hk => ?_⟩
        cases k with
        | zero =>
          obtain rfl : c = b := by simpa using hk
          exact ⟨b1, b2, by show most < s.tk + Z i; omega, h⟩
        | succ k => exact ih2 k b (by simpa using hk)
/-- What a call's turns are. -/
structure TurnG (Z : Nat → Int) (n : Nat) (most : Int) (c : Nat) (s s' : Gd) (hit : Bool) (l : List Nat) : Prop where
  each : ∀ k b, l[k]? = some b → hit = false ∧ b < n ∧ (outsG Z s (l.take k)).inn b = true ∧ most < (outsG Z s (l.take k)).tk + Z c ∧ 0 ≤ (outsG Z s (l.take k)).tk ∧ (outsG Z s (l.take k)).tk ≤ most ∧ Z b ≤ (outsG Z s (l.take k)).tk
  hitIs : hit = (outsG Z s l).inn c
  fin : if hit = false ∧ Z c ≤ most then s'.inn = setB (outsG Z s l).inn c true ∧ s'.tk = (outsG Z s l).tk + Z c else s'.inn = (outsG Z s l).inn ∧ s'.tk = (outsG Z s l).tk
  tk : 0 ≤ s'.tk ∧ s'.tk ≤ most
  tk0 : 0 ≤ (outsG Z s l).tk ∧ (outsG Z s l).tk ≤ most
theorem serveG_turn {Z C : Nat → Int} {n : Nat} {most : Int} {s : Gd} (hZ : ∀ j, j < n → 0 ≤ Z j) (h : InvG Z n most s) {c : Nat} (hc : c < n) :
    TurnG Z n most c s (serveG Z C n most s c).1 (serveG Z C n most s c).2.1 (serveG Z C n most s c).2.2 := by
  have hi := serveG_inv (C := C) hZ h hc
  have ht := hi.tk0 hZ
  have hs := h.tk0 hZ
  unfold serveG at *
  by_cases hin : s.inn c = true
  · rw [if_pos hin] at *
    exact ⟨fun k b hk => by simp at hk, hin.symm, by rw [if_neg (fun h => by cases h.1)]; exact ⟨rfl, rfl⟩, ⟨ht.1, hi.le⟩, ⟨hs.1, h.le⟩⟩
  · have hin' : s.inn c = false := by simpa using hin
    rw [if_neg hin] at *
    by_cases hb : most < Z c
    · rw [if_pos hb] at *
      exact ⟨fun k b hk => by simp at hk, hin'.symm, by rw [if_neg (fun h => by have := h.2; omega)]; exact ⟨rfl, rfl⟩, ⟨ht.1, hi.le⟩, ⟨hs.1, h.le⟩⟩
    · rw [if_neg hb] at *
      obtain ⟨r1, r2⟩ := roomG_turns (most := most) (i := c) hZ n s h
      obtain ⟨q1, q2, q3⟩ := roomG_inv (i := c) hZ (Int.not_lt.1 hb) n s h hin' (cntIn_le _ _)
      have q4 := q1.tk0 hZ
      have q5 := q1.le
      dsimp only at *
      rw [r1] at q2 q4 q5
      refine ⟨fun k b hk => ?_, q2.symm, ?_, ⟨ht.1, hi.le⟩, ⟨q4.1, q5⟩⟩
      · obtain ⟨a1, a2, a3, a4⟩ := r2 k b hk
        have a5 := a4.tk0 hZ
        exact ⟨rfl, a1, a2, a3, a5.1, a4.le, a5.2 b a1 a2⟩
      · rw [if_pos ⟨rfl, Int.not_lt.1 hb⟩, ← r1]
        exact ⟨rfl, rfl⟩
theorem stG_turn {Z C : Nat → Int} {n : Nat} {most : Int} {A : Nat → Nat} (hZ : ∀ j, j < n → 0 ≤ Z j) (hm : 1 ≤ most) (j : Nat) (h : ∀ k, k ≤ j → A k < n) :
    TurnG Z n most (A j) (stG Z C n most A j) (stG Z C n most A (j + 1)) (hitG Z C n most A j) (goG Z C n most A j) :=
  serveG_turn hZ (stG_inv hZ hm j (fun k hk => h k (by omega))) (h j (Nat.le_refl _))
end Go.Proofs.Ytlhjacgocggbcaa
