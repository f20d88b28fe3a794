/- Plain law: the reference's list of who is in, beside the cache's bits. -/
import Derived.Test.YtlhjacgocggbcaaGdsRC
set_option linter.unusedVariables false
namespace Go.Proofs.Ytlhjacgocggbcaa

theorem leastG_least {s : Gd} : ∀ {n b : Nat}, leastG s n = some b → ∀ j, j < n → s.inn j = true → befP s.rk b j
  | n + 1, b, h, j, hj, hin => by
    have hs := leastG_some h
    rw [leastG] at h
    cases hl : leastG s n with
    | none =>
      rw [hl] at h
      dsimp only at h
      split at h
      · cases h
        rcases Nat.lt_succ_iff_lt_or_eq.1 hj with h1 | rfl
        · have := leastG_none hl j h1
          rw [hin] at this; cases this
        · exact Or.inr ⟨rfl, Nat.le_refl _⟩
      · cases h
    | some c =>
      rw [hl] at h
      dsimp only at h
      have ih := leastG_least hl
      have hc := leastG_some hl
      split at h
      · rename_i h2
        cases h
        rcases Nat.lt_succ_iff_lt_or_eq.1 hj with h1 | rfl
        · exact befP_trans (Or.inl h2.2) (ih j h1 hin)
        · exact Or.inr ⟨rfl, Nat.le_refl _⟩
      · rename_i h2
        cases h
        rcases Nat.lt_succ_iff_lt_or_eq.1 hj with h1 | rfl
        · exact ih j h1 hin
        · have : ¬ s.rk j < s.rk b := fun h3 => h2 ⟨hin, h3⟩
          unfold befP
          have := hc.1
          omega
/-- The reference's cache beside the program's. -/
structure BesideR (Z : Nat → Int) (n : Nat) (L : List Nat) (s : Gd) : Prop where
  one : L.Nodup
  lt : ∀ x ∈ L, x < n
  mem : ∀ j, j < n → (s.inn j = true ↔ j ∈ L)
theorem BesideR.least {Z : Nat → Int} {n : Nat} {L : List Nat} {s : Gd} (h : BesideR Z n L s) {b : Nat} (hb : LeastP L s.rk b) : leastG s n = some b := by
  obtain ⟨hm, hall⟩ := hb
  have hbn := h.lt b hm
  cases hl : leastG s n with
  | none =>
    have := leastG_none hl b hbn
    rw [(h.mem b hbn).2 hm] at this; cases this
  | some c =>
    have hc := leastG_some hl
    have h1 := leastG_least hl b hbn ((h.mem b hbn).2 hm)
    have h2 := hall c ((h.mem c hc.1).1 hc.2)
    have : c = b := by unfold befP at h1 h2; omega
    rw [this]
end Go.Proofs.Ytlhjacgocggbcaa
