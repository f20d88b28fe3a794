/- Plain law: what those in the list take. -/
import Derived.Test.YtlhjacgocggbcaaGdsRE
set_option linter.unusedVariables false
namespace Go.Proofs.Ytlhjacgocggbcaa

def sumL (Z : Nat → Int) : List Nat → Int
  | [] => 0
  | x :: L => Z x + sumL Z L
theorem sumL_append (Z : Nat → Int) : ∀ L K : List Nat, sumL Z (L ++ K) = sumL Z L + sumL Z K
  | [], K => by rw [List.nil_append]; show _ = 0 + _; omega
  | x :: L, K => by
    rw [List.cons_append]
    show Z x + sumL Z (L ++ K) = Z x + sumL Z L + sumL Z K
    rw [sumL_append Z L K]; omega
theorem sumZ_take {Z : Nat → Int} {L : List Nat} : ∀ i, i ≤ L.length → sumZ Z L i = sumL Z (L.take i)
  | 0, _ => by rw [List.take_zero]; rfl
  | i + 1, h => by
    have e : L.take (i + 1) = L.take i ++ [L.getD i 0] := by
      rw [List.take_add_one, List.getD_eq_getElem?_getD, List.getElem?_eq_getElem (by omega)]; rfl
    rw [e, sumL_append, ← sumZ_take i (by omega)]
    show sumZ Z L i + Z (L.getD i 0) = sumZ Z L i + (Z (L.getD i 0) + 0)
    omega
theorem sumZ_all (Z : Nat → Int) (L : List Nat) : sumZ Z L L.length = sumL Z L := by rw [sumZ_take _ (Nat.le_refl _), List.take_length]
theorem sumL_without {Z : Nat → Int} {b : Nat} : ∀ {L : List Nat}, L.Nodup → b ∈ L → sumL Z (L.filter fun x => x != b) = sumL Z L - Z b
  | x :: L, hn, hb => by
    obtain ⟨h1, h2⟩ := List.nodup_cons.1 hn
    rw [List.filter_cons]
    by_cases hx : x = b
    · subst hx
      have e : (L.filter fun y => y != x) = L := List.filter_eq_self.2 fun y hy => by
        have : y ≠ x := fun hh => h1 (hh ▸ hy)
        simpa using this
      rw [if_neg (by simp), e]
      show _ = Z x + sumL Z L - Z x
      omega
    · have hb' : b ∈ L := by
        rcases List.mem_cons.1 hb with h | h
        · exact absurd h.symm hx
        · exact h
      rw [if_pos (by simpa using hx)]
      show Z x + sumL Z (L.filter fun y => y != b) = Z x + sumL Z L - Z b
      rw [sumL_without h2 hb']; omega
theorem without_out {Z : Nat → Int} {i : Nat} {L : List Nat} (h : i ∉ L) : (L.filter fun x => x != i) = L := List.filter_eq_self.2 fun y hy => by
  have : y ≠ i := fun hh => h (hh ▸ hy)
  simpa using this
end Go.Proofs.Ytlhjacgocggbcaa
