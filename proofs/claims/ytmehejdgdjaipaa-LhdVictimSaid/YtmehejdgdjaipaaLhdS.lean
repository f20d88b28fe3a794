/- Plain numbers of the layer lhd: ranks of eight hits and eight evictions, as sixteen numbers. Nothing of the program is in sight. -/
import Derived.Test.YtmehejdgdjaipaaFixedS
set_option linter.unusedVariables false
namespace Go.Proofs.Ytmehejdgdjaipaa

def IsR (R : Nat → Int) : Prop := ∀ i, 0 ≤ R i ∧ R i < 18446744073709551616
def upd (R : Nat → Int) (k : Nat) (v : Int) (i : Nat) : Int := if i = k then v else R i
def knownB (a : Int) : Bool := decide (0 ≤ a) && decide (a < 8)
/-- One more at k, if the age is known; o: 0 for hits, 8 for evictions. -/
def moreR (R : Nat → Int) (a : Int) (o : Nat) : Nat → Int := if 0 ≤ a ∧ a < 8 then upd R (a.toNat + o) (addS (R (a.toNat + o)) 1) else R
def halfR (R : Nat → Int) (i : Nat) : Int := R i / 2
theorem upd_is {R : Nat → Int} (h : IsR R) (k : Nat) {v : Int} (v0 : 0 ≤ v) (v1 : v < 18446744073709551616) : IsR (upd R k v) := by
  intro i; unfold upd; split
  · exact ⟨v0, v1⟩
  · exact h i
theorem moreR_is {R : Nat → Int} (h : IsR R) (a : Int) (o : Nat) : IsR (moreR R a o) := by
  unfold moreR; split
  · obtain ⟨b0, b1⟩ := addS_bd _ 1 (h (a.toNat + o)).1 (by decide)
    exact upd_is h _ b0 b1
  · exact h
theorem halfR_is {R : Nat → Int} (h : IsR R) : IsR (halfR R) := by
  intro i; have := h i; unfold halfR; omega
/-- Hits, and what is shifted of both, from an age on: n steps. -/
def hitsD (R : Nat → Int) (k : Nat) : Nat → Int
  | 0 => 0
  | n + 1 => addS (hitsD R k n) (R (k + n))
def allD (R : Nat → Int) (k : Nat) : Nat → Int
  | 0 => 0
  | n + 1 => addS (allD R k n) (shlS (addS (R (k + n)) (R (k + n + 8))) ((k + n : Nat) : Int))
def densR (R : Nat → Int) (k : Nat) : Int := if allD R k (8 - k) = 0 then 4294967296 else fxV (hitsD R k (8 - k)) (allD R k (8 - k))
end Go.Proofs.Ytmehejdgdjaipaa
