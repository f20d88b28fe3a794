/- Plain numbers of the layer gds: weights, ranks, a cache's turns. Nothing of the program is in sight. -/
import Derived.Test.YtlhjacgocggbcaaWordS
import Derived.Test.YtlhjacgocggbcaaRatioS
set_option linter.unusedVariables false
namespace Go.Proofs.Ytlhjacgocggbcaa

/-- A cost's part of the scale, by a size; held. -/
def floS (c s : Int) : Int := if partE (c * 1048576 / s) s = 0 then partV (c * 1048576 / s) s else 18446744073709551615
def weightS (k c s f : Int) : Int :=
  if (k ≠ 1 ∧ k ≠ 2) ∨ s = 0 then 0
  else if k = 2 then (if timesE c f = 0 then floS (timesV c f) s else 18446744073709551615)
  else floS c s
theorem floS_bd (c s : Int) (c0 : 0 ≤ c) (s0 : 0 ≤ s) : 0 ≤ floS c s ∧ floS c s < 18446744073709551616 := by
  have := partV_bd (q := c * 1048576 / s) (c := s) (Int.ediv_nonneg (by omega) s0)
  unfold floS; split <;> omega
theorem weightS_bd (k c s f : Int) (c0 : 0 ≤ c) (s0 : 0 ≤ s) (f0 : 0 ≤ f) : 0 ≤ weightS k c s f ∧ weightS k c s f < 18446744073709551616 := by
  have a := floS_bd c s c0 s0
  have b := floS_bd (timesV c f) s (timesV_bd c f c0 f0).1 s0
  unfold weightS; repeat' split <;> omega
/-- What the cache is: who is in it, their ranks, what they take, the level. -/
structure Gd where
  tk : Int
  inn : Nat → Bool
  rk : Nat → Int
  lv : Int
def setB (f : Nat → Bool) (k : Nat) (v : Bool) (i : Nat) : Bool := if i = k then v else f i
def setI (f : Nat → Int) (k : Nat) (v : Int) (i : Nat) : Int := if i = k then v else f i
/-- Who has the least rank of the first n; of several the first. -/
def leastG (s : Gd) : Nat → Option Nat
  | 0 => none
  | n + 1 => match leastG s n with
    | none => if s.inn n then some n else none
    | some b => if s.inn n ∧ s.rk n < s.rk b then some n else some b
/-- An object's weight, by GDS. -/
def wgtO (Z C : Nat → Int) (i : Nat) : Int := weightS 1 (ofS (C i)) (ofS (Z i)) 1
/-- One is ranked anew. -/
def rankG (Z C : Nat → Int) (s : Gd) (i : Nat) : Gd := { s with rk := setI s.rk i ((s.lv + wgtO Z C i) % 18446744073709551616) }
/-- One goes out. -/
def outG (Z : Nat → Int) (s : Gd) (b : Nat) : Gd := { s with tk := s.tk - Z b, inn := setB s.inn b false, lv := s.rk b }
/-- One comes in. -/
def comeG (Z C : Nat → Int) (s : Gd) (i : Nat) : Gd := rankG Z C { s with tk := s.tk + Z i, inn := setB s.inn i true } i
/-- Room is made for one: at most so many go. -/
def roomG (Z : Nat → Int) (n : Nat) (most : Int) (i : Nat) : Nat → Gd → Gd × List Nat
  | 0, s => (s, [])
  | f + 1, s => if s.tk + Z i ≤ most then (s, []) else
    match leastG s n with
    | none => (s, [])
    | some b => let r := roomG Z n most i f (outG Z s b); (r.1, b :: r.2)
/-- One call: what becomes of the cache, whether it is a hit, who goes. -/
def serveG (Z C : Nat → Int) (n : Nat) (most : Int) (s : Gd) (i : Nat) : Gd × Bool × List Nat :=
  if s.inn i then (rankG Z C s i, true, [])
  else if most < Z i then (s, false, [])
  else let r := roomG Z n most i n s; (comeG Z C r.1 i, false, r.2)
def gd0 : Gd := ⟨0, fun _ => false, fun _ => 0, 0⟩
/-- All calls, one behind the other. -/
def runG (Z C : Nat → Int) (n : Nat) (most : Int) (A : Nat → Nat) : Nat → Gd × List (Bool × List Nat)
  | 0 => (gd0, [])
  | k + 1 => let r := runG Z C n most A k; let q := serveG Z C n most r.1 (A k); (q.1, r.2 ++ [(q.2.1, q.2.2)])
end Go.Proofs.Ytlhjacgocggbcaa
