/-
  No cell of these rows narrows 'for every input' (looked for: loops, veiled, ifaces, maps, wideKeys, modest, calm, conditions, laid).
  DERIVED. THE GIVEN ROWS OF THIS SEAT. 5 by the template 'for every input the law returns true; each argument reads behind the call as it read before'; 0 by the template 'total and deterministic' (their statements: YtlhjacgocggbcaaTotals.lean).
  GIVEN WITH THE SEED: the statements are not yours to turn. If you find one false, say at which input.
  Laid BY PROGRAM, IN A SANDBOX (cutbox-rows.mjs): the forced cells as the released guide's own fill.sh prints them over the translation 1e8a4c0e07f95998… (all of the seat's roots in one cut). By AI agents, Wed Nov 11 2026. No macro, syntax, notation, axiom, sorry.
-/
import Derived.Test.YtlhjacgocggbcaaChecked
import GoSem.Claim
import GoSem.ClaimJoined
import GoSem.ClaimMapViews
import Derived.JoinedTies
import Derived.KernelRfl
namespace Go.Proofs.Ytlhjacgocggbcaa
/- THE CELL 'sum', in the pinned program and in every row, IS THE sha256 OF THE DUMP (.gsa) THAT YtlhjacgocggbcaaProg.lean LOADS. Nothing in Lean hashes anything: it is a label: what it is worth is what the hold of that sum in a sandbox is worth. -/
noncomputable def Try.pinned : Pinned := { name := "ytlhjacgocggbcaa", sum := "1e8a4c0e07f95998c0ff20f24455b3b50af118ee5fc1db8743dd10b4b3495d31", checked := Try.checked }
namespace Rows
def none {H : Type} : Left H := { results := [], args := [] }

/-- 'linhaylaw18.GdsTells': WHATEVER THE INPUT: true; the input reads as it did. -/
def gdsTellsSpec : ChangeSpec := { name := "gdsTells", fn := fun _ => fun
  | [d1, d2, d3, d4, d5, d6, d7] => { results := [.lit (.bool true)], args := [d1, d2, d3, d4, d5, d6, d7] }
  | _ => none }
def gdsTellsRow : OpenClaim := { program := "ytlhjacgocggbcaa", sum := "1e8a4c0e07f95998c0ff20f24455b3b50af118ee5fc1db8743dd10b4b3495d31", func := "linhay/linhaylaw18.GdsTells", spec := "gdsTells", inPlace := ["math/bits.Add64"], unfollowed := true, recurses := true, named := ["math/bits.divideError", "math/bits.overflowError"], apart := false }
def GdsTellsSaid : Prop := gdsTellsRow.holds Try.pinned (OpenSpec.ofChange gdsTellsSpec)

/-- ITS FALSE NEIGHBOUR: 'it returns false'. Refute it at one input. -/
def gdsTellsWrong : ChangeSpec := { name := "gdsTells", fn := fun _ => fun
  | [d1, d2, d3, d4, d5, d6, d7] => { results := [.lit (.bool false)], args := [d1, d2, d3, d4, d5, d6, d7] }
  | _ => none }
def GdsTellsWrongFalsely : Prop := gdsTellsRow.holds Try.pinned (OpenSpec.ofChange gdsTellsWrong)

/-- 'linhaylaw18.GdsHolds': WHATEVER THE INPUT: true; the input reads as it did. -/
def gdsHoldsSpec : ChangeSpec := { name := "gdsHolds", fn := fun _ => fun
  | [d1, d2, d3, d4] => { results := [.lit (.bool true)], args := [d1, d2, d3, d4] }
  | _ => none }
def gdsHoldsRow : OpenClaim := { program := "ytlhjacgocggbcaa", sum := "1e8a4c0e07f95998c0ff20f24455b3b50af118ee5fc1db8743dd10b4b3495d31", func := "linhay/linhaylaw18.GdsHolds", spec := "gdsHolds", inPlace := ["math/bits.Add64"], unfollowed := true, recurses := true, named := ["math/bits.divideError", "math/bits.overflowError"], apart := false }
def GdsHoldsSaid : Prop := gdsHoldsRow.holds Try.pinned (OpenSpec.ofChange gdsHoldsSpec)

/-- ITS FALSE NEIGHBOUR: 'it returns false'. Refute it at one input. -/
def gdsHoldsWrong : ChangeSpec := { name := "gdsHolds", fn := fun _ => fun
  | [d1, d2, d3, d4] => { results := [.lit (.bool false)], args := [d1, d2, d3, d4] }
  | _ => none }
def GdsHoldsWrongFalsely : Prop := gdsHoldsRow.holds Try.pinned (OpenSpec.ofChange gdsHoldsWrong)

/-- 'linhaylaw18.GdsAlike': WHATEVER THE INPUT: true; the input reads as it did. -/
def gdsAlikeSpec : ChangeSpec := { name := "gdsAlike", fn := fun _ => fun
  | [d1, d2, d3, d4, d5] => { results := [.lit (.bool true)], args := [d1, d2, d3, d4, d5] }
  | _ => none }
def gdsAlikeRow : OpenClaim := { program := "ytlhjacgocggbcaa", sum := "1e8a4c0e07f95998c0ff20f24455b3b50af118ee5fc1db8743dd10b4b3495d31", func := "linhay/linhaylaw18.GdsAlike", spec := "gdsAlike", inPlace := ["math/bits.Add64"], unfollowed := true, recurses := true, named := ["math/bits.divideError", "math/bits.overflowError"], apart := false }
def GdsAlikeSaid : Prop := gdsAlikeRow.holds Try.pinned (OpenSpec.ofChange gdsAlikeSpec)

/-- ITS FALSE NEIGHBOUR: 'it returns false'. Refute it at one input. -/
def gdsAlikeWrong : ChangeSpec := { name := "gdsAlike", fn := fun _ => fun
  | [d1, d2, d3, d4, d5] => { results := [.lit (.bool false)], args := [d1, d2, d3, d4, d5] }
  | _ => none }
def GdsAlikeWrongFalsely : Prop := gdsAlikeRow.holds Try.pinned (OpenSpec.ofChange gdsAlikeWrong)

/-- 'linhaylaw18.GdsParts': WHATEVER THE INPUT: true; the input reads as it did. -/
def gdsPartsSpec : ChangeSpec := { name := "gdsParts", fn := fun _ => fun
  | [d1, d2, d3, d4, d5] => { results := [.lit (.bool true)], args := [d1, d2, d3, d4, d5] }
  | _ => none }
def gdsPartsRow : OpenClaim := { program := "ytlhjacgocggbcaa", sum := "1e8a4c0e07f95998c0ff20f24455b3b50af118ee5fc1db8743dd10b4b3495d31", func := "linhay/linhaylaw18.GdsParts", spec := "gdsParts", inPlace := ["math/bits.Add64"], unfollowed := true, recurses := true, named := ["math/bits.divideError", "math/bits.overflowError"], apart := false }
def GdsPartsSaid : Prop := gdsPartsRow.holds Try.pinned (OpenSpec.ofChange gdsPartsSpec)

/-- ITS FALSE NEIGHBOUR: 'it returns false'. Refute it at one input. -/
def gdsPartsWrong : ChangeSpec := { name := "gdsParts", fn := fun _ => fun
  | [d1, d2, d3, d4, d5] => { results := [.lit (.bool false)], args := [d1, d2, d3, d4, d5] }
  | _ => none }
def GdsPartsWrongFalsely : Prop := gdsPartsRow.holds Try.pinned (OpenSpec.ofChange gdsPartsWrong)

/-- 'linhaylaw18.GdsWeight': WHATEVER THE INPUT: true; the input reads as it did. -/
def gdsWeightSpec : ChangeSpec := { name := "gdsWeight", fn := fun _ => fun
  | [d1, d2, d3, d4, d5] => { results := [.lit (.bool true)], args := [d1, d2, d3, d4, d5] }
  | _ => none }
def gdsWeightRow : OpenClaim := { program := "ytlhjacgocggbcaa", sum := "1e8a4c0e07f95998c0ff20f24455b3b50af118ee5fc1db8743dd10b4b3495d31", func := "linhay/linhaylaw18.GdsWeight", spec := "gdsWeight", inPlace := ["math/bits.Add64"], unfollowed := true, recurses := true, named := ["math/bits.divideError", "math/bits.overflowError"], apart := false }
def GdsWeightSaid : Prop := gdsWeightRow.holds Try.pinned (OpenSpec.ofChange gdsWeightSpec)

/-- ITS FALSE NEIGHBOUR: 'it returns false'. Refute it at one input. -/
def gdsWeightWrong : ChangeSpec := { name := "gdsWeight", fn := fun _ => fun
  | [d1, d2, d3, d4, d5] => { results := [.lit (.bool false)], args := [d1, d2, d3, d4, d5] }
  | _ => none }
def GdsWeightWrongFalsely : Prop := gdsWeightRow.holds Try.pinned (OpenSpec.ofChange gdsWeightWrong)

/- THE SECOND FORM. 'bulk': how many values and letters a reading holds, each counted each time it is reached (what is shared counts as often as it is met; a slice's spare places count too). A statement '..UptoSaid' is the law's where the arguments, and the package variables that the reading takes, are together of bulk at most 1048576: NARROWER than '..Said'. Prove '..Said' where nothing that the law and all that it calls make is longer than what came in: it says more and counts as full. Else prove '..UptoSaid'. A law counts once. -/
mutual
def uptoBulk {H : Type} : DataW H → Nat
  | .lit (.string bytes) => bytes.length + 1
  | .lit _ => 1
  | .nil => 1
  | .ptr d => uptoBulk d + 1
  | .slice elems spare => uptoBulkAll elems + uptoBulkAll spare + 1
  | .agg parts => uptoBulkAll parts + 1
  | .iface _ d => uptoBulk d + 1
  | .map entries => uptoBulkEntries entries + 1
  | .held _ => 1
def uptoBulkAll {H : Type} : List (DataW H) → Nat
  | [] => 0
  | d :: r => uptoBulk d + uptoBulkAll r
def uptoBulkEntries {H : Type} : List (Lit × DataW H) → Nat
  | [] => 0
  | x :: r => uptoBulkEntry x + uptoBulkEntries r
def uptoBulkEntry {H : Type} : Lit × DataW H → Nat
  | (.string bytes, d) => bytes.length + uptoBulk d + 1
  | (_, d) => uptoBulk d + 1
 end
def uptoSmall : (H : Type) → List (DataW H) → Bool := fun _ ds => decide (uptoBulkAll ds ≤ 1048576)
def OpenSpec.upto (s : _root_.Go.ChangeSpec) : _root_.Go.OpenSpec := { _root_.Go.OpenSpec.ofChange s with cond := some uptoSmall }

/-- 'linhaylaw18.GdsTells', WHERE WHAT IT READS IS OF BULK AT MOST 1048576: true; the input reads as it did. -/
def gdsTellsUptoRow : OpenClaim := { program := "ytlhjacgocggbcaa", sum := "1e8a4c0e07f95998c0ff20f24455b3b50af118ee5fc1db8743dd10b4b3495d31", func := "linhay/linhaylaw18.GdsTells", spec := "gdsTells", inPlace := ["math/bits.Add64"], unfollowed := true, recurses := true, named := ["math/bits.divideError", "math/bits.overflowError"], apart := false, narrowed := true }
def GdsTellsUptoSaid : Prop := gdsTellsUptoRow.holds Try.pinned (OpenSpec.upto gdsTellsSpec)

/-- 'linhaylaw18.GdsHolds', WHERE WHAT IT READS IS OF BULK AT MOST 1048576: true; the input reads as it did. -/
def gdsHoldsUptoRow : OpenClaim := { program := "ytlhjacgocggbcaa", sum := "1e8a4c0e07f95998c0ff20f24455b3b50af118ee5fc1db8743dd10b4b3495d31", func := "linhay/linhaylaw18.GdsHolds", spec := "gdsHolds", inPlace := ["math/bits.Add64"], unfollowed := true, recurses := true, named := ["math/bits.divideError", "math/bits.overflowError"], apart := false, narrowed := true }
def GdsHoldsUptoSaid : Prop := gdsHoldsUptoRow.holds Try.pinned (OpenSpec.upto gdsHoldsSpec)

/-- 'linhaylaw18.GdsAlike', WHERE WHAT IT READS IS OF BULK AT MOST 1048576: true; the input reads as it did. -/
def gdsAlikeUptoRow : OpenClaim := { program := "ytlhjacgocggbcaa", sum := "1e8a4c0e07f95998c0ff20f24455b3b50af118ee5fc1db8743dd10b4b3495d31", func := "linhay/linhaylaw18.GdsAlike", spec := "gdsAlike", inPlace := ["math/bits.Add64"], unfollowed := true, recurses := true, named := ["math/bits.divideError", "math/bits.overflowError"], apart := false, narrowed := true }
def GdsAlikeUptoSaid : Prop := gdsAlikeUptoRow.holds Try.pinned (OpenSpec.upto gdsAlikeSpec)

/-- 'linhaylaw18.GdsParts', WHERE WHAT IT READS IS OF BULK AT MOST 1048576: true; the input reads as it did. -/
def gdsPartsUptoRow : OpenClaim := { program := "ytlhjacgocggbcaa", sum := "1e8a4c0e07f95998c0ff20f24455b3b50af118ee5fc1db8743dd10b4b3495d31", func := "linhay/linhaylaw18.GdsParts", spec := "gdsParts", inPlace := ["math/bits.Add64"], unfollowed := true, recurses := true, named := ["math/bits.divideError", "math/bits.overflowError"], apart := false, narrowed := true }
def GdsPartsUptoSaid : Prop := gdsPartsUptoRow.holds Try.pinned (OpenSpec.upto gdsPartsSpec)

/-- 'linhaylaw18.GdsWeight', WHERE WHAT IT READS IS OF BULK AT MOST 1048576: true; the input reads as it did. -/
def gdsWeightUptoRow : OpenClaim := { program := "ytlhjacgocggbcaa", sum := "1e8a4c0e07f95998c0ff20f24455b3b50af118ee5fc1db8743dd10b4b3495d31", func := "linhay/linhaylaw18.GdsWeight", spec := "gdsWeight", inPlace := ["math/bits.Add64"], unfollowed := true, recurses := true, named := ["math/bits.divideError", "math/bits.overflowError"], apart := false, narrowed := true }
def GdsWeightUptoSaid : Prop := gdsWeightUptoRow.holds Try.pinned (OpenSpec.upto gdsWeightSpec)

end Rows
end Go.Proofs.Ytlhjacgocggbcaa
