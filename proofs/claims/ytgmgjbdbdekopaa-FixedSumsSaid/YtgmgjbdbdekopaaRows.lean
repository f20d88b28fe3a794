/-
  No cell of these rows narrows 'for every input' (looked for: loops, veiled, ifaces, maps, wideKeys, modest, calm, conditions, laid).
  DERIVED. THE GIVEN ROWS OF THIS SEAT. 6 by the template 'for every input the law returns true; each argument reads behind the call as it read before'; 0 by the template 'total and deterministic' (their statements: YtgmgjbdbdekopaaTotals.lean).
  GIVEN WITH THE SEED: the statements are not yours to turn. If you find one false, say at which input.
  Laid BY PROGRAM, IN A SANDBOX (cutbox-rows.mjs): the forced cells as the released guide's own fill.sh prints them over the translation 415eb902b8fd8f58… (all of the seat's roots in one cut). By AI agents, Wed Nov 11 2026. No macro, syntax, notation, axiom, sorry.
-/
import Derived.Test.YtgmgjbdbdekopaaChecked
import GoSem.Claim
import GoSem.ClaimJoined
import GoSem.ClaimMapViews
import Derived.JoinedTies
import Derived.KernelRfl
namespace Go.Proofs.Ytgmgjbdbdekopaa
/- THE CELL 'sum', in the pinned program and in every row, IS THE sha256 OF THE DUMP (.gsa) THAT YtgmgjbdbdekopaaProg.lean LOADS. Nothing in Lean hashes anything: it is a label: what it is worth is what the hold of that sum in a sandbox is worth. -/
noncomputable def Try.pinned : Pinned := { name := "ytgmgjbdbdekopaa", sum := "415eb902b8fd8f58bdb7c5d67329a9c56c22b3fc9d18329038298068970092e3", checked := Try.checked }
namespace Rows
def none {H : Type} : Left H := { results := [], args := [] }

/-- 'linhaylaw04.FixedTells': WHATEVER THE INPUT: true; the input reads as it did. -/
def fixedTellsSpec : ChangeSpec := { name := "fixedTells", fn := fun _ => fun
  | [d1, d2, d3, d4] => { results := [.lit (.bool true)], args := [d1, d2, d3, d4] }
  | _ => none }
def fixedTellsRow : OpenClaim := { program := "ytgmgjbdbdekopaa", sum := "415eb902b8fd8f58bdb7c5d67329a9c56c22b3fc9d18329038298068970092e3", func := "linhay/linhaylaw04.FixedTells", spec := "fixedTells", inPlace := ["math/bits.Add64"], unfollowed := true, recurses := true, named := ["math/bits.divideError", "math/bits.overflowError"], apart := false }
def FixedTellsSaid : Prop := fixedTellsRow.holds Try.pinned (OpenSpec.ofChange fixedTellsSpec)

/-- ITS FALSE NEIGHBOUR: 'it returns false'. Refute it at one input. -/
def fixedTellsWrong : ChangeSpec := { name := "fixedTells", fn := fun _ => fun
  | [d1, d2, d3, d4] => { results := [.lit (.bool false)], args := [d1, d2, d3, d4] }
  | _ => none }
def FixedTellsWrongFalsely : Prop := fixedTellsRow.holds Try.pinned (OpenSpec.ofChange fixedTellsWrong)

/-- 'linhaylaw04.FixedParts': WHATEVER THE INPUT: true; the input reads as it did. -/
def fixedPartsSpec : ChangeSpec := { name := "fixedParts", fn := fun _ => fun
  | [d1, d2, d3] => { results := [.lit (.bool true)], args := [d1, d2, d3] }
  | _ => none }
def fixedPartsRow : OpenClaim := { program := "ytgmgjbdbdekopaa", sum := "415eb902b8fd8f58bdb7c5d67329a9c56c22b3fc9d18329038298068970092e3", func := "linhay/linhaylaw04.FixedParts", spec := "fixedParts", inPlace := ["math/bits.Add64"], unfollowed := true, recurses := true, named := ["math/bits.divideError", "math/bits.overflowError"], apart := false }
def FixedPartsSaid : Prop := fixedPartsRow.holds Try.pinned (OpenSpec.ofChange fixedPartsSpec)

/-- ITS FALSE NEIGHBOUR: 'it returns false'. Refute it at one input. -/
def fixedPartsWrong : ChangeSpec := { name := "fixedParts", fn := fun _ => fun
  | [d1, d2, d3] => { results := [.lit (.bool false)], args := [d1, d2, d3] }
  | _ => none }
def FixedPartsWrongFalsely : Prop := fixedPartsRow.holds Try.pinned (OpenSpec.ofChange fixedPartsWrong)

/-- 'linhaylaw04.FixedMix': WHATEVER THE INPUT: true; the input reads as it did. -/
def fixedMixSpec : ChangeSpec := { name := "fixedMix", fn := fun _ => fun
  | [d1, d2, d3, d4] => { results := [.lit (.bool true)], args := [d1, d2, d3, d4] }
  | _ => none }
def fixedMixRow : OpenClaim := { program := "ytgmgjbdbdekopaa", sum := "415eb902b8fd8f58bdb7c5d67329a9c56c22b3fc9d18329038298068970092e3", func := "linhay/linhaylaw04.FixedMix", spec := "fixedMix", inPlace := ["math/bits.Add64"], unfollowed := true, recurses := true, named := ["math/bits.divideError", "math/bits.overflowError"], apart := false }
def FixedMixSaid : Prop := fixedMixRow.holds Try.pinned (OpenSpec.ofChange fixedMixSpec)

/-- ITS FALSE NEIGHBOUR: 'it returns false'. Refute it at one input. -/
def fixedMixWrong : ChangeSpec := { name := "fixedMix", fn := fun _ => fun
  | [d1, d2, d3, d4] => { results := [.lit (.bool false)], args := [d1, d2, d3, d4] }
  | _ => none }
def FixedMixWrongFalsely : Prop := fixedMixRow.holds Try.pinned (OpenSpec.ofChange fixedMixWrong)

/-- 'linhaylaw04.FixedSmall': WHATEVER THE INPUT: true; the input reads as it did. -/
def fixedSmallSpec : ChangeSpec := { name := "fixedSmall", fn := fun _ => fun
  | [d1, d2, d3] => { results := [.lit (.bool true)], args := [d1, d2, d3] }
  | _ => none }
def fixedSmallRow : OpenClaim := { program := "ytgmgjbdbdekopaa", sum := "415eb902b8fd8f58bdb7c5d67329a9c56c22b3fc9d18329038298068970092e3", func := "linhay/linhaylaw04.FixedSmall", spec := "fixedSmall", inPlace := ["math/bits.Add64"], unfollowed := true, recurses := true, named := ["math/bits.divideError", "math/bits.overflowError"], apart := false }
def FixedSmallSaid : Prop := fixedSmallRow.holds Try.pinned (OpenSpec.ofChange fixedSmallSpec)

/-- ITS FALSE NEIGHBOUR: 'it returns false'. Refute it at one input. -/
def fixedSmallWrong : ChangeSpec := { name := "fixedSmall", fn := fun _ => fun
  | [d1, d2, d3] => { results := [.lit (.bool false)], args := [d1, d2, d3] }
  | _ => none }
def FixedSmallWrongFalsely : Prop := fixedSmallRow.holds Try.pinned (OpenSpec.ofChange fixedSmallWrong)

/-- 'linhaylaw04.FixedBack': WHATEVER THE INPUT: true; the input reads as it did. -/
def fixedBackSpec : ChangeSpec := { name := "fixedBack", fn := fun _ => fun
  | [d1, d2] => { results := [.lit (.bool true)], args := [d1, d2] }
  | _ => none }
def fixedBackRow : OpenClaim := { program := "ytgmgjbdbdekopaa", sum := "415eb902b8fd8f58bdb7c5d67329a9c56c22b3fc9d18329038298068970092e3", func := "linhay/linhaylaw04.FixedBack", spec := "fixedBack", inPlace := ["math/bits.Add64"], unfollowed := true, recurses := true, named := ["math/bits.divideError", "math/bits.overflowError"], apart := false }
def FixedBackSaid : Prop := fixedBackRow.holds Try.pinned (OpenSpec.ofChange fixedBackSpec)

/-- ITS FALSE NEIGHBOUR: 'it returns false'. Refute it at one input. -/
def fixedBackWrong : ChangeSpec := { name := "fixedBack", fn := fun _ => fun
  | [d1, d2] => { results := [.lit (.bool false)], args := [d1, d2] }
  | _ => none }
def FixedBackWrongFalsely : Prop := fixedBackRow.holds Try.pinned (OpenSpec.ofChange fixedBackWrong)

/-- 'linhaylaw04.FixedSums': WHATEVER THE INPUT: true; the input reads as it did. -/
def fixedSumsSpec : ChangeSpec := { name := "fixedSums", fn := fun _ => fun
  | [d1, d2] => { results := [.lit (.bool true)], args := [d1, d2] }
  | _ => none }
def fixedSumsRow : OpenClaim := { program := "ytgmgjbdbdekopaa", sum := "415eb902b8fd8f58bdb7c5d67329a9c56c22b3fc9d18329038298068970092e3", func := "linhay/linhaylaw04.FixedSums", spec := "fixedSums", inPlace := ["math/bits.Add64"], unfollowed := true, recurses := true, named := ["math/bits.divideError", "math/bits.overflowError"], apart := false }
def FixedSumsSaid : Prop := fixedSumsRow.holds Try.pinned (OpenSpec.ofChange fixedSumsSpec)

/-- ITS FALSE NEIGHBOUR: 'it returns false'. Refute it at one input. -/
def fixedSumsWrong : ChangeSpec := { name := "fixedSums", fn := fun _ => fun
  | [d1, d2] => { results := [.lit (.bool false)], args := [d1, d2] }
  | _ => none }
def FixedSumsWrongFalsely : Prop := fixedSumsRow.holds Try.pinned (OpenSpec.ofChange fixedSumsWrong)

/- THE SECOND FORM. 'bulk': how many values and letters a reading holds, each counted each time it is reached (what is shared counts as often as it is met; a slice's spare places count too). A statement '..UptoSaid' is the law's where the arguments, and the package variables that the reading takes, are together of bulk at most 1048576: NARROWER than '..Said'. Prove '..Said' where nothing that the law and all that it calls make is longer than what came in: it says more and counts as full. Else prove '..UptoSaid'. A law counts once. -/
mutual
def uptoBulk {H : Type} : DataW H → Nat
  | .lit (.string bytes) => bytes.length + 1
  | .lit _ => 1
  | .nil => 1
  | .ptr d => uptoBulk d + 1
  | .slice elems spare => uptoBulkAll elems + uptoBulkAll spare + 1
  | .agg parts => uptoBulkAll parts + 1
  | .iface _ d => uptoBulk d + 1
  | .map entries => uptoBulkEntries entries + 1
  | .held _ => 1
def uptoBulkAll {H : Type} : List (DataW H) → Nat
  | [] => 0
  | d :: r => uptoBulk d + uptoBulkAll r
def uptoBulkEntries {H : Type} : List (Lit × DataW H) → Nat
  | [] => 0
  | x :: r => uptoBulkEntry x + uptoBulkEntries r
def uptoBulkEntry {H : Type} : Lit × DataW H → Nat
  | (.string bytes, d) => bytes.length + uptoBulk d + 1
  | (_, d) => uptoBulk d + 1
 end
def uptoSmall : (H : Type) → List (DataW H) → Bool := fun _ ds => decide (uptoBulkAll ds ≤ 1048576)
def OpenSpec.upto (s : _root_.Go.ChangeSpec) : _root_.Go.OpenSpec := { _root_.Go.OpenSpec.ofChange s with cond := some uptoSmall }

/-- 'linhaylaw04.FixedTells', WHERE WHAT IT READS IS OF BULK AT MOST 1048576: true; the input reads as it did. -/
def fixedTellsUptoRow : OpenClaim := { program := "ytgmgjbdbdekopaa", sum := "415eb902b8fd8f58bdb7c5d67329a9c56c22b3fc9d18329038298068970092e3", func := "linhay/linhaylaw04.FixedTells", spec := "fixedTells", inPlace := ["math/bits.Add64"], unfollowed := true, recurses := true, named := ["math/bits.divideError", "math/bits.overflowError"], apart := false, narrowed := true }
def FixedTellsUptoSaid : Prop := fixedTellsUptoRow.holds Try.pinned (OpenSpec.upto fixedTellsSpec)

/-- 'linhaylaw04.FixedParts', WHERE WHAT IT READS IS OF BULK AT MOST 1048576: true; the input reads as it did. -/
def fixedPartsUptoRow : OpenClaim := { program := "ytgmgjbdbdekopaa", sum := "415eb902b8fd8f58bdb7c5d67329a9c56c22b3fc9d18329038298068970092e3", func := "linhay/linhaylaw04.FixedParts", spec := "fixedParts", inPlace := ["math/bits.Add64"], unfollowed := true, recurses := true, named := ["math/bits.divideError", "math/bits.overflowError"], apart := false, narrowed := true }
def FixedPartsUptoSaid : Prop := fixedPartsUptoRow.holds Try.pinned (OpenSpec.upto fixedPartsSpec)

/-- 'linhaylaw04.FixedMix', WHERE WHAT IT READS IS OF BULK AT MOST 1048576: true; the input reads as it did. -/
def fixedMixUptoRow : OpenClaim := { program := "ytgmgjbdbdekopaa", sum := "415eb902b8fd8f58bdb7c5d67329a9c56c22b3fc9d18329038298068970092e3", func := "linhay/linhaylaw04.FixedMix", spec := "fixedMix", inPlace := ["math/bits.Add64"], unfollowed := true, recurses := true, named := ["math/bits.divideError", "math/bits.overflowError"], apart := false, narrowed := true }
def FixedMixUptoSaid : Prop := fixedMixUptoRow.holds Try.pinned (OpenSpec.upto fixedMixSpec)

/-- 'linhaylaw04.FixedSmall', WHERE WHAT IT READS IS OF BULK AT MOST 1048576: true; the input reads as it did. -/
def fixedSmallUptoRow : OpenClaim := { program := "ytgmgjbdbdekopaa", sum := "415eb902b8fd8f58bdb7c5d67329a9c56c22b3fc9d18329038298068970092e3", func := "linhay/linhaylaw04.FixedSmall", spec := "fixedSmall", inPlace := ["math/bits.Add64"], unfollowed := true, recurses := true, named := ["math/bits.divideError", "math/bits.overflowError"], apart := false, narrowed := true }
def FixedSmallUptoSaid : Prop := fixedSmallUptoRow.holds Try.pinned (OpenSpec.upto fixedSmallSpec)

/-- 'linhaylaw04.FixedBack', WHERE WHAT IT READS IS OF BULK AT MOST 1048576: true; the input reads as it did. -/
def fixedBackUptoRow : OpenClaim := { program := "ytgmgjbdbdekopaa", sum := "415eb902b8fd8f58bdb7c5d67329a9c56c22b3fc9d18329038298068970092e3", func := "linhay/linhaylaw04.FixedBack", spec := "fixedBack", inPlace := ["math/bits.Add64"], unfollowed := true, recurses := true, named := ["math/bits.divideError", "math/bits.overflowError"], apart := false, narrowed := true }
def FixedBackUptoSaid : Prop := fixedBackUptoRow.holds Try.pinned (OpenSpec.upto fixedBackSpec)

/-- 'linhaylaw04.FixedSums', WHERE WHAT IT READS IS OF BULK AT MOST 1048576: true; the input reads as it did. -/
def fixedSumsUptoRow : OpenClaim := { program := "ytgmgjbdbdekopaa", sum := "415eb902b8fd8f58bdb7c5d67329a9c56c22b3fc9d18329038298068970092e3", func := "linhay/linhaylaw04.FixedSums", spec := "fixedSums", inPlace := ["math/bits.Add64"], unfollowed := true, recurses := true, named := ["math/bits.divideError", "math/bits.overflowError"], apart := false, narrowed := true }
def FixedSumsUptoSaid : Prop := fixedSumsUptoRow.holds Try.pinned (OpenSpec.upto fixedSumsSpec)

end Rows
end Go.Proofs.Ytgmgjbdbdekopaa
