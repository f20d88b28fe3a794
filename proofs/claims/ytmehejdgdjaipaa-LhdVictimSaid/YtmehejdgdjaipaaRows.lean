/-
  No cell of these rows narrows 'for every input' (looked for: loops, veiled, ifaces, maps, wideKeys, modest, calm, conditions, laid).
  DERIVED. THE GIVEN ROWS OF THIS SEAT. 7 by the template 'for every input the law returns true; each argument reads behind the call as it read before'; 0 by the template 'total and deterministic' (their statements: YtmehejdgdjaipaaTotals.lean).
  GIVEN WITH THE SEED: the statements are not yours to turn. If you find one false, say at which input.
  Laid BY PROGRAM, IN A SANDBOX (cutbox-rows.mjs): the forced cells as the released guide's own fill.sh prints them over the translation ca3c08a52d2d9d47… (all of the seat's roots in one cut). By AI agents, Wed Nov 11 2026. No macro, syntax, notation, axiom, sorry.
-/
import Derived.Test.YtmehejdgdjaipaaChecked
import GoSem.Claim
import GoSem.ClaimJoined
import GoSem.ClaimMapViews
import Derived.JoinedTies
import Derived.KernelRfl
namespace Go.Proofs.Ytmehejdgdjaipaa
/- THE CELL 'sum', in the pinned program and in every row, IS THE sha256 OF THE DUMP (.gsa) THAT YtmehejdgdjaipaaProg.lean LOADS. Nothing in Lean hashes anything: it is a label: what it is worth is what the hold of that sum in a sandbox is worth. -/
noncomputable def Try.pinned : Pinned := { name := "ytmehejdgdjaipaa", sum := "ca3c08a52d2d9d47ebcd5a2f77764a0328f1ba6821c39181884084135f2b541a", checked := Try.checked }
namespace Rows
def none {H : Type} : Left H := { results := [], args := [] }

/-- 'linhaylaw19.LhdTells': WHATEVER THE INPUT: true; the input reads as it did. -/
def lhdTellsSpec : ChangeSpec := { name := "lhdTells", fn := fun _ => fun
  | [d1, d2, d3, d4, d5, d6] => { results := [.lit (.bool true)], args := [d1, d2, d3, d4, d5, d6] }
  | _ => none }
def lhdTellsRow : OpenClaim := { program := "ytmehejdgdjaipaa", sum := "ca3c08a52d2d9d47ebcd5a2f77764a0328f1ba6821c39181884084135f2b541a", func := "linhay/linhaylaw19.LhdTells", spec := "lhdTells", inPlace := ["math/bits.Add64"], unfollowed := true, recurses := true, named := ["math/bits.divideError", "math/bits.overflowError"], apart := false }
def LhdTellsSaid : Prop := lhdTellsRow.holds Try.pinned (OpenSpec.ofChange lhdTellsSpec)

/-- ITS FALSE NEIGHBOUR: 'it returns false'. Refute it at one input. -/
def lhdTellsWrong : ChangeSpec := { name := "lhdTells", fn := fun _ => fun
  | [d1, d2, d3, d4, d5, d6] => { results := [.lit (.bool false)], args := [d1, d2, d3, d4, d5, d6] }
  | _ => none }
def LhdTellsWrongFalsely : Prop := lhdTellsRow.holds Try.pinned (OpenSpec.ofChange lhdTellsWrong)

/-- 'linhaylaw19.LhdAges': WHATEVER THE INPUT: true; the input reads as it did. -/
def lhdAgesSpec : ChangeSpec := { name := "lhdAges", fn := fun _ => fun
  | [d1, d2] => { results := [.lit (.bool true)], args := [d1, d2] }
  | _ => none }
def lhdAgesRow : OpenClaim := { program := "ytmehejdgdjaipaa", sum := "ca3c08a52d2d9d47ebcd5a2f77764a0328f1ba6821c39181884084135f2b541a", func := "linhay/linhaylaw19.LhdAges", spec := "lhdAges", inPlace := ["math/bits.Add64"], unfollowed := true, recurses := true, named := ["math/bits.divideError", "math/bits.overflowError"], apart := false }
def LhdAgesSaid : Prop := lhdAgesRow.holds Try.pinned (OpenSpec.ofChange lhdAgesSpec)

/-- ITS FALSE NEIGHBOUR: 'it returns false'. Refute it at one input. -/
def lhdAgesWrong : ChangeSpec := { name := "lhdAges", fn := fun _ => fun
  | [d1, d2] => { results := [.lit (.bool false)], args := [d1, d2] }
  | _ => none }
def LhdAgesWrongFalsely : Prop := lhdAgesRow.holds Try.pinned (OpenSpec.ofChange lhdAgesWrong)

/-- 'linhaylaw19.LhdCounts': WHATEVER THE INPUT: true; the input reads as it did. -/
def lhdCountsSpec : ChangeSpec := { name := "lhdCounts", fn := fun _ => fun
  | [d1, d2, d3] => { results := [.lit (.bool true)], args := [d1, d2, d3] }
  | _ => none }
def lhdCountsRow : OpenClaim := { program := "ytmehejdgdjaipaa", sum := "ca3c08a52d2d9d47ebcd5a2f77764a0328f1ba6821c39181884084135f2b541a", func := "linhay/linhaylaw19.LhdCounts", spec := "lhdCounts", inPlace := ["math/bits.Add64"], unfollowed := true, recurses := true, named := ["math/bits.divideError", "math/bits.overflowError"], apart := false }
def LhdCountsSaid : Prop := lhdCountsRow.holds Try.pinned (OpenSpec.ofChange lhdCountsSpec)

/-- ITS FALSE NEIGHBOUR: 'it returns false'. Refute it at one input. -/
def lhdCountsWrong : ChangeSpec := { name := "lhdCounts", fn := fun _ => fun
  | [d1, d2, d3] => { results := [.lit (.bool false)], args := [d1, d2, d3] }
  | _ => none }
def LhdCountsWrongFalsely : Prop := lhdCountsRow.holds Try.pinned (OpenSpec.ofChange lhdCountsWrong)

/-- 'linhaylaw19.LhdSmall': WHATEVER THE INPUT: true; the input reads as it did. -/
def lhdSmallSpec : ChangeSpec := { name := "lhdSmall", fn := fun _ => fun
  | [d1, d2, d3] => { results := [.lit (.bool true)], args := [d1, d2, d3] }
  | _ => none }
def lhdSmallRow : OpenClaim := { program := "ytmehejdgdjaipaa", sum := "ca3c08a52d2d9d47ebcd5a2f77764a0328f1ba6821c39181884084135f2b541a", func := "linhay/linhaylaw19.LhdSmall", spec := "lhdSmall", inPlace := ["math/bits.Add64"], unfollowed := true, recurses := true, named := ["math/bits.divideError", "math/bits.overflowError"], apart := false }
def LhdSmallSaid : Prop := lhdSmallRow.holds Try.pinned (OpenSpec.ofChange lhdSmallSpec)

/-- ITS FALSE NEIGHBOUR: 'it returns false'. Refute it at one input. -/
def lhdSmallWrong : ChangeSpec := { name := "lhdSmall", fn := fun _ => fun
  | [d1, d2, d3] => { results := [.lit (.bool false)], args := [d1, d2, d3] }
  | _ => none }
def LhdSmallWrongFalsely : Prop := lhdSmallRow.holds Try.pinned (OpenSpec.ofChange lhdSmallWrong)

/-- 'linhaylaw19.LhdVictim': WHATEVER THE INPUT: true; the input reads as it did. -/
def lhdVictimSpec : ChangeSpec := { name := "lhdVictim", fn := fun _ => fun
  | [d1, d2, d3, d4] => { results := [.lit (.bool true)], args := [d1, d2, d3, d4] }
  | _ => none }
def lhdVictimRow : OpenClaim := { program := "ytmehejdgdjaipaa", sum := "ca3c08a52d2d9d47ebcd5a2f77764a0328f1ba6821c39181884084135f2b541a", func := "linhay/linhaylaw19.LhdVictim", spec := "lhdVictim", inPlace := ["math/bits.Add64"], unfollowed := true, recurses := true, named := ["math/bits.divideError", "math/bits.overflowError"], apart := false }
def LhdVictimSaid : Prop := lhdVictimRow.holds Try.pinned (OpenSpec.ofChange lhdVictimSpec)

/-- ITS FALSE NEIGHBOUR: 'it returns false'. Refute it at one input. -/
def lhdVictimWrong : ChangeSpec := { name := "lhdVictim", fn := fun _ => fun
  | [d1, d2, d3, d4] => { results := [.lit (.bool false)], args := [d1, d2, d3, d4] }
  | _ => none }
def LhdVictimWrongFalsely : Prop := lhdVictimRow.holds Try.pinned (OpenSpec.ofChange lhdVictimWrong)

/-- 'linhaylaw19.LhdFades': WHATEVER THE INPUT: true; the input reads as it did. -/
def lhdFadesSpec : ChangeSpec := { name := "lhdFades", fn := fun _ => fun
  | [d1, d2] => { results := [.lit (.bool true)], args := [d1, d2] }
  | _ => none }
def lhdFadesRow : OpenClaim := { program := "ytmehejdgdjaipaa", sum := "ca3c08a52d2d9d47ebcd5a2f77764a0328f1ba6821c39181884084135f2b541a", func := "linhay/linhaylaw19.LhdFades", spec := "lhdFades", inPlace := ["math/bits.Add64"], unfollowed := true, recurses := true, named := ["math/bits.divideError", "math/bits.overflowError"], apart := false }
def LhdFadesSaid : Prop := lhdFadesRow.holds Try.pinned (OpenSpec.ofChange lhdFadesSpec)

/-- ITS FALSE NEIGHBOUR: 'it returns false'. Refute it at one input. -/
def lhdFadesWrong : ChangeSpec := { name := "lhdFades", fn := fun _ => fun
  | [d1, d2] => { results := [.lit (.bool false)], args := [d1, d2] }
  | _ => none }
def LhdFadesWrongFalsely : Prop := lhdFadesRow.holds Try.pinned (OpenSpec.ofChange lhdFadesWrong)

/-- 'linhaylaw19.LhdTurns': WHATEVER THE INPUT: true; the input reads as it did. -/
def lhdTurnsSpec : ChangeSpec := { name := "lhdTurns", fn := fun _ => fun
  | [d1, d2, d3] => { results := [.lit (.bool true)], args := [d1, d2, d3] }
  | _ => none }
def lhdTurnsRow : OpenClaim := { program := "ytmehejdgdjaipaa", sum := "ca3c08a52d2d9d47ebcd5a2f77764a0328f1ba6821c39181884084135f2b541a", func := "linhay/linhaylaw19.LhdTurns", spec := "lhdTurns", inPlace := ["math/bits.Add64"], unfollowed := true, recurses := true, named := ["math/bits.divideError", "math/bits.overflowError"], apart := false }
def LhdTurnsSaid : Prop := lhdTurnsRow.holds Try.pinned (OpenSpec.ofChange lhdTurnsSpec)

/-- ITS FALSE NEIGHBOUR: 'it returns false'. Refute it at one input. -/
def lhdTurnsWrong : ChangeSpec := { name := "lhdTurns", fn := fun _ => fun
  | [d1, d2, d3] => { results := [.lit (.bool false)], args := [d1, d2, d3] }
  | _ => none }
def LhdTurnsWrongFalsely : Prop := lhdTurnsRow.holds Try.pinned (OpenSpec.ofChange lhdTurnsWrong)

/- THE SECOND FORM. 'bulk': how many values and letters a reading holds, each counted each time it is reached (what is shared counts as often as it is met; a slice's spare places count too). A statement '..UptoSaid' is the law's where the arguments, and the package variables that the reading takes, are together of bulk at most 1048576: NARROWER than '..Said'. Prove '..Said' where nothing that the law and all that it calls make is longer than what came in: it says more and counts as full. Else prove '..UptoSaid'. A law counts once. -/
mutual
def uptoBulk {H : Type} : DataW H → Nat
  | .lit (.string bytes) => bytes.length + 1
  | .lit _ => 1
  | .nil => 1
  | .ptr d => uptoBulk d + 1
  | .slice elems spare => uptoBulkAll elems + uptoBulkAll spare + 1
  | .agg parts => uptoBulkAll parts + 1
  | .iface _ d => uptoBulk d + 1
  | .map entries => uptoBulkEntries entries + 1
  | .held _ => 1
def uptoBulkAll {H : Type} : List (DataW H) → Nat
  | [] => 0
  | d :: r => uptoBulk d + uptoBulkAll r
def uptoBulkEntries {H : Type} : List (Lit × DataW H) → Nat
  | [] => 0
  | x :: r => uptoBulkEntry x + uptoBulkEntries r
def uptoBulkEntry {H : Type} : Lit × DataW H → Nat
  | (.string bytes, d) => bytes.length + uptoBulk d + 1
  | (_, d) => uptoBulk d + 1
 end
def uptoSmall : (H : Type) → List (DataW H) → Bool := fun _ ds => decide (uptoBulkAll ds ≤ 1048576)
def OpenSpec.upto (s : _root_.Go.ChangeSpec) : _root_.Go.OpenSpec := { _root_.Go.OpenSpec.ofChange s with cond := some uptoSmall }

/-- 'linhaylaw19.LhdTells', WHERE WHAT IT READS IS OF BULK AT MOST 1048576: true; the input reads as it did. -/
def lhdTellsUptoRow : OpenClaim := { program := "ytmehejdgdjaipaa", sum := "ca3c08a52d2d9d47ebcd5a2f77764a0328f1ba6821c39181884084135f2b541a", func := "linhay/linhaylaw19.LhdTells", spec := "lhdTells", inPlace := ["math/bits.Add64"], unfollowed := true, recurses := true, named := ["math/bits.divideError", "math/bits.overflowError"], apart := false, narrowed := true }
def LhdTellsUptoSaid : Prop := lhdTellsUptoRow.holds Try.pinned (OpenSpec.upto lhdTellsSpec)

/-- 'linhaylaw19.LhdAges', WHERE WHAT IT READS IS OF BULK AT MOST 1048576: true; the input reads as it did. -/
def lhdAgesUptoRow : OpenClaim := { program := "ytmehejdgdjaipaa", sum := "ca3c08a52d2d9d47ebcd5a2f77764a0328f1ba6821c39181884084135f2b541a", func := "linhay/linhaylaw19.LhdAges", spec := "lhdAges", inPlace := ["math/bits.Add64"], unfollowed := true, recurses := true, named := ["math/bits.divideError", "math/bits.overflowError"], apart := false, narrowed := true }
def LhdAgesUptoSaid : Prop := lhdAgesUptoRow.holds Try.pinned (OpenSpec.upto lhdAgesSpec)

/-- 'linhaylaw19.LhdCounts', WHERE WHAT IT READS IS OF BULK AT MOST 1048576: true; the input reads as it did. -/
def lhdCountsUptoRow : OpenClaim := { program := "ytmehejdgdjaipaa", sum := "ca3c08a52d2d9d47ebcd5a2f77764a0328f1ba6821c39181884084135f2b541a", func := "linhay/linhaylaw19.LhdCounts", spec := "lhdCounts", inPlace := ["math/bits.Add64"], unfollowed := true, recurses := true, named := ["math/bits.divideError", "math/bits.overflowError"], apart := false, narrowed := true }
def LhdCountsUptoSaid : Prop := lhdCountsUptoRow.holds Try.pinned (OpenSpec.upto lhdCountsSpec)

/-- 'linhaylaw19.LhdSmall', WHERE WHAT IT READS IS OF BULK AT MOST 1048576: true; the input reads as it did. -/
def lhdSmallUptoRow : OpenClaim := { program := "ytmehejdgdjaipaa", sum := "ca3c08a52d2d9d47ebcd5a2f77764a0328f1ba6821c39181884084135f2b541a", func := "linhay/linhaylaw19.LhdSmall", spec := "lhdSmall", inPlace := ["math/bits.Add64"], unfollowed := true, recurses := true, named := ["math/bits.divideError", "math/bits.overflowError"], apart := false, narrowed := true }
def LhdSmallUptoSaid : Prop := lhdSmallUptoRow.holds Try.pinned (OpenSpec.upto lhdSmallSpec)

/-- 'linhaylaw19.LhdVictim', WHERE WHAT IT READS IS OF BULK AT MOST 1048576: true; the input reads as it did. -/
def lhdVictimUptoRow : OpenClaim := { program := "ytmehejdgdjaipaa", sum := "ca3c08a52d2d9d47ebcd5a2f77764a0328f1ba6821c39181884084135f2b541a", func := "linhay/linhaylaw19.LhdVictim", spec := "lhdVictim", inPlace := ["math/bits.Add64"], unfollowed := true, recurses := true, named := ["math/bits.divideError", "math/bits.overflowError"], apart := false, narrowed := true }
def LhdVictimUptoSaid : Prop := lhdVictimUptoRow.holds Try.pinned (OpenSpec.upto lhdVictimSpec)

/-- 'linhaylaw19.LhdFades', WHERE WHAT IT READS IS OF BULK AT MOST 1048576: true; the input reads as it did. -/
def lhdFadesUptoRow : OpenClaim := { program := "ytmehejdgdjaipaa", sum := "ca3c08a52d2d9d47ebcd5a2f77764a0328f1ba6821c39181884084135f2b541a", func := "linhay/linhaylaw19.LhdFades", spec := "lhdFades", inPlace := ["math/bits.Add64"], unfollowed := true, recurses := true, named := ["math/bits.divideError", "math/bits.overflowError"], apart := false, narrowed := true }
def LhdFadesUptoSaid : Prop := lhdFadesUptoRow.holds Try.pinned (OpenSpec.upto lhdFadesSpec)

/-- 'linhaylaw19.LhdTurns', WHERE WHAT IT READS IS OF BULK AT MOST 1048576: true; the input reads as it did. -/
def lhdTurnsUptoRow : OpenClaim := { program := "ytmehejdgdjaipaa", sum := "ca3c08a52d2d9d47ebcd5a2f77764a0328f1ba6821c39181884084135f2b541a", func := "linhay/linhaylaw19.LhdTurns", spec := "lhdTurns", inPlace := ["math/bits.Add64"], unfollowed := true, recurses := true, named := ["math/bits.divideError", "math/bits.overflowError"], apart := false, narrowed := true }
def LhdTurnsUptoSaid : Prop := lhdTurnsUptoRow.holds Try.pinned (OpenSpec.upto lhdTurnsSpec)

end Rows
end Go.Proofs.Ytmehejdgdjaipaa
