/-
  NARROWER THAN 'FOR EVERY INPUT', by the rows' own cells (each row's printed sentence says how): ExpoTells: laid · ExpoNear: laid · ExpoFalls: laid · ExpoRatio: laid · ExpoSums: laid.
  DERIVED. THE GIVEN ROWS OF THIS SEAT. 5 by the template 'for every input the law returns true; each argument reads behind the call as it read before'; 0 by the template 'total and deterministic' (their statements: YtecacdghlefpfaaDoorTotals.lean).
  GIVEN WITH THE SEED: the statements are not yours to turn. If you find one false, say at which input.
  Laid BY PROGRAM, IN A SANDBOX (cutbox-rows.mjs): the forced cells as the released guide's own fill.sh prints them over the translation 8414da67c05ebf6b… (all of the seat's roots in one cut). By AI agents, Wed Nov 11 2026. No macro, syntax, notation, axiom, sorry.
-/
import Derived.Test.YtecacdghlefpfaaDoorChecked
import GoSem.Claim
import GoSem.ClaimJoined
import GoSem.ClaimMapViews
import Derived.JoinedTies
import Derived.KernelRfl
namespace Go.Proofs.YtecacdghlefpfaaDoor
/- THE CELL 'sum', in the pinned program and in every row, IS THE sha256 OF THE DUMP (.gsa) THAT YtecacdghlefpfaaDoorProg.lean LOADS. Nothing in Lean hashes anything: it is a label: what it is worth is what the hold of that sum in a sandbox is worth. -/
noncomputable def Tryd.pinned : Pinned := { name := "ytecacdghlefpfaadoor", sum := "8414da67c05ebf6bb5139dae28d6a0bdf9903f26be82bd6932db7607db091b1e", checked := Tryd.checked }
namespace Rows
def none {H : Type} : Left H := { results := [], args := [] }

/- WHAT THE LISTED PACKAGE-LEVEL VARIABLES READ AS WHEN THE CALL BEGINS. Each datum BY PROGRAM (the guide's laid-datum.mjs) off the statement by which the dump's own 'gosem.cut.vars' lays the variable. In a bare row this is a premise. The card (YtecacdghlefpfaaDoorCards.lean) ties it to the program's text. -/
def laid_linhay_expo_powers {H : Type} : DataW H := .agg [.lit (.int .u64 4611686017353646080), .lit (.int .u64 4611686016279904256), .lit (.int .u64 4611686014132420609), .lit (.int .u64 4611686009837453319), .lit (.int .u64 4611686001247518751), .lit (.int .u64 4611685984067649663), .lit (.int .u64 4611685949707911679), .lit (.int .u64 4611685880988436479), .lit (.int .u64 4611685743549489151), .lit (.int .u64 4611685468671606783), .lit (.int .u64 4611684918915891199), .lit (.int .u64 4611683819404656639), .lit (.int .u64 4611681620382973951), .lit (.int .u64 4611677222342754298), .lit (.int .u64 4611668426274897877), .lit (.int .u64 4611650834189516458), .lit (.int .u64 4611615650220078421), .lit (.int .u64 4611545283086494378), .lit (.int .u64 4611404552040437079), .lit (.int .u64 4611123102832306901), .lit (.int .u64 4610560255948314623), .lit (.int .u64 4609434768280048980), .lit (.int .u64 4607184617107619805), .lit (.int .u64 4602687609541841169), .lit (.int .u64 4593706758521714574), .lit (.int .u64 4575797593107614194), .lit (.int .u64 4540188453729421604), .lit (.int .u64 4469799356029710114), .lit (.int .u64 4332278087304955804), .lit (.int .u64 4069798626954855183), .lit (.int .u64 3591584682430698960), .lit (.int .u64 2797128963144291324), .lit (.int .u64 1696544475317221318), .lit (.int .u64 624123833502197199), .lit (.int .u64 84465975781740359), .lit (.int .u64 1547048310802923), .lit (.int .u64 518976891834)]

/-- 'linhaylaw05.ExpoTells': WHATEVER THE INPUT: true; the input reads as it did. -/
def expoTellsSpec : ChangeSpec := { name := "expoTells", fn := fun _ => fun
  | [d1, d2, d3, d4] => { results := [.lit (.bool true)], args := [d1, d2, d3, d4] }
  | _ => none }
def expoTellsRow : OpenClaim := { program := "ytecacdghlefpfaadoor", sum := "8414da67c05ebf6bb5139dae28d6a0bdf9903f26be82bd6932db7607db091b1e", func := "linhay/linhaylaw05.ExpoTells", spec := "expoTells", inPlace := ["math/bits.Add64"], unfollowed := true, recurses := true, named := ["linhay/expo.powers", "math/bits.divideError", "math/bits.overflowError"], apart := false, laid := [("linhay/expo.powers", laid_linhay_expo_powers)] }
def ExpoTellsSaid : Prop := expoTellsRow.holds Tryd.pinned (OpenSpec.ofChange expoTellsSpec)

/-- ITS FALSE NEIGHBOUR: 'it returns false'. Refute it at one input. -/
def expoTellsWrong : ChangeSpec := { name := "expoTells", fn := fun _ => fun
  | [d1, d2, d3, d4] => { results := [.lit (.bool false)], args := [d1, d2, d3, d4] }
  | _ => none }
def ExpoTellsWrongFalsely : Prop := expoTellsRow.holds Tryd.pinned (OpenSpec.ofChange expoTellsWrong)

/-- 'linhaylaw05.ExpoNear': WHATEVER THE INPUT: true; the input reads as it did. -/
def expoNearSpec : ChangeSpec := { name := "expoNear", fn := fun _ => fun
  | [d] => { results := [.lit (.bool true)], args := [d] }
  | _ => none }
def expoNearRow : OpenClaim := { program := "ytecacdghlefpfaadoor", sum := "8414da67c05ebf6bb5139dae28d6a0bdf9903f26be82bd6932db7607db091b1e", func := "linhay/linhaylaw05.ExpoNear", spec := "expoNear", inPlace := ["math/bits.Add64"], unfollowed := true, recurses := true, named := ["linhay/expo.powers", "math/bits.divideError", "math/bits.overflowError"], apart := false, laid := [("linhay/expo.powers", laid_linhay_expo_powers)] }
def ExpoNearSaid : Prop := expoNearRow.holds Tryd.pinned (OpenSpec.ofChange expoNearSpec)

/-- ITS FALSE NEIGHBOUR: 'it returns false'. Refute it at one input. -/
def expoNearWrong : ChangeSpec := { name := "expoNear", fn := fun _ => fun
  | [d] => { results := [.lit (.bool false)], args := [d] }
  | _ => none }
def ExpoNearWrongFalsely : Prop := expoNearRow.holds Tryd.pinned (OpenSpec.ofChange expoNearWrong)

/-- 'linhaylaw05.ExpoFalls': WHATEVER THE INPUT: true; the input reads as it did. -/
def expoFallsSpec : ChangeSpec := { name := "expoFalls", fn := fun _ => fun
  | [d1, d2] => { results := [.lit (.bool true)], args := [d1, d2] }
  | _ => none }
def expoFallsRow : OpenClaim := { program := "ytecacdghlefpfaadoor", sum := "8414da67c05ebf6bb5139dae28d6a0bdf9903f26be82bd6932db7607db091b1e", func := "linhay/linhaylaw05.ExpoFalls", spec := "expoFalls", inPlace := ["math/bits.Add64"], unfollowed := true, recurses := true, named := ["linhay/expo.powers", "math/bits.divideError", "math/bits.overflowError"], apart := false, laid := [("linhay/expo.powers", laid_linhay_expo_powers)] }
def ExpoFallsSaid : Prop := expoFallsRow.holds Tryd.pinned (OpenSpec.ofChange expoFallsSpec)

/-- ITS FALSE NEIGHBOUR: 'it returns false'. Refute it at one input. -/
def expoFallsWrong : ChangeSpec := { name := "expoFalls", fn := fun _ => fun
  | [d1, d2] => { results := [.lit (.bool false)], args := [d1, d2] }
  | _ => none }
def ExpoFallsWrongFalsely : Prop := expoFallsRow.holds Tryd.pinned (OpenSpec.ofChange expoFallsWrong)

/-- 'linhaylaw05.ExpoRatio': WHATEVER THE INPUT: true; the input reads as it did. -/
def expoRatioSpec : ChangeSpec := { name := "expoRatio", fn := fun _ => fun
  | [d1, d2, d3, d4, d5] => { results := [.lit (.bool true)], args := [d1, d2, d3, d4, d5] }
  | _ => none }
def expoRatioRow : OpenClaim := { program := "ytecacdghlefpfaadoor", sum := "8414da67c05ebf6bb5139dae28d6a0bdf9903f26be82bd6932db7607db091b1e", func := "linhay/linhaylaw05.ExpoRatio", spec := "expoRatio", inPlace := ["math/bits.Add64"], unfollowed := true, recurses := true, named := ["linhay/expo.powers", "math/bits.divideError", "math/bits.overflowError"], apart := false, laid := [("linhay/expo.powers", laid_linhay_expo_powers)] }
def ExpoRatioSaid : Prop := expoRatioRow.holds Tryd.pinned (OpenSpec.ofChange expoRatioSpec)

/-- ITS FALSE NEIGHBOUR: 'it returns false'. Refute it at one input. -/
def expoRatioWrong : ChangeSpec := { name := "expoRatio", fn := fun _ => fun
  | [d1, d2, d3, d4, d5] => { results := [.lit (.bool false)], args := [d1, d2, d3, d4, d5] }
  | _ => none }
def ExpoRatioWrongFalsely : Prop := expoRatioRow.holds Tryd.pinned (OpenSpec.ofChange expoRatioWrong)

/-- 'linhaylaw05.ExpoSums': WHATEVER THE INPUT: true; the input reads as it did. -/
def expoSumsSpec : ChangeSpec := { name := "expoSums", fn := fun _ => fun
  | [d1, d2] => { results := [.lit (.bool true)], args := [d1, d2] }
  | _ => none }
def expoSumsRow : OpenClaim := { program := "ytecacdghlefpfaadoor", sum := "8414da67c05ebf6bb5139dae28d6a0bdf9903f26be82bd6932db7607db091b1e", func := "linhay/linhaylaw05.ExpoSums", spec := "expoSums", inPlace := ["math/bits.Add64"], unfollowed := true, recurses := true, named := ["linhay/expo.powers", "math/bits.divideError", "math/bits.overflowError"], apart := false, laid := [("linhay/expo.powers", laid_linhay_expo_powers)] }
def ExpoSumsSaid : Prop := expoSumsRow.holds Tryd.pinned (OpenSpec.ofChange expoSumsSpec)

/-- ITS FALSE NEIGHBOUR: 'it returns false'. Refute it at one input. -/
def expoSumsWrong : ChangeSpec := { name := "expoSums", fn := fun _ => fun
  | [d1, d2] => { results := [.lit (.bool false)], args := [d1, d2] }
  | _ => none }
def ExpoSumsWrongFalsely : Prop := expoSumsRow.holds Tryd.pinned (OpenSpec.ofChange expoSumsWrong)

/- THE SECOND FORM. 'bulk': how many values and letters a reading holds, each counted each time it is reached (what is shared counts as often as it is met; a slice's spare places count too). A statement '..UptoSaid' is the law's where the arguments, and the package variables that the reading takes, are together of bulk at most 1048576: NARROWER than '..Said'. Prove '..Said' where nothing that the law and all that it calls make is longer than what came in: it says more and counts as full. Else prove '..UptoSaid'. A law counts once. -/
mutual
def uptoBulk {H : Type} : DataW H → Nat
  | .lit (.string bytes) => bytes.length + 1
  | .lit _ => 1
  | .nil => 1
  | .ptr d => uptoBulk d + 1
  | .slice elems spare => uptoBulkAll elems + uptoBulkAll spare + 1
  | .agg parts => uptoBulkAll parts + 1
  | .iface _ d => uptoBulk d + 1
  | .map entries => uptoBulkEntries entries + 1
  | .held _ => 1
def uptoBulkAll {H : Type} : List (DataW H) → Nat
  | [] => 0
  | d :: r => uptoBulk d + uptoBulkAll r
def uptoBulkEntries {H : Type} : List (Lit × DataW H) → Nat
  | [] => 0
  | x :: r => uptoBulkEntry x + uptoBulkEntries r
def uptoBulkEntry {H : Type} : Lit × DataW H → Nat
  | (.string bytes, d) => bytes.length + uptoBulk d + 1
  | (_, d) => uptoBulk d + 1
 end
def uptoSmall : (H : Type) → List (DataW H) → Bool := fun _ ds => decide (uptoBulkAll ds ≤ 1048576)
def OpenSpec.upto (s : _root_.Go.ChangeSpec) : _root_.Go.OpenSpec := { _root_.Go.OpenSpec.ofChange s with cond := some uptoSmall }

/-- 'linhaylaw05.ExpoTells', WHERE WHAT IT READS IS OF BULK AT MOST 1048576: true; the input reads as it did. -/
def expoTellsUptoRow : OpenClaim := { program := "ytecacdghlefpfaadoor", sum := "8414da67c05ebf6bb5139dae28d6a0bdf9903f26be82bd6932db7607db091b1e", func := "linhay/linhaylaw05.ExpoTells", spec := "expoTells", inPlace := ["math/bits.Add64"], unfollowed := true, recurses := true, named := ["linhay/expo.powers", "math/bits.divideError", "math/bits.overflowError"], apart := false, laid := [("linhay/expo.powers", laid_linhay_expo_powers)], narrowed := true }
def ExpoTellsUptoSaid : Prop := expoTellsUptoRow.holds Tryd.pinned (OpenSpec.upto expoTellsSpec)

/-- 'linhaylaw05.ExpoNear', WHERE WHAT IT READS IS OF BULK AT MOST 1048576: true; the input reads as it did. -/
def expoNearUptoRow : OpenClaim := { program := "ytecacdghlefpfaadoor", sum := "8414da67c05ebf6bb5139dae28d6a0bdf9903f26be82bd6932db7607db091b1e", func := "linhay/linhaylaw05.ExpoNear", spec := "expoNear", inPlace := ["math/bits.Add64"], unfollowed := true, recurses := true, named := ["linhay/expo.powers", "math/bits.divideError", "math/bits.overflowError"], apart := false, laid := [("linhay/expo.powers", laid_linhay_expo_powers)], narrowed := true }
def ExpoNearUptoSaid : Prop := expoNearUptoRow.holds Tryd.pinned (OpenSpec.upto expoNearSpec)

/-- 'linhaylaw05.ExpoFalls', WHERE WHAT IT READS IS OF BULK AT MOST 1048576: true; the input reads as it did. -/
def expoFallsUptoRow : OpenClaim := { program := "ytecacdghlefpfaadoor", sum := "8414da67c05ebf6bb5139dae28d6a0bdf9903f26be82bd6932db7607db091b1e", func := "linhay/linhaylaw05.ExpoFalls", spec := "expoFalls", inPlace := ["math/bits.Add64"], unfollowed := true, recurses := true, named := ["linhay/expo.powers", "math/bits.divideError", "math/bits.overflowError"], apart := false, laid := [("linhay/expo.powers", laid_linhay_expo_powers)], narrowed := true }
def ExpoFallsUptoSaid : Prop := expoFallsUptoRow.holds Tryd.pinned (OpenSpec.upto expoFallsSpec)

/-- 'linhaylaw05.ExpoRatio', WHERE WHAT IT READS IS OF BULK AT MOST 1048576: true; the input reads as it did. -/
def expoRatioUptoRow : OpenClaim := { program := "ytecacdghlefpfaadoor", sum := "8414da67c05ebf6bb5139dae28d6a0bdf9903f26be82bd6932db7607db091b1e", func := "linhay/linhaylaw05.ExpoRatio", spec := "expoRatio", inPlace := ["math/bits.Add64"], unfollowed := true, recurses := true, named := ["linhay/expo.powers", "math/bits.divideError", "math/bits.overflowError"], apart := false, laid := [("linhay/expo.powers", laid_linhay_expo_powers)], narrowed := true }
def ExpoRatioUptoSaid : Prop := expoRatioUptoRow.holds Tryd.pinned (OpenSpec.upto expoRatioSpec)

/-- 'linhaylaw05.ExpoSums', WHERE WHAT IT READS IS OF BULK AT MOST 1048576: true; the input reads as it did. -/
def expoSumsUptoRow : OpenClaim := { program := "ytecacdghlefpfaadoor", sum := "8414da67c05ebf6bb5139dae28d6a0bdf9903f26be82bd6932db7607db091b1e", func := "linhay/linhaylaw05.ExpoSums", spec := "expoSums", inPlace := ["math/bits.Add64"], unfollowed := true, recurses := true, named := ["linhay/expo.powers", "math/bits.divideError", "math/bits.overflowError"], apart := false, laid := [("linhay/expo.powers", laid_linhay_expo_powers)], narrowed := true }
def ExpoSumsUptoSaid : Prop := expoSumsUptoRow.holds Tryd.pinned (OpenSpec.upto expoSumsSpec)

end Rows
end Go.Proofs.YtecacdghlefpfaaDoor
