/-
  NARROWER THAN 'FOR EVERY INPUT', by the rows' own cells (each row's printed sentence says how): TuneTells: laid · TuneBest: laid · TuneNotes: laid · TuneRises: laid · TuneFits: laid · TuneGreatest: laid · TuneTurns: laid.
  DERIVED. THE GIVEN ROWS OF THIS SEAT. 7 by the template 'for every input the law returns true; each argument reads behind the call as it read before'; 0 by the template 'total and deterministic' (their statements: YtejipmkbjmcnaaaDoorTotals.lean).
  GIVEN WITH THE SEED: the statements are not yours to turn. If you find one false, say at which input.
  Laid BY PROGRAM, IN A SANDBOX (cutbox-rows.mjs): the forced cells as the released guide's own fill.sh prints them over the translation 6c059ca20c90d02c… (all of the seat's roots in one cut). By AI agents, Wed Nov 11 2026. No macro, syntax, notation, axiom, sorry.
-/
import Derived.Test.YtejipmkbjmcnaaaDoorChecked
import GoSem.Claim
import GoSem.ClaimJoined
import GoSem.ClaimMapViews
import Derived.JoinedTies
import Derived.KernelRfl
namespace Go.Proofs.YtejipmkbjmcnaaaDoor
/- THE CELL 'sum', in the pinned program and in every row, IS THE sha256 OF THE DUMP (.gsa) THAT YtejipmkbjmcnaaaDoorProg.lean LOADS. Nothing in Lean hashes anything: it is a label: what it is worth is what the hold of that sum in a sandbox is worth. -/
noncomputable def Tryd.pinned : Pinned := { name := "ytejipmkbjmcnaaadoor", sum := "6c059ca20c90d02cbd07d8aa326d8ca703a6781a2fa60b2512f88ccaa463476f", checked := Tryd.checked }
namespace Rows
def none {H : Type} : Left H := { results := [], args := [] }

/- WHAT THE LISTED PACKAGE-LEVEL VARIABLES READ AS WHEN THE CALL BEGINS. Each datum BY PROGRAM (the guide's laid-datum.mjs) off the statement by which the dump's own 'gosem.cut.vars' lays the variable. In a bare row this is a premise. The card (YtejipmkbjmcnaaaDoorCards.lean) ties it to the program's text. -/
def laid_linhay_expo_powers {H : Type} : DataW H := .agg [.lit (.int .u64 4611686017353646080), .lit (.int .u64 4611686016279904256), .lit (.int .u64 4611686014132420609), .lit (.int .u64 4611686009837453319), .lit (.int .u64 4611686001247518751), .lit (.int .u64 4611685984067649663), .lit (.int .u64 4611685949707911679), .lit (.int .u64 4611685880988436479), .lit (.int .u64 4611685743549489151), .lit (.int .u64 4611685468671606783), .lit (.int .u64 4611684918915891199), .lit (.int .u64 4611683819404656639), .lit (.int .u64 4611681620382973951), .lit (.int .u64 4611677222342754298), .lit (.int .u64 4611668426274897877), .lit (.int .u64 4611650834189516458), .lit (.int .u64 4611615650220078421), .lit (.int .u64 4611545283086494378), .lit (.int .u64 4611404552040437079), .lit (.int .u64 4611123102832306901), .lit (.int .u64 4610560255948314623), .lit (.int .u64 4609434768280048980), .lit (.int .u64 4607184617107619805), .lit (.int .u64 4602687609541841169), .lit (.int .u64 4593706758521714574), .lit (.int .u64 4575797593107614194), .lit (.int .u64 4540188453729421604), .lit (.int .u64 4469799356029710114), .lit (.int .u64 4332278087304955804), .lit (.int .u64 4069798626954855183), .lit (.int .u64 3591584682430698960), .lit (.int .u64 2797128963144291324), .lit (.int .u64 1696544475317221318), .lit (.int .u64 624123833502197199), .lit (.int .u64 84465975781740359), .lit (.int .u64 1547048310802923), .lit (.int .u64 518976891834)]

/-- 'linhaylaw21.TuneTells': WHATEVER THE INPUT: true; the input reads as it did. -/
def tuneTellsSpec : ChangeSpec := { name := "tuneTells", fn := fun _ => fun
  | [d1, d2, d3, d4, d5, d6] => { results := [.lit (.bool true)], args := [d1, d2, d3, d4, d5, d6] }
  | _ => none }
def tuneTellsRow : OpenClaim := { program := "ytejipmkbjmcnaaadoor", sum := "6c059ca20c90d02cbd07d8aa326d8ca703a6781a2fa60b2512f88ccaa463476f", func := "linhay/linhaylaw21.TuneTells", spec := "tuneTells", inPlace := ["slices.overlaps[linhay/api.Seen]", "math/bits.Add64"], unfollowed := true, recurses := true, named := ["math/bits.divideError", "math/bits.overflowError", "linhay/expo.powers"], apart := false, laid := [("linhay/expo.powers", laid_linhay_expo_powers)] }
def TuneTellsSaid : Prop := tuneTellsRow.holds Tryd.pinned (OpenSpec.ofChange tuneTellsSpec)

/-- ITS FALSE NEIGHBOUR: 'it returns false'. Refute it at one input. -/
def tuneTellsWrong : ChangeSpec := { name := "tuneTells", fn := fun _ => fun
  | [d1, d2, d3, d4, d5, d6] => { results := [.lit (.bool false)], args := [d1, d2, d3, d4, d5, d6] }
  | _ => none }
def TuneTellsWrongFalsely : Prop := tuneTellsRow.holds Tryd.pinned (OpenSpec.ofChange tuneTellsWrong)

/-- 'linhaylaw21.TuneBest': WHATEVER THE INPUT: true; the input reads as it did. -/
def tuneBestSpec : ChangeSpec := { name := "tuneBest", fn := fun _ => fun
  | [d1, d2, d3, d4] => { results := [.lit (.bool true)], args := [d1, d2, d3, d4] }
  | _ => none }
def tuneBestRow : OpenClaim := { program := "ytejipmkbjmcnaaadoor", sum := "6c059ca20c90d02cbd07d8aa326d8ca703a6781a2fa60b2512f88ccaa463476f", func := "linhay/linhaylaw21.TuneBest", spec := "tuneBest", inPlace := ["slices.overlaps[linhay/api.Seen]", "math/bits.Add64"], unfollowed := true, recurses := true, named := ["math/bits.divideError", "math/bits.overflowError", "linhay/expo.powers"], apart := false, laid := [("linhay/expo.powers", laid_linhay_expo_powers)] }
def TuneBestSaid : Prop := tuneBestRow.holds Tryd.pinned (OpenSpec.ofChange tuneBestSpec)

/-- ITS FALSE NEIGHBOUR: 'it returns false'. Refute it at one input. -/
def tuneBestWrong : ChangeSpec := { name := "tuneBest", fn := fun _ => fun
  | [d1, d2, d3, d4] => { results := [.lit (.bool false)], args := [d1, d2, d3, d4] }
  | _ => none }
def TuneBestWrongFalsely : Prop := tuneBestRow.holds Tryd.pinned (OpenSpec.ofChange tuneBestWrong)

/-- 'linhaylaw21.TuneNotes': WHATEVER THE INPUT: true; the input reads as it did. -/
def tuneNotesSpec : ChangeSpec := { name := "tuneNotes", fn := fun _ => fun
  | [d1, d2] => { results := [.lit (.bool true)], args := [d1, d2] }
  | _ => none }
def tuneNotesRow : OpenClaim := { program := "ytejipmkbjmcnaaadoor", sum := "6c059ca20c90d02cbd07d8aa326d8ca703a6781a2fa60b2512f88ccaa463476f", func := "linhay/linhaylaw21.TuneNotes", spec := "tuneNotes", inPlace := ["slices.overlaps[linhay/api.Seen]", "math/bits.Add64"], unfollowed := true, recurses := true, named := ["math/bits.divideError", "math/bits.overflowError", "linhay/expo.powers"], apart := false, laid := [("linhay/expo.powers", laid_linhay_expo_powers)] }
def TuneNotesSaid : Prop := tuneNotesRow.holds Tryd.pinned (OpenSpec.ofChange tuneNotesSpec)

/-- ITS FALSE NEIGHBOUR: 'it returns false'. Refute it at one input. -/
def tuneNotesWrong : ChangeSpec := { name := "tuneNotes", fn := fun _ => fun
  | [d1, d2] => { results := [.lit (.bool false)], args := [d1, d2] }
  | _ => none }
def TuneNotesWrongFalsely : Prop := tuneNotesRow.holds Tryd.pinned (OpenSpec.ofChange tuneNotesWrong)

/-- 'linhaylaw21.TuneRises': WHATEVER THE INPUT: true; the input reads as it did. -/
def tuneRisesSpec : ChangeSpec := { name := "tuneRises", fn := fun _ => fun
  | [d1, d2, d3, d4, d5, d6] => { results := [.lit (.bool true)], args := [d1, d2, d3, d4, d5, d6] }
  | _ => none }
def tuneRisesRow : OpenClaim := { program := "ytejipmkbjmcnaaadoor", sum := "6c059ca20c90d02cbd07d8aa326d8ca703a6781a2fa60b2512f88ccaa463476f", func := "linhay/linhaylaw21.TuneRises", spec := "tuneRises", inPlace := ["slices.overlaps[linhay/api.Seen]", "math/bits.Add64"], unfollowed := true, recurses := true, named := ["math/bits.divideError", "math/bits.overflowError", "linhay/expo.powers"], apart := false, laid := [("linhay/expo.powers", laid_linhay_expo_powers)] }
def TuneRisesSaid : Prop := tuneRisesRow.holds Tryd.pinned (OpenSpec.ofChange tuneRisesSpec)

/-- ITS FALSE NEIGHBOUR: 'it returns false'. Refute it at one input. -/
def tuneRisesWrong : ChangeSpec := { name := "tuneRises", fn := fun _ => fun
  | [d1, d2, d3, d4, d5, d6] => { results := [.lit (.bool false)], args := [d1, d2, d3, d4, d5, d6] }
  | _ => none }
def TuneRisesWrongFalsely : Prop := tuneRisesRow.holds Tryd.pinned (OpenSpec.ofChange tuneRisesWrong)

/-- 'linhaylaw21.TuneFits': WHATEVER THE INPUT: true; the input reads as it did. -/
def tuneFitsSpec : ChangeSpec := { name := "tuneFits", fn := fun _ => fun
  | [d1, d2, d3] => { results := [.lit (.bool true)], args := [d1, d2, d3] }
  | _ => none }
def tuneFitsRow : OpenClaim := { program := "ytejipmkbjmcnaaadoor", sum := "6c059ca20c90d02cbd07d8aa326d8ca703a6781a2fa60b2512f88ccaa463476f", func := "linhay/linhaylaw21.TuneFits", spec := "tuneFits", inPlace := ["slices.overlaps[linhay/api.Seen]", "math/bits.Add64"], unfollowed := true, recurses := true, named := ["math/bits.divideError", "math/bits.overflowError", "linhay/expo.powers"], apart := false, laid := [("linhay/expo.powers", laid_linhay_expo_powers)] }
def TuneFitsSaid : Prop := tuneFitsRow.holds Tryd.pinned (OpenSpec.ofChange tuneFitsSpec)

/-- ITS FALSE NEIGHBOUR: 'it returns false'. Refute it at one input. -/
def tuneFitsWrong : ChangeSpec := { name := "tuneFits", fn := fun _ => fun
  | [d1, d2, d3] => { results := [.lit (.bool false)], args := [d1, d2, d3] }
  | _ => none }
def TuneFitsWrongFalsely : Prop := tuneFitsRow.holds Tryd.pinned (OpenSpec.ofChange tuneFitsWrong)

/-- 'linhaylaw21.TuneGreatest': WHATEVER THE INPUT: true; the input reads as it did. -/
def tuneGreatestSpec : ChangeSpec := { name := "tuneGreatest", fn := fun _ => fun
  | [d1, d2, d3] => { results := [.lit (.bool true)], args := [d1, d2, d3] }
  | _ => none }
def tuneGreatestRow : OpenClaim := { program := "ytejipmkbjmcnaaadoor", sum := "6c059ca20c90d02cbd07d8aa326d8ca703a6781a2fa60b2512f88ccaa463476f", func := "linhay/linhaylaw21.TuneGreatest", spec := "tuneGreatest", inPlace := ["slices.overlaps[linhay/api.Seen]", "math/bits.Add64"], unfollowed := true, recurses := true, named := ["math/bits.divideError", "math/bits.overflowError", "linhay/expo.powers"], apart := false, laid := [("linhay/expo.powers", laid_linhay_expo_powers)] }
def TuneGreatestSaid : Prop := tuneGreatestRow.holds Tryd.pinned (OpenSpec.ofChange tuneGreatestSpec)

/-- ITS FALSE NEIGHBOUR: 'it returns false'. Refute it at one input. -/
def tuneGreatestWrong : ChangeSpec := { name := "tuneGreatest", fn := fun _ => fun
  | [d1, d2, d3] => { results := [.lit (.bool false)], args := [d1, d2, d3] }
  | _ => none }
def TuneGreatestWrongFalsely : Prop := tuneGreatestRow.holds Tryd.pinned (OpenSpec.ofChange tuneGreatestWrong)

/-- 'linhaylaw21.TuneTurns': WHATEVER THE INPUT: true; the input reads as it did. -/
def tuneTurnsSpec : ChangeSpec := { name := "tuneTurns", fn := fun _ => fun
  | [d1, d2, d3, d4, d5] => { results := [.lit (.bool true)], args := [d1, d2, d3, d4, d5] }
  | _ => none }
def tuneTurnsRow : OpenClaim := { program := "ytejipmkbjmcnaaadoor", sum := "6c059ca20c90d02cbd07d8aa326d8ca703a6781a2fa60b2512f88ccaa463476f", func := "linhay/linhaylaw21.TuneTurns", spec := "tuneTurns", inPlace := ["slices.overlaps[linhay/api.Seen]", "math/bits.Add64"], unfollowed := true, recurses := true, named := ["math/bits.divideError", "math/bits.overflowError", "linhay/expo.powers"], apart := false, laid := [("linhay/expo.powers", laid_linhay_expo_powers)] }
def TuneTurnsSaid : Prop := tuneTurnsRow.holds Tryd.pinned (OpenSpec.ofChange tuneTurnsSpec)

/-- ITS FALSE NEIGHBOUR: 'it returns false'. Refute it at one input. -/
def tuneTurnsWrong : ChangeSpec := { name := "tuneTurns", fn := fun _ => fun
  | [d1, d2, d3, d4, d5] => { results := [.lit (.bool false)], args := [d1, d2, d3, d4, d5] }
  | _ => none }
def TuneTurnsWrongFalsely : Prop := tuneTurnsRow.holds Tryd.pinned (OpenSpec.ofChange tuneTurnsWrong)

/- THE SECOND FORM. 'bulk': how many values and letters a reading holds, each counted each time it is reached (what is shared counts as often as it is met; a slice's spare places count too). A statement '..UptoSaid' is the law's where the arguments, and the package variables that the reading takes, are together of bulk at most 1048576: NARROWER than '..Said'. Prove '..Said' where nothing that the law and all that it calls make is longer than what came in: it says more and counts as full. Else prove '..UptoSaid'. A law counts once. -/
mutual
def uptoBulk {H : Type} : DataW H → Nat
  | .lit (.string bytes) => bytes.length + 1
  | .lit _ => 1
  | .nil => 1
  | .ptr d => uptoBulk d + 1
  | .slice elems spare => uptoBulkAll elems + uptoBulkAll spare + 1
  | .agg parts => uptoBulkAll parts + 1
  | .iface _ d => uptoBulk d + 1
  | .map entries => uptoBulkEntries entries + 1
  | .held _ => 1
def uptoBulkAll {H : Type} : List (DataW H) → Nat
  | [] => 0
  | d :: r => uptoBulk d + uptoBulkAll r
def uptoBulkEntries {H : Type} : List (Lit × DataW H) → Nat
  | [] => 0
  | x :: r => uptoBulkEntry x + uptoBulkEntries r
def uptoBulkEntry {H : Type} : Lit × DataW H → Nat
  | (.string bytes, d) => bytes.length + uptoBulk d + 1
  | (_, d) => uptoBulk d + 1
 end
def uptoSmall : (H : Type) → List (DataW H) → Bool := fun _ ds => decide (uptoBulkAll ds ≤ 1048576)
def OpenSpec.upto (s : _root_.Go.ChangeSpec) : _root_.Go.OpenSpec := { _root_.Go.OpenSpec.ofChange s with cond := some uptoSmall }

/-- 'linhaylaw21.TuneTells', WHERE WHAT IT READS IS OF BULK AT MOST 1048576: true; the input reads as it did. -/
def tuneTellsUptoRow : OpenClaim := { program := "ytejipmkbjmcnaaadoor", sum := "6c059ca20c90d02cbd07d8aa326d8ca703a6781a2fa60b2512f88ccaa463476f", func := "linhay/linhaylaw21.TuneTells", spec := "tuneTells", inPlace := ["slices.overlaps[linhay/api.Seen]", "math/bits.Add64"], unfollowed := true, recurses := true, named := ["math/bits.divideError", "math/bits.overflowError", "linhay/expo.powers"], apart := false, laid := [("linhay/expo.powers", laid_linhay_expo_powers)], narrowed := true }
def TuneTellsUptoSaid : Prop := tuneTellsUptoRow.holds Tryd.pinned (OpenSpec.upto tuneTellsSpec)

/-- 'linhaylaw21.TuneBest', WHERE WHAT IT READS IS OF BULK AT MOST 1048576: true; the input reads as it did. -/
def tuneBestUptoRow : OpenClaim := { program := "ytejipmkbjmcnaaadoor", sum := "6c059ca20c90d02cbd07d8aa326d8ca703a6781a2fa60b2512f88ccaa463476f", func := "linhay/linhaylaw21.TuneBest", spec := "tuneBest", inPlace := ["slices.overlaps[linhay/api.Seen]", "math/bits.Add64"], unfollowed := true, recurses := true, named := ["math/bits.divideError", "math/bits.overflowError", "linhay/expo.powers"], apart := false, laid := [("linhay/expo.powers", laid_linhay_expo_powers)], narrowed := true }
def TuneBestUptoSaid : Prop := tuneBestUptoRow.holds Tryd.pinned (OpenSpec.upto tuneBestSpec)

/-- 'linhaylaw21.TuneNotes', WHERE WHAT IT READS IS OF BULK AT MOST 1048576: true; the input reads as it did. -/
def tuneNotesUptoRow : OpenClaim := { program := "ytejipmkbjmcnaaadoor", sum := "6c059ca20c90d02cbd07d8aa326d8ca703a6781a2fa60b2512f88ccaa463476f", func := "linhay/linhaylaw21.TuneNotes", spec := "tuneNotes", inPlace := ["slices.overlaps[linhay/api.Seen]", "math/bits.Add64"], unfollowed := true, recurses := true, named := ["math/bits.divideError", "math/bits.overflowError", "linhay/expo.powers"], apart := false, laid := [("linhay/expo.powers", laid_linhay_expo_powers)], narrowed := true }
def TuneNotesUptoSaid : Prop := tuneNotesUptoRow.holds Tryd.pinned (OpenSpec.upto tuneNotesSpec)

/-- 'linhaylaw21.TuneRises', WHERE WHAT IT READS IS OF BULK AT MOST 1048576: true; the input reads as it did. -/
def tuneRisesUptoRow : OpenClaim := { program := "ytejipmkbjmcnaaadoor", sum := "6c059ca20c90d02cbd07d8aa326d8ca703a6781a2fa60b2512f88ccaa463476f", func := "linhay/linhaylaw21.TuneRises", spec := "tuneRises", inPlace := ["slices.overlaps[linhay/api.Seen]", "math/bits.Add64"], unfollowed := true, recurses := true, named := ["math/bits.divideError", "math/bits.overflowError", "linhay/expo.powers"], apart := false, laid := [("linhay/expo.powers", laid_linhay_expo_powers)], narrowed := true }
def TuneRisesUptoSaid : Prop := tuneRisesUptoRow.holds Tryd.pinned (OpenSpec.upto tuneRisesSpec)

/-- 'linhaylaw21.TuneFits', WHERE WHAT IT READS IS OF BULK AT MOST 1048576: true; the input reads as it did. -/
def tuneFitsUptoRow : OpenClaim := { program := "ytejipmkbjmcnaaadoor", sum := "6c059ca20c90d02cbd07d8aa326d8ca703a6781a2fa60b2512f88ccaa463476f", func := "linhay/linhaylaw21.TuneFits", spec := "tuneFits", inPlace := ["slices.overlaps[linhay/api.Seen]", "math/bits.Add64"], unfollowed := true, recurses := true, named := ["math/bits.divideError", "math/bits.overflowError", "linhay/expo.powers"], apart := false, laid := [("linhay/expo.powers", laid_linhay_expo_powers)], narrowed := true }
def TuneFitsUptoSaid : Prop := tuneFitsUptoRow.holds Tryd.pinned (OpenSpec.upto tuneFitsSpec)

/-- 'linhaylaw21.TuneGreatest', WHERE WHAT IT READS IS OF BULK AT MOST 1048576: true; the input reads as it did. -/
def tuneGreatestUptoRow : OpenClaim := { program := "ytejipmkbjmcnaaadoor", sum := "6c059ca20c90d02cbd07d8aa326d8ca703a6781a2fa60b2512f88ccaa463476f", func := "linhay/linhaylaw21.TuneGreatest", spec := "tuneGreatest", inPlace := ["slices.overlaps[linhay/api.Seen]", "math/bits.Add64"], unfollowed := true, recurses := true, named := ["math/bits.divideError", "math/bits.overflowError", "linhay/expo.powers"], apart := false, laid := [("linhay/expo.powers", laid_linhay_expo_powers)], narrowed := true }
def TuneGreatestUptoSaid : Prop := tuneGreatestUptoRow.holds Tryd.pinned (OpenSpec.upto tuneGreatestSpec)

/-- 'linhaylaw21.TuneTurns', WHERE WHAT IT READS IS OF BULK AT MOST 1048576: true; the input reads as it did. -/
def tuneTurnsUptoRow : OpenClaim := { program := "ytejipmkbjmcnaaadoor", sum := "6c059ca20c90d02cbd07d8aa326d8ca703a6781a2fa60b2512f88ccaa463476f", func := "linhay/linhaylaw21.TuneTurns", spec := "tuneTurns", inPlace := ["slices.overlaps[linhay/api.Seen]", "math/bits.Add64"], unfollowed := true, recurses := true, named := ["math/bits.divideError", "math/bits.overflowError", "linhay/expo.powers"], apart := false, laid := [("linhay/expo.powers", laid_linhay_expo_powers)], narrowed := true }
def TuneTurnsUptoSaid : Prop := tuneTurnsUptoRow.holds Tryd.pinned (OpenSpec.upto tuneTurnsSpec)

end Rows
end Go.Proofs.YtejipmkbjmcnaaaDoor
