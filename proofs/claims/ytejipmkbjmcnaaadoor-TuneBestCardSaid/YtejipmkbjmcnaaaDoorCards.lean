/-
  DERIVED. GIVEN WITH THE SEED: THE CARDS: each row of YtejipmkbjmcnaaaDoorRows.lean that lists a variable, with what it lists TIED to the program's text (the seventh form; the later family's looks); each row that meets fmt, with fmt's text TOLD by the authors' own Lean function (tested against real Go, not proved from fmt's source: count such statements apart). THE CARD IS WHAT COUNTS. Prove the row's statement (the work); the ties are given (YtejipmkbjmcnaaaDoorTie.lean); close each card by the builder's one call (the guide's Derived/Test/ToyasCard.lean, 'card_holds'). Laid BY PROGRAM, IN A SANDBOX (cutbox-door.mjs). By AI agents, Wed Nov 11 2026. No macro, syntax, notation, axiom, sorry.
-/
import Derived.Test.YtejipmkbjmcnaaaDoorRows
import GoSem.ClaimSeven
namespace Go.Proofs.YtejipmkbjmcnaaaDoor
namespace Rows

/-- THE TIED CARD OF 'linhaylaw21.TuneTells'. -/
def tuneTellsCard : Claim7 := { stood := { row := tuneTellsRow, standIns := [], harness := (true, "00c69652b03acc5ea3e598c8f4f00ee09612c2154368687cec4853a9f5393dc5"), looks := false }, kinds := [], alts := [], laidByText := true, laidKinds := [.data], laidTests := true, laidLooks := .later }
def TuneTellsCardSaid : Prop := Claim7.holds Tryd.pinned (.plain (OpenSpec.ofChange tuneTellsSpec)) tuneTellsCard

/-- THE TIED CARD OF 'linhaylaw21.TuneBest'. -/
def tuneBestCard : Claim7 := { stood := { row := tuneBestRow, standIns := [], harness := (true, "00c69652b03acc5ea3e598c8f4f00ee09612c2154368687cec4853a9f5393dc5"), looks := false }, kinds := [], alts := [], laidByText := true, laidKinds := [.data], laidTests := true, laidLooks := .later }
def TuneBestCardSaid : Prop := Claim7.holds Tryd.pinned (.plain (OpenSpec.ofChange tuneBestSpec)) tuneBestCard

/-- THE TIED CARD OF 'linhaylaw21.TuneNotes'. -/
def tuneNotesCard : Claim7 := { stood := { row := tuneNotesRow, standIns := [], harness := (true, "00c69652b03acc5ea3e598c8f4f00ee09612c2154368687cec4853a9f5393dc5"), looks := false }, kinds := [], alts := [], laidByText := true, laidKinds := [.data], laidTests := true, laidLooks := .later }
def TuneNotesCardSaid : Prop := Claim7.holds Tryd.pinned (.plain (OpenSpec.ofChange tuneNotesSpec)) tuneNotesCard

/-- THE TIED CARD OF 'linhaylaw21.TuneRises'. -/
def tuneRisesCard : Claim7 := { stood := { row := tuneRisesRow, standIns := [], harness := (true, "00c69652b03acc5ea3e598c8f4f00ee09612c2154368687cec4853a9f5393dc5"), looks := false }, kinds := [], alts := [], laidByText := true, laidKinds := [.data], laidTests := true, laidLooks := .later }
def TuneRisesCardSaid : Prop := Claim7.holds Tryd.pinned (.plain (OpenSpec.ofChange tuneRisesSpec)) tuneRisesCard

/-- THE TIED CARD OF 'linhaylaw21.TuneFits'. -/
def tuneFitsCard : Claim7 := { stood := { row := tuneFitsRow, standIns := [], harness := (true, "00c69652b03acc5ea3e598c8f4f00ee09612c2154368687cec4853a9f5393dc5"), looks := false }, kinds := [], alts := [], laidByText := true, laidKinds := [.data], laidTests := true, laidLooks := .later }
def TuneFitsCardSaid : Prop := Claim7.holds Tryd.pinned (.plain (OpenSpec.ofChange tuneFitsSpec)) tuneFitsCard

/-- THE TIED CARD OF 'linhaylaw21.TuneGreatest'. -/
def tuneGreatestCard : Claim7 := { stood := { row := tuneGreatestRow, standIns := [], harness := (true, "00c69652b03acc5ea3e598c8f4f00ee09612c2154368687cec4853a9f5393dc5"), looks := false }, kinds := [], alts := [], laidByText := true, laidKinds := [.data], laidTests := true, laidLooks := .later }
def TuneGreatestCardSaid : Prop := Claim7.holds Tryd.pinned (.plain (OpenSpec.ofChange tuneGreatestSpec)) tuneGreatestCard

/-- THE TIED CARD OF 'linhaylaw21.TuneTurns'. -/
def tuneTurnsCard : Claim7 := { stood := { row := tuneTurnsRow, standIns := [], harness := (true, "00c69652b03acc5ea3e598c8f4f00ee09612c2154368687cec4853a9f5393dc5"), looks := false }, kinds := [], alts := [], laidByText := true, laidKinds := [.data], laidTests := true, laidLooks := .later }
def TuneTurnsCardSaid : Prop := Claim7.holds Tryd.pinned (.plain (OpenSpec.ofChange tuneTurnsSpec)) tuneTurnsCard

/-- THE SECOND FORM's CARD OF 'linhaylaw21.TuneTells'. -/
def tuneTellsUptoCard : Claim7 := { stood := { row := tuneTellsUptoRow, standIns := [], harness := (true, "00c69652b03acc5ea3e598c8f4f00ee09612c2154368687cec4853a9f5393dc5"), looks := false }, kinds := [], alts := [], laidByText := true, laidKinds := [.data], laidTests := true, laidLooks := .later }
def TuneTellsUptoCardSaid : Prop := Claim7.holds Tryd.pinned (.plain (OpenSpec.upto tuneTellsSpec)) tuneTellsUptoCard

/-- THE SECOND FORM's CARD OF 'linhaylaw21.TuneBest'. -/
def tuneBestUptoCard : Claim7 := { stood := { row := tuneBestUptoRow, standIns := [], harness := (true, "00c69652b03acc5ea3e598c8f4f00ee09612c2154368687cec4853a9f5393dc5"), looks := false }, kinds := [], alts := [], laidByText := true, laidKinds := [.data], laidTests := true, laidLooks := .later }
def TuneBestUptoCardSaid : Prop := Claim7.holds Tryd.pinned (.plain (OpenSpec.upto tuneBestSpec)) tuneBestUptoCard

/-- THE SECOND FORM's CARD OF 'linhaylaw21.TuneNotes'. -/
def tuneNotesUptoCard : Claim7 := { stood := { row := tuneNotesUptoRow, standIns := [], harness := (true, "00c69652b03acc5ea3e598c8f4f00ee09612c2154368687cec4853a9f5393dc5"), looks := false }, kinds := [], alts := [], laidByText := true, laidKinds := [.data], laidTests := true, laidLooks := .later }
def TuneNotesUptoCardSaid : Prop := Claim7.holds Tryd.pinned (.plain (OpenSpec.upto tuneNotesSpec)) tuneNotesUptoCard

/-- THE SECOND FORM's CARD OF 'linhaylaw21.TuneRises'. -/
def tuneRisesUptoCard : Claim7 := { stood := { row := tuneRisesUptoRow, standIns := [], harness := (true, "00c69652b03acc5ea3e598c8f4f00ee09612c2154368687cec4853a9f5393dc5"), looks := false }, kinds := [], alts := [], laidByText := true, laidKinds := [.data], laidTests := true, laidLooks := .later }
def TuneRisesUptoCardSaid : Prop := Claim7.holds Tryd.pinned (.plain (OpenSpec.upto tuneRisesSpec)) tuneRisesUptoCard

/-- THE SECOND FORM's CARD OF 'linhaylaw21.TuneFits'. -/
def tuneFitsUptoCard : Claim7 := { stood := { row := tuneFitsUptoRow, standIns := [], harness := (true, "00c69652b03acc5ea3e598c8f4f00ee09612c2154368687cec4853a9f5393dc5"), looks := false }, kinds := [], alts := [], laidByText := true, laidKinds := [.data], laidTests := true, laidLooks := .later }
def TuneFitsUptoCardSaid : Prop := Claim7.holds Tryd.pinned (.plain (OpenSpec.upto tuneFitsSpec)) tuneFitsUptoCard

/-- THE SECOND FORM's CARD OF 'linhaylaw21.TuneGreatest'. -/
def tuneGreatestUptoCard : Claim7 := { stood := { row := tuneGreatestUptoRow, standIns := [], harness := (true, "00c69652b03acc5ea3e598c8f4f00ee09612c2154368687cec4853a9f5393dc5"), looks := false }, kinds := [], alts := [], laidByText := true, laidKinds := [.data], laidTests := true, laidLooks := .later }
def TuneGreatestUptoCardSaid : Prop := Claim7.holds Tryd.pinned (.plain (OpenSpec.upto tuneGreatestSpec)) tuneGreatestUptoCard

/-- THE SECOND FORM's CARD OF 'linhaylaw21.TuneTurns'. -/
def tuneTurnsUptoCard : Claim7 := { stood := { row := tuneTurnsUptoRow, standIns := [], harness := (true, "00c69652b03acc5ea3e598c8f4f00ee09612c2154368687cec4853a9f5393dc5"), looks := false }, kinds := [], alts := [], laidByText := true, laidKinds := [.data], laidTests := true, laidLooks := .later }
def TuneTurnsUptoCardSaid : Prop := Claim7.holds Tryd.pinned (.plain (OpenSpec.upto tuneTurnsSpec)) tuneTurnsUptoCard
end Rows
end Go.Proofs.YtejipmkbjmcnaaaDoor
