/-
  DERIVED. GIVEN WITH THE SEED: THE CARDS: each row of YtecacdghlefpfaaDoorRows.lean that lists a variable, with what it lists TIED to the program's text (the seventh form; the later family's looks); each row that meets fmt, with fmt's text TOLD by the authors' own Lean function (tested against real Go, not proved from fmt's source: count such statements apart). THE CARD IS WHAT COUNTS. Prove the row's statement (the work); the ties are given (YtecacdghlefpfaaDoorTie.lean); close each card by the builder's one call (the guide's Derived/Test/ToyasCard.lean, 'card_holds'). Laid BY PROGRAM, IN A SANDBOX (cutbox-door.mjs). By AI agents, Wed Nov 11 2026. No macro, syntax, notation, axiom, sorry.
-/
import Derived.Test.YtecacdghlefpfaaDoorRows
import GoSem.ClaimSeven
namespace Go.Proofs.YtecacdghlefpfaaDoor
namespace Rows

/-- THE TIED CARD OF 'linhaylaw05.ExpoTells'. -/
def expoTellsCard : Claim7 := { stood := { row := expoTellsRow, standIns := [], harness := (true, "57db0d89b5e67523e8c9d089991eabd87eb22bf1e6e0e53c79619da342ece87d"), looks := false }, kinds := [], alts := [], laidByText := true, laidKinds := [.data], laidTests := true, laidLooks := .later }
def ExpoTellsCardSaid : Prop := Claim7.holds Tryd.pinned (.plain (OpenSpec.ofChange expoTellsSpec)) expoTellsCard

/-- THE TIED CARD OF 'linhaylaw05.ExpoNear'. -/
def expoNearCard : Claim7 := { stood := { row := expoNearRow, standIns := [], harness := (true, "57db0d89b5e67523e8c9d089991eabd87eb22bf1e6e0e53c79619da342ece87d"), looks := false }, kinds := [], alts := [], laidByText := true, laidKinds := [.data], laidTests := true, laidLooks := .later }
def ExpoNearCardSaid : Prop := Claim7.holds Tryd.pinned (.plain (OpenSpec.ofChange expoNearSpec)) expoNearCard

/-- THE TIED CARD OF 'linhaylaw05.ExpoFalls'. -/
def expoFallsCard : Claim7 := { stood := { row := expoFallsRow, standIns := [], harness := (true, "57db0d89b5e67523e8c9d089991eabd87eb22bf1e6e0e53c79619da342ece87d"), looks := false }, kinds := [], alts := [], laidByText := true, laidKinds := [.data], laidTests := true, laidLooks := .later }
def ExpoFallsCardSaid : Prop := Claim7.holds Tryd.pinned (.plain (OpenSpec.ofChange expoFallsSpec)) expoFallsCard

/-- THE TIED CARD OF 'linhaylaw05.ExpoRatio'. -/
def expoRatioCard : Claim7 := { stood := { row := expoRatioRow, standIns := [], harness := (true, "57db0d89b5e67523e8c9d089991eabd87eb22bf1e6e0e53c79619da342ece87d"), looks := false }, kinds := [], alts := [], laidByText := true, laidKinds := [.data], laidTests := true, laidLooks := .later }
def ExpoRatioCardSaid : Prop := Claim7.holds Tryd.pinned (.plain (OpenSpec.ofChange expoRatioSpec)) expoRatioCard

/-- THE TIED CARD OF 'linhaylaw05.ExpoSums'. -/
def expoSumsCard : Claim7 := { stood := { row := expoSumsRow, standIns := [], harness := (true, "57db0d89b5e67523e8c9d089991eabd87eb22bf1e6e0e53c79619da342ece87d"), looks := false }, kinds := [], alts := [], laidByText := true, laidKinds := [.data], laidTests := true, laidLooks := .later }
def ExpoSumsCardSaid : Prop := Claim7.holds Tryd.pinned (.plain (OpenSpec.ofChange expoSumsSpec)) expoSumsCard

/-- THE SECOND FORM's CARD OF 'linhaylaw05.ExpoTells'. -/
def expoTellsUptoCard : Claim7 := { stood := { row := expoTellsUptoRow, standIns := [], harness := (true, "57db0d89b5e67523e8c9d089991eabd87eb22bf1e6e0e53c79619da342ece87d"), looks := false }, kinds := [], alts := [], laidByText := true, laidKinds := [.data], laidTests := true, laidLooks := .later }
def ExpoTellsUptoCardSaid : Prop := Claim7.holds Tryd.pinned (.plain (OpenSpec.upto expoTellsSpec)) expoTellsUptoCard

/-- THE SECOND FORM's CARD OF 'linhaylaw05.ExpoNear'. -/
def expoNearUptoCard : Claim7 := { stood := { row := expoNearUptoRow, standIns := [], harness := (true, "57db0d89b5e67523e8c9d089991eabd87eb22bf1e6e0e53c79619da342ece87d"), looks := false }, kinds := [], alts := [], laidByText := true, laidKinds := [.data], laidTests := true, laidLooks := .later }
def ExpoNearUptoCardSaid : Prop := Claim7.holds Tryd.pinned (.plain (OpenSpec.upto expoNearSpec)) expoNearUptoCard

/-- THE SECOND FORM's CARD OF 'linhaylaw05.ExpoFalls'. -/
def expoFallsUptoCard : Claim7 := { stood := { row := expoFallsUptoRow, standIns := [], harness := (true, "57db0d89b5e67523e8c9d089991eabd87eb22bf1e6e0e53c79619da342ece87d"), looks := false }, kinds := [], alts := [], laidByText := true, laidKinds := [.data], laidTests := true, laidLooks := .later }
def ExpoFallsUptoCardSaid : Prop := Claim7.holds Tryd.pinned (.plain (OpenSpec.upto expoFallsSpec)) expoFallsUptoCard

/-- THE SECOND FORM's CARD OF 'linhaylaw05.ExpoRatio'. -/
def expoRatioUptoCard : Claim7 := { stood := { row := expoRatioUptoRow, standIns := [], harness := (true, "57db0d89b5e67523e8c9d089991eabd87eb22bf1e6e0e53c79619da342ece87d"), looks := false }, kinds := [], alts := [], laidByText := true, laidKinds := [.data], laidTests := true, laidLooks := .later }
def ExpoRatioUptoCardSaid : Prop := Claim7.holds Tryd.pinned (.plain (OpenSpec.upto expoRatioSpec)) expoRatioUptoCard

/-- THE SECOND FORM's CARD OF 'linhaylaw05.ExpoSums'. -/
def expoSumsUptoCard : Claim7 := { stood := { row := expoSumsUptoRow, standIns := [], harness := (true, "57db0d89b5e67523e8c9d089991eabd87eb22bf1e6e0e53c79619da342ece87d"), looks := false }, kinds := [], alts := [], laidByText := true, laidKinds := [.data], laidTests := true, laidLooks := .later }
def ExpoSumsUptoCardSaid : Prop := Claim7.holds Tryd.pinned (.plain (OpenSpec.upto expoSumsSpec)) expoSumsUptoCard
end Rows
end Go.Proofs.YtecacdghlefpfaaDoor
