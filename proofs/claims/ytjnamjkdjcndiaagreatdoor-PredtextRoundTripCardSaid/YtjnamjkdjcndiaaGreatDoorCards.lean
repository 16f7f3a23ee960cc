/-
  DERIVED. GIVEN WITH THE SEED: THE CARDS: each row of YtjnamjkdjcndiaaGreatDoorRows.lean that lists a variable, with what it lists TIED to the program's text (the seventh form; the later family's looks); each row that meets fmt, with fmt's text TOLD by the authors' own Lean function (tested against real Go, not proved from fmt's source: count such statements apart). THE CARD IS WHAT COUNTS. Prove the row's statement (the work); the ties are given (YtjnamjkdjcndiaaGreatDoorTie.lean); close each card by the builder's one call (the guide's Derived/Test/ToyasCard.lean, 'card_holds'). Laid BY PROGRAM, IN A SANDBOX (cutbox-door.mjs). By AI agents, Wed Nov 11 2026. No macro, syntax, notation, axiom, sorry.
-/
import Derived.Test.YtjnamjkdjcndiaaGreatDoorRows
import GoSem.ClaimSeven
namespace Go.Proofs.YtjnamjkdjcndiaaGreatDoor
namespace Rows

/-- THE TIED CARD OF 'micropartlaw22.PredtextExamples'. -/
def predtextExamplesCard : Claim7 := { stood := { row := predtextExamplesRow, standIns := [], harness := (true, "4ef181abfba726c1fe59c08e36b1e1057f10c8f4f4f0e5d0872d5392ed29c004"), looks := true }, kinds := [], alts := [], laidByText := true, laidKinds := [.data, .data, .data, .data, .sentinel, .sentinel, .pinned], laidTests := true, laidLooks := .later }
def PredtextExamplesCardSaid : Prop := Claim7.holds Tryz.pinned (.plain (OpenSpec.ofChange predtextExamplesSpec)) predtextExamplesCard

/-- THE TIED CARD OF 'micropartlaw22.PredtextMutations'. -/
def predtextMutationsCard : Claim7 := { stood := { row := predtextMutationsRow, standIns := [], harness := (true, "4ef181abfba726c1fe59c08e36b1e1057f10c8f4f4f0e5d0872d5392ed29c004"), looks := true }, kinds := [], alts := [], laidByText := true, laidKinds := [.data, .data, .data, .data, .sentinel, .sentinel, .pinned], laidTests := true, laidLooks := .later }
def PredtextMutationsCardSaid : Prop := Claim7.holds Tryz.pinned (.plain (OpenSpec.ofChange predtextMutationsSpec)) predtextMutationsCard

/-- THE TIED CARD OF 'micropartlaw22.PredtextLimits'. -/
def predtextLimitsCard : Claim7 := { stood := { row := predtextLimitsRow, standIns := [], harness := (true, "4ef181abfba726c1fe59c08e36b1e1057f10c8f4f4f0e5d0872d5392ed29c004"), looks := true }, kinds := [], alts := [], laidByText := true, laidKinds := [.data, .data, .data, .data, .sentinel, .sentinel, .pinned], laidTests := true, laidLooks := .later }
def PredtextLimitsCardSaid : Prop := Claim7.holds Tryz.pinned (.plain (OpenSpec.ofChange predtextLimitsSpec)) predtextLimitsCard

/-- THE TIED CARD OF 'micropartlaw22.PredtextRoundTrip'. -/
def predtextRoundTripCard : Claim7 := { stood := { row := predtextRoundTripRow, standIns := [], harness := (true, "4ef181abfba726c1fe59c08e36b1e1057f10c8f4f4f0e5d0872d5392ed29c004"), looks := true }, kinds := [], alts := [], laidByText := true, laidKinds := [.data, .data, .data, .data, .sentinel, .sentinel, .pinned], laidTests := true, laidLooks := .later }
def PredtextRoundTripCardSaid : Prop := Claim7.holds Tryz.pinned (.plain (OpenSpec.ofChange predtextRoundTripSpec)) predtextRoundTripCard

/-- THE TIED CARD OF 'micropartlaw22.PredtextSpaces'. -/
def predtextSpacesCard : Claim7 := { stood := { row := predtextSpacesRow, standIns := [], harness := (true, "4ef181abfba726c1fe59c08e36b1e1057f10c8f4f4f0e5d0872d5392ed29c004"), looks := true }, kinds := [], alts := [], laidByText := true, laidKinds := [.data, .data, .data, .data, .sentinel, .sentinel, .pinned], laidTests := true, laidLooks := .later }
def PredtextSpacesCardSaid : Prop := Claim7.holds Tryz.pinned (.plain (OpenSpec.ofChange predtextSpacesSpec)) predtextSpacesCard

/-- THE SECOND FORM's CARD OF 'micropartlaw22.PredtextExamples'. -/
def predtextExamplesUptoCard : Claim7 := { stood := { row := predtextExamplesUptoRow, standIns := [], harness := (true, "4ef181abfba726c1fe59c08e36b1e1057f10c8f4f4f0e5d0872d5392ed29c004"), looks := true }, kinds := [], alts := [], laidByText := true, laidKinds := [.data, .data, .data, .data, .sentinel, .sentinel, .pinned], laidTests := true, laidLooks := .later }
def PredtextExamplesUptoCardSaid : Prop := Claim7.holds Tryz.pinned (.plain (OpenSpec.upto predtextExamplesSpec)) predtextExamplesUptoCard

/-- THE SECOND FORM's CARD OF 'micropartlaw22.PredtextMutations'. -/
def predtextMutationsUptoCard : Claim7 := { stood := { row := predtextMutationsUptoRow, standIns := [], harness := (true, "4ef181abfba726c1fe59c08e36b1e1057f10c8f4f4f0e5d0872d5392ed29c004"), looks := true }, kinds := [], alts := [], laidByText := true, laidKinds := [.data, .data, .data, .data, .sentinel, .sentinel, .pinned], laidTests := true, laidLooks := .later }
def PredtextMutationsUptoCardSaid : Prop := Claim7.holds Tryz.pinned (.plain (OpenSpec.upto predtextMutationsSpec)) predtextMutationsUptoCard

/-- THE SECOND FORM's CARD OF 'micropartlaw22.PredtextLimits'. -/
def predtextLimitsUptoCard : Claim7 := { stood := { row := predtextLimitsUptoRow, standIns := [], harness := (true, "4ef181abfba726c1fe59c08e36b1e1057f10c8f4f4f0e5d0872d5392ed29c004"), looks := true }, kinds := [], alts := [], laidByText := true, laidKinds := [.data, .data, .data, .data, .sentinel, .sentinel, .pinned], laidTests := true, laidLooks := .later }
def PredtextLimitsUptoCardSaid : Prop := Claim7.holds Tryz.pinned (.plain (OpenSpec.upto predtextLimitsSpec)) predtextLimitsUptoCard

/-- THE SECOND FORM's CARD OF 'micropartlaw22.PredtextRoundTrip'. -/
def predtextRoundTripUptoCard : Claim7 := { stood := { row := predtextRoundTripUptoRow, standIns := [], harness := (true, "4ef181abfba726c1fe59c08e36b1e1057f10c8f4f4f0e5d0872d5392ed29c004"), looks := true }, kinds := [], alts := [], laidByText := true, laidKinds := [.data, .data, .data, .data, .sentinel, .sentinel, .pinned], laidTests := true, laidLooks := .later }
def PredtextRoundTripUptoCardSaid : Prop := Claim7.holds Tryz.pinned (.plain (OpenSpec.upto predtextRoundTripSpec)) predtextRoundTripUptoCard

/-- THE SECOND FORM's CARD OF 'micropartlaw22.PredtextSpaces'. -/
def predtextSpacesUptoCard : Claim7 := { stood := { row := predtextSpacesUptoRow, standIns := [], harness := (true, "4ef181abfba726c1fe59c08e36b1e1057f10c8f4f4f0e5d0872d5392ed29c004"), looks := true }, kinds := [], alts := [], laidByText := true, laidKinds := [.data, .data, .data, .data, .sentinel, .sentinel, .pinned], laidTests := true, laidLooks := .later }
def PredtextSpacesUptoCardSaid : Prop := Claim7.holds Tryz.pinned (.plain (OpenSpec.upto predtextSpacesSpec)) predtextSpacesUptoCard
end Rows
end Go.Proofs.YtjnamjkdjcndiaaGreatDoor
