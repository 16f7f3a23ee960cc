/-
  DERIVED. GIVEN WITH THE SEED: THE CARDS: each row of YtgdahafokjdafaaGreatDoorRows.lean that lists a variable, with what it lists TIED to the program's text (the seventh form; the later family's looks); each row that meets fmt, with fmt's text TOLD by the authors' own Lean function (tested against real Go, not proved from fmt's source: count such statements apart). THE CARD IS WHAT COUNTS. Prove the row's statement (the work); the ties are given (YtgdahafokjdafaaGreatDoorTie.lean); close each card by the builder's one call (the guide's Derived/Test/ToyasCard.lean, 'card_holds'). Laid BY PROGRAM, IN A SANDBOX (cutbox-door.mjs). By AI agents, Wed Nov 11 2026. No macro, syntax, notation, axiom, sorry.
-/
import Derived.Test.YtgdahafokjdafaaGreatDoorRows
import GoSem.ClaimSeven
namespace Go.Proofs.YtgdahafokjdafaaGreatDoor
namespace Rows

/-- THE TIED CARD OF 'micropartlaw6.ValueParses'. -/
def valueParsesCard : Claim7 := { stood := { row := valueParsesRow, standIns := [], harness := (true, "6bd439d09a9cbadc50733004e55c86228e505b57b462da76e7547125522ab3f9"), looks := true }, kinds := [], alts := [], laidByText := true, laidKinds := [.data, .data, .data, .data, .sentinel, .sentinel, .pinned], laidTests := true, laidLooks := .later }
def ValueParsesCardSaid : Prop := Claim7.holds Tryz.pinned (.plain (OpenSpec.ofChange valueParsesSpec)) valueParsesCard

/-- THE TIED CARD OF 'micropartlaw6.ValueTextRoundTrip'. -/
def valueTextRoundTripCard : Claim7 := { stood := { row := valueTextRoundTripRow, standIns := [], harness := (true, "6bd439d09a9cbadc50733004e55c86228e505b57b462da76e7547125522ab3f9"), looks := true }, kinds := [], alts := [], laidByText := true, laidKinds := [.data, .data, .data, .data, .sentinel, .sentinel, .pinned], laidTests := true, laidLooks := .later }
def ValueTextRoundTripCardSaid : Prop := Claim7.holds Tryz.pinned (.plain (OpenSpec.ofChange valueTextRoundTripSpec)) valueTextRoundTripCard

/-- THE SECOND FORM's CARD OF 'micropartlaw6.ValueParses'. -/
def valueParsesUptoCard : Claim7 := { stood := { row := valueParsesUptoRow, standIns := [], harness := (true, "6bd439d09a9cbadc50733004e55c86228e505b57b462da76e7547125522ab3f9"), looks := true }, kinds := [], alts := [], laidByText := true, laidKinds := [.data, .data, .data, .data, .sentinel, .sentinel, .pinned], laidTests := true, laidLooks := .later }
def ValueParsesUptoCardSaid : Prop := Claim7.holds Tryz.pinned (.plain (OpenSpec.upto valueParsesSpec)) valueParsesUptoCard

/-- THE SECOND FORM's CARD OF 'micropartlaw6.ValueTextRoundTrip'. -/
def valueTextRoundTripUptoCard : Claim7 := { stood := { row := valueTextRoundTripUptoRow, standIns := [], harness := (true, "6bd439d09a9cbadc50733004e55c86228e505b57b462da76e7547125522ab3f9"), looks := true }, kinds := [], alts := [], laidByText := true, laidKinds := [.data, .data, .data, .data, .sentinel, .sentinel, .pinned], laidTests := true, laidLooks := .later }
def ValueTextRoundTripUptoCardSaid : Prop := Claim7.holds Tryz.pinned (.plain (OpenSpec.upto valueTextRoundTripSpec)) valueTextRoundTripUptoCard
end Rows
end Go.Proofs.YtgdahafokjdafaaGreatDoor
