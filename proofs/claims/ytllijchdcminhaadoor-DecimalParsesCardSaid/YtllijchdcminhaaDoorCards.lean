/-
  DERIVED. GIVEN WITH THE SEED: THE CARDS: each row of YtllijchdcminhaaDoorRows.lean that lists a variable, with what it lists TIED to the program's text (the seventh form; the later family's looks); each row that meets fmt, with fmt's text TOLD by the authors' own Lean function (tested against real Go, not proved from fmt's source: count such statements apart). THE CARD IS WHAT COUNTS. Prove the row's statement (the work); the ties are given (YtllijchdcminhaaDoorTie.lean); close each card by the builder's one call (the guide's Derived/Test/ToyasCard.lean, 'card_holds'). Laid BY PROGRAM, IN A SANDBOX (cutbox-door.mjs). By AI agents, Wed Nov 11 2026. No macro, syntax, notation, axiom, sorry.
-/
import Derived.Test.YtllijchdcminhaaDoorRows
import GoSem.ClaimSeven
namespace Go.Proofs.YtllijchdcminhaaDoor
namespace Rows

/-- THE TIED CARD OF 'micropartlaw5.DecimalParses'. -/
def decimalParsesCard : Claim7 := { stood := { row := decimalParsesRow, standIns := [], harness := (true, "6f68f19a75ec4d03114b6ef085e782908bcf129b6df1c8d14c6b794963b36ea9"), looks := true }, kinds := [], alts := [], laidByText := true, laidKinds := [.data, .data, .data, .data, .sentinel, .sentinel, .pinned], laidTests := true, laidLooks := .later }
def DecimalParsesCardSaid : Prop := Claim7.holds Tryd.pinned (.plain (OpenSpec.ofChange decimalParsesSpec)) decimalParsesCard

/-- THE TIED CARD OF 'micropartlaw5.DecimalRoundTrip'. -/
def decimalRoundTripCard : Claim7 := { stood := { row := decimalRoundTripRow, standIns := [], harness := (true, "6f68f19a75ec4d03114b6ef085e782908bcf129b6df1c8d14c6b794963b36ea9"), looks := true }, kinds := [], alts := [], laidByText := true, laidKinds := [.data, .data, .data, .data, .sentinel, .sentinel, .pinned], laidTests := true, laidLooks := .later }
def DecimalRoundTripCardSaid : Prop := Claim7.holds Tryd.pinned (.plain (OpenSpec.ofChange decimalRoundTripSpec)) decimalRoundTripCard

/-- THE TIED CARD OF 'micropartlaw5.DecimalExamples'. -/
def decimalExamplesCard : Claim7 := { stood := { row := decimalExamplesRow, standIns := [], harness := (true, "6f68f19a75ec4d03114b6ef085e782908bcf129b6df1c8d14c6b794963b36ea9"), looks := true }, kinds := [], alts := [], laidByText := true, laidKinds := [.data, .data, .data, .data, .sentinel, .sentinel, .pinned], laidTests := true, laidLooks := .later }
def DecimalExamplesCardSaid : Prop := Claim7.holds Tryd.pinned (.plain (OpenSpec.ofChange decimalExamplesSpec)) decimalExamplesCard

/-- THE TIED CARD OF 'micropartlaw5.DecimalShortTexts'. -/
def decimalShortTextsCard : Claim7 := { stood := { row := decimalShortTextsRow, standIns := [], harness := (true, "6f68f19a75ec4d03114b6ef085e782908bcf129b6df1c8d14c6b794963b36ea9"), looks := true }, kinds := [], alts := [], laidByText := true, laidKinds := [.data, .data, .data, .data, .sentinel, .sentinel, .pinned], laidTests := true, laidLooks := .later }
def DecimalShortTextsCardSaid : Prop := Claim7.holds Tryd.pinned (.plain (OpenSpec.ofChange decimalShortTextsSpec)) decimalShortTextsCard

/-- THE SECOND FORM's CARD OF 'micropartlaw5.DecimalParses'. -/
def decimalParsesUptoCard : Claim7 := { stood := { row := decimalParsesUptoRow, standIns := [], harness := (true, "6f68f19a75ec4d03114b6ef085e782908bcf129b6df1c8d14c6b794963b36ea9"), looks := true }, kinds := [], alts := [], laidByText := true, laidKinds := [.data, .data, .data, .data, .sentinel, .sentinel, .pinned], laidTests := true, laidLooks := .later }
def DecimalParsesUptoCardSaid : Prop := Claim7.holds Tryd.pinned (.plain (OpenSpec.upto decimalParsesSpec)) decimalParsesUptoCard

/-- THE SECOND FORM's CARD OF 'micropartlaw5.DecimalRoundTrip'. -/
def decimalRoundTripUptoCard : Claim7 := { stood := { row := decimalRoundTripUptoRow, standIns := [], harness := (true, "6f68f19a75ec4d03114b6ef085e782908bcf129b6df1c8d14c6b794963b36ea9"), looks := true }, kinds := [], alts := [], laidByText := true, laidKinds := [.data, .data, .data, .data, .sentinel, .sentinel, .pinned], laidTests := true, laidLooks := .later }
def DecimalRoundTripUptoCardSaid : Prop := Claim7.holds Tryd.pinned (.plain (OpenSpec.upto decimalRoundTripSpec)) decimalRoundTripUptoCard

/-- THE SECOND FORM's CARD OF 'micropartlaw5.DecimalExamples'. -/
def decimalExamplesUptoCard : Claim7 := { stood := { row := decimalExamplesUptoRow, standIns := [], harness := (true, "6f68f19a75ec4d03114b6ef085e782908bcf129b6df1c8d14c6b794963b36ea9"), looks := true }, kinds := [], alts := [], laidByText := true, laidKinds := [.data, .data, .data, .data, .sentinel, .sentinel, .pinned], laidTests := true, laidLooks := .later }
def DecimalExamplesUptoCardSaid : Prop := Claim7.holds Tryd.pinned (.plain (OpenSpec.upto decimalExamplesSpec)) decimalExamplesUptoCard

/-- THE SECOND FORM's CARD OF 'micropartlaw5.DecimalShortTexts'. -/
def decimalShortTextsUptoCard : Claim7 := { stood := { row := decimalShortTextsUptoRow, standIns := [], harness := (true, "6f68f19a75ec4d03114b6ef085e782908bcf129b6df1c8d14c6b794963b36ea9"), looks := true }, kinds := [], alts := [], laidByText := true, laidKinds := [.data, .data, .data, .data, .sentinel, .sentinel, .pinned], laidTests := true, laidLooks := .later }
def DecimalShortTextsUptoCardSaid : Prop := Claim7.holds Tryd.pinned (.plain (OpenSpec.upto decimalShortTextsSpec)) decimalShortTextsUptoCard
end Rows
end Go.Proofs.YtllijchdcminhaaDoor
