/-
  DERIVED. GIVEN WITH THE SEED: THE CARDS: each row of YtojfhlppiicpbaaDoorRows.lean that lists a variable, with what it lists TIED to the program's text (the seventh form; the later family's looks); each row that meets fmt, with fmt's text TOLD by the authors' own Lean function (tested against real Go, not proved from fmt's source: count such statements apart). THE CARD IS WHAT COUNTS. Prove the row's statement (the work); the ties are given (YtojfhlppiicpbaaDoorTie.lean); close each card by the builder's one call (the guide's Derived/Test/ToyasCard.lean, 'card_holds'). Laid BY PROGRAM, IN A SANDBOX (cutbox-door.mjs). By AI agents, Wed Nov 11 2026. No macro, syntax, notation, axiom, sorry.
-/
import Derived.Test.YtojfhlppiicpbaaDoorRows
import GoSem.ClaimSeven
namespace Go.Proofs.YtojfhlppiicpbaaDoor
namespace Rows

/-- THE TIED CARD OF 'micropartlaw7.SchemaParses'. -/
def schemaParsesCard : Claim7 := { stood := { row := schemaParsesRow, standIns := [], harness := (true, "f7ff06683f8b352ad18795a489ac6143331e3e23a25eba93f5a471f7c8220898"), looks := true }, kinds := [], alts := [], laidByText := true, laidKinds := [.data, .data, .data, .data, .sentinel, .sentinel, .pinned], laidTests := true, laidLooks := .later }
def SchemaParsesCardSaid : Prop := Claim7.holds Tryd.pinned (.plain (OpenSpec.ofChange schemaParsesSpec)) schemaParsesCard

/-- THE TIED CARD OF 'micropartlaw7.SchemaTextMutations'. -/
def schemaTextMutationsCard : Claim7 := { stood := { row := schemaTextMutationsRow, standIns := [], harness := (true, "f7ff06683f8b352ad18795a489ac6143331e3e23a25eba93f5a471f7c8220898"), looks := true }, kinds := [], alts := [], laidByText := true, laidKinds := [.data, .data, .data, .data, .sentinel, .sentinel, .pinned], laidTests := true, laidLooks := .later }
def SchemaTextMutationsCardSaid : Prop := Claim7.holds Tryd.pinned (.plain (OpenSpec.ofChange schemaTextMutationsSpec)) schemaTextMutationsCard

/-- THE TIED CARD OF 'micropartlaw7.SchemaExamples'. -/
def schemaExamplesCard : Claim7 := { stood := { row := schemaExamplesRow, standIns := [], harness := (true, "f7ff06683f8b352ad18795a489ac6143331e3e23a25eba93f5a471f7c8220898"), looks := true }, kinds := [], alts := [], laidByText := true, laidKinds := [.data, .data, .data, .data, .sentinel, .sentinel, .pinned], laidTests := true, laidLooks := .later }
def SchemaExamplesCardSaid : Prop := Claim7.holds Tryd.pinned (.plain (OpenSpec.ofChange schemaExamplesSpec)) schemaExamplesCard

/-- THE TIED CARD OF 'micropartlaw7.SchemaRoundTrip'. -/
def schemaRoundTripCard : Claim7 := { stood := { row := schemaRoundTripRow, standIns := [], harness := (true, "f7ff06683f8b352ad18795a489ac6143331e3e23a25eba93f5a471f7c8220898"), looks := true }, kinds := [], alts := [], laidByText := true, laidKinds := [.data, .data, .data, .data, .sentinel, .sentinel, .pinned], laidTests := true, laidLooks := .later }
def SchemaRoundTripCardSaid : Prop := Claim7.holds Tryd.pinned (.plain (OpenSpec.ofChange schemaRoundTripSpec)) schemaRoundTripCard

/-- THE SECOND FORM's CARD OF 'micropartlaw7.SchemaParses'. -/
def schemaParsesUptoCard : Claim7 := { stood := { row := schemaParsesUptoRow, standIns := [], harness := (true, "f7ff06683f8b352ad18795a489ac6143331e3e23a25eba93f5a471f7c8220898"), looks := true }, kinds := [], alts := [], laidByText := true, laidKinds := [.data, .data, .data, .data, .sentinel, .sentinel, .pinned], laidTests := true, laidLooks := .later }
def SchemaParsesUptoCardSaid : Prop := Claim7.holds Tryd.pinned (.plain (OpenSpec.upto schemaParsesSpec)) schemaParsesUptoCard

/-- THE SECOND FORM's CARD OF 'micropartlaw7.SchemaTextMutations'. -/
def schemaTextMutationsUptoCard : Claim7 := { stood := { row := schemaTextMutationsUptoRow, standIns := [], harness := (true, "f7ff06683f8b352ad18795a489ac6143331e3e23a25eba93f5a471f7c8220898"), looks := true }, kinds := [], alts := [], laidByText := true, laidKinds := [.data, .data, .data, .data, .sentinel, .sentinel, .pinned], laidTests := true, laidLooks := .later }
def SchemaTextMutationsUptoCardSaid : Prop := Claim7.holds Tryd.pinned (.plain (OpenSpec.upto schemaTextMutationsSpec)) schemaTextMutationsUptoCard

/-- THE SECOND FORM's CARD OF 'micropartlaw7.SchemaExamples'. -/
def schemaExamplesUptoCard : Claim7 := { stood := { row := schemaExamplesUptoRow, standIns := [], harness := (true, "f7ff06683f8b352ad18795a489ac6143331e3e23a25eba93f5a471f7c8220898"), looks := true }, kinds := [], alts := [], laidByText := true, laidKinds := [.data, .data, .data, .data, .sentinel, .sentinel, .pinned], laidTests := true, laidLooks := .later }
def SchemaExamplesUptoCardSaid : Prop := Claim7.holds Tryd.pinned (.plain (OpenSpec.upto schemaExamplesSpec)) schemaExamplesUptoCard

/-- THE SECOND FORM's CARD OF 'micropartlaw7.SchemaRoundTrip'. -/
def schemaRoundTripUptoCard : Claim7 := { stood := { row := schemaRoundTripUptoRow, standIns := [], harness := (true, "f7ff06683f8b352ad18795a489ac6143331e3e23a25eba93f5a471f7c8220898"), looks := true }, kinds := [], alts := [], laidByText := true, laidKinds := [.data, .data, .data, .data, .sentinel, .sentinel, .pinned], laidTests := true, laidLooks := .later }
def SchemaRoundTripUptoCardSaid : Prop := Claim7.holds Tryd.pinned (.plain (OpenSpec.upto schemaRoundTripSpec)) schemaRoundTripUptoCard
end Rows
end Go.Proofs.YtojfhlppiicpbaaDoor
