/-
  DERIVED. GIVEN WITH THE SEED: THE CARDS: each row of YtlchfaakmgclcaaDoorRows.lean that lists a variable, with what it lists TIED to the program's text (the seventh form; the later family's looks); each row that meets fmt, with fmt's text TOLD by the authors' own Lean function (tested against real Go, not proved from fmt's source: count such statements apart). THE CARD IS WHAT COUNTS. Prove the row's statement (the work); the ties are given (YtlchfaakmgclcaaDoorTie.lean); close each card by the builder's one call (the guide's Derived/Test/ToyasCard.lean, 'card_holds'). Laid BY PROGRAM, IN A SANDBOX (cutbox-door.mjs). By AI agents, Wed Nov 11 2026. No macro, syntax, notation, axiom, sorry.
-/
import Derived.Test.YtlchfaakmgclcaaDoorRows
import GoSem.ClaimSeven
namespace Go.Proofs.YtlchfaakmgclcaaDoor
namespace Rows

/-- THE TIED CARD OF 'micropartlaw7.SchemaRaw'. -/
def schemaRawCard : Claim7 := { stood := { row := schemaRawRow, standIns := [], harness := (true, "0a34300bb48f9faff6e6a2851207e6f2aa3825c2218295b897e3472953726755"), looks := true }, kinds := [], alts := [], laidByText := true, laidKinds := [.data, .data, .data], laidTests := true, laidLooks := .later }
def SchemaRawCardSaid : Prop := Claim7.holds Tryd.pinned (.plain (OpenSpec.ofChange schemaRawSpec)) schemaRawCard

/-- THE TIED CARD OF 'micropartlaw7.SchemaGenerated'. -/
def schemaGeneratedCard : Claim7 := { stood := { row := schemaGeneratedRow, standIns := [], harness := (true, "0a34300bb48f9faff6e6a2851207e6f2aa3825c2218295b897e3472953726755"), looks := true }, kinds := [], alts := [], laidByText := true, laidKinds := [.data, .data, .data], laidTests := true, laidLooks := .later }
def SchemaGeneratedCardSaid : Prop := Claim7.holds Tryd.pinned (.plain (OpenSpec.ofChange schemaGeneratedSpec)) schemaGeneratedCard

/-- THE TIED CARD OF 'micropartlaw7.SchemaIds'. -/
def schemaIdsCard : Claim7 := { stood := { row := schemaIdsRow, standIns := [], harness := (true, "0a34300bb48f9faff6e6a2851207e6f2aa3825c2218295b897e3472953726755"), looks := true }, kinds := [], alts := [], laidByText := true, laidKinds := [.data, .data, .data], laidTests := true, laidLooks := .later }
def SchemaIdsCardSaid : Prop := Claim7.holds Tryd.pinned (.plain (OpenSpec.ofChange schemaIdsSpec)) schemaIdsCard

/-- THE TIED CARD OF 'micropartlaw5.DecimalFormats'. -/
def decimalFormatsCard : Claim7 := { stood := { row := decimalFormatsRow, standIns := [], harness := (true, "0a34300bb48f9faff6e6a2851207e6f2aa3825c2218295b897e3472953726755"), looks := true }, kinds := [], alts := [], laidByText := true, laidKinds := [.data, .data, .data], laidTests := true, laidLooks := .later }
def DecimalFormatsCardSaid : Prop := Claim7.holds Tryd.pinned (.plain (OpenSpec.ofChange decimalFormatsSpec)) decimalFormatsCard

/-- THE TIED CARD OF 'micropartlaw5.DecimalRescales'. -/
def decimalRescalesCard : Claim7 := { stood := { row := decimalRescalesRow, standIns := [], harness := (true, "0a34300bb48f9faff6e6a2851207e6f2aa3825c2218295b897e3472953726755"), looks := true }, kinds := [], alts := [], laidByText := true, laidKinds := [.data, .data, .data], laidTests := true, laidLooks := .later }
def DecimalRescalesCardSaid : Prop := Claim7.holds Tryd.pinned (.plain (OpenSpec.ofChange decimalRescalesSpec)) decimalRescalesCard

/-- THE TIED CARD OF 'micropartlaw5.DecimalRescaleBack'. -/
def decimalRescaleBackCard : Claim7 := { stood := { row := decimalRescaleBackRow, standIns := [], harness := (true, "0a34300bb48f9faff6e6a2851207e6f2aa3825c2218295b897e3472953726755"), looks := true }, kinds := [], alts := [], laidByText := true, laidKinds := [.data, .data, .data], laidTests := true, laidLooks := .later }
def DecimalRescaleBackCardSaid : Prop := Claim7.holds Tryd.pinned (.plain (OpenSpec.ofChange decimalRescaleBackSpec)) decimalRescaleBackCard

/-- THE TIED CARD OF 'micropartlaw32.GarbageExamples'. -/
def garbageExamplesCard : Claim7 := { stood := { row := garbageExamplesRow, standIns := [], harness := (true, "0a34300bb48f9faff6e6a2851207e6f2aa3825c2218295b897e3472953726755"), looks := true }, kinds := [], alts := [], laidByText := true, laidKinds := [.data, .data, .data, .sentinel, .sentinel], laidTests := true, laidLooks := .later }
def GarbageExamplesCardSaid : Prop := Claim7.holds Tryd.pinned (.plain (OpenSpec.ofChange garbageExamplesSpec)) garbageExamplesCard

/-- THE TIED CARD OF 'micropartlaw32.GarbageNames'. -/
def garbageNamesCard : Claim7 := { stood := { row := garbageNamesRow, standIns := [], harness := (true, "0a34300bb48f9faff6e6a2851207e6f2aa3825c2218295b897e3472953726755"), looks := true }, kinds := [], alts := [], laidByText := true, laidKinds := [.data, .data, .data, .sentinel, .sentinel], laidTests := true, laidLooks := .later }
def GarbageNamesCardSaid : Prop := Claim7.holds Tryd.pinned (.plain (OpenSpec.ofChange garbageNamesSpec)) garbageNamesCard

/-- THE TIED CARD OF 'micropartlaw32.GarbageInverse'. -/
def garbageInverseCard : Claim7 := { stood := { row := garbageInverseRow, standIns := [], harness := (true, "0a34300bb48f9faff6e6a2851207e6f2aa3825c2218295b897e3472953726755"), looks := true }, kinds := [], alts := [], laidByText := true, laidKinds := [.data, .data, .data, .sentinel, .sentinel], laidTests := true, laidLooks := .later }
def GarbageInverseCardSaid : Prop := Claim7.holds Tryd.pinned (.plain (OpenSpec.ofChange garbageInverseSpec)) garbageInverseCard

/-- THE TIED CARD OF 'micropartlaw32.GarbageCollects'. -/
def garbageCollectsCard : Claim7 := { stood := { row := garbageCollectsRow, standIns := [], harness := (true, "0a34300bb48f9faff6e6a2851207e6f2aa3825c2218295b897e3472953726755"), looks := true }, kinds := [], alts := [], laidByText := true, laidKinds := [.data, .data, .data, .sentinel, .sentinel], laidTests := true, laidLooks := .later }
def GarbageCollectsCardSaid : Prop := Claim7.holds Tryd.pinned (.plain (OpenSpec.ofChange garbageCollectsSpec)) garbageCollectsCard

/-- THE TIED CARD OF 'micropartlaw32.GarbageNeverUsed'. -/
def garbageNeverUsedCard : Claim7 := { stood := { row := garbageNeverUsedRow, standIns := [], harness := (true, "0a34300bb48f9faff6e6a2851207e6f2aa3825c2218295b897e3472953726755"), looks := true }, kinds := [], alts := [], laidByText := true, laidKinds := [.data, .data, .data, .sentinel, .sentinel], laidTests := true, laidLooks := .later }
def GarbageNeverUsedCardSaid : Prop := Claim7.holds Tryd.pinned (.plain (OpenSpec.ofChange garbageNeverUsedSpec)) garbageNeverUsedCard

/-- THE TIED CARD OF 'micropartlaw6.ValueFormats'. -/
def valueFormatsCard : Claim7 := { stood := { row := valueFormatsRow, standIns := [], harness := (true, "0a34300bb48f9faff6e6a2851207e6f2aa3825c2218295b897e3472953726755"), looks := true }, kinds := [], alts := [], laidByText := true, laidKinds := [.data, .data, .data], laidTests := true, laidLooks := .later }
def ValueFormatsCardSaid : Prop := Claim7.holds Tryd.pinned (.plain (OpenSpec.ofChange valueFormatsSpec)) valueFormatsCard

/-- THE SECOND FORM's CARD OF 'micropartlaw7.SchemaRaw'. -/
def schemaRawUptoCard : Claim7 := { stood := { row := schemaRawUptoRow, standIns := [], harness := (true, "0a34300bb48f9faff6e6a2851207e6f2aa3825c2218295b897e3472953726755"), looks := true }, kinds := [], alts := [], laidByText := true, laidKinds := [.data, .data, .data], laidTests := true, laidLooks := .later }
def SchemaRawUptoCardSaid : Prop := Claim7.holds Tryd.pinned (.plain (OpenSpec.upto schemaRawSpec)) schemaRawUptoCard

/-- THE SECOND FORM's CARD OF 'micropartlaw7.SchemaGenerated'. -/
def schemaGeneratedUptoCard : Claim7 := { stood := { row := schemaGeneratedUptoRow, standIns := [], harness := (true, "0a34300bb48f9faff6e6a2851207e6f2aa3825c2218295b897e3472953726755"), looks := true }, kinds := [], alts := [], laidByText := true, laidKinds := [.data, .data, .data], laidTests := true, laidLooks := .later }
def SchemaGeneratedUptoCardSaid : Prop := Claim7.holds Tryd.pinned (.plain (OpenSpec.upto schemaGeneratedSpec)) schemaGeneratedUptoCard

/-- THE SECOND FORM's CARD OF 'micropartlaw7.SchemaIds'. -/
def schemaIdsUptoCard : Claim7 := { stood := { row := schemaIdsUptoRow, standIns := [], harness := (true, "0a34300bb48f9faff6e6a2851207e6f2aa3825c2218295b897e3472953726755"), looks := true }, kinds := [], alts := [], laidByText := true, laidKinds := [.data, .data, .data], laidTests := true, laidLooks := .later }
def SchemaIdsUptoCardSaid : Prop := Claim7.holds Tryd.pinned (.plain (OpenSpec.upto schemaIdsSpec)) schemaIdsUptoCard

/-- THE SECOND FORM's CARD OF 'micropartlaw5.DecimalFormats'. -/
def decimalFormatsUptoCard : Claim7 := { stood := { row := decimalFormatsUptoRow, standIns := [], harness := (true, "0a34300bb48f9faff6e6a2851207e6f2aa3825c2218295b897e3472953726755"), looks := true }, kinds := [], alts := [], laidByText := true, laidKinds := [.data, .data, .data], laidTests := true, laidLooks := .later }
def DecimalFormatsUptoCardSaid : Prop := Claim7.holds Tryd.pinned (.plain (OpenSpec.upto decimalFormatsSpec)) decimalFormatsUptoCard

/-- THE SECOND FORM's CARD OF 'micropartlaw5.DecimalRescales'. -/
def decimalRescalesUptoCard : Claim7 := { stood := { row := decimalRescalesUptoRow, standIns := [], harness := (true, "0a34300bb48f9faff6e6a2851207e6f2aa3825c2218295b897e3472953726755"), looks := true }, kinds := [], alts := [], laidByText := true, laidKinds := [.data, .data, .data], laidTests := true, laidLooks := .later }
def DecimalRescalesUptoCardSaid : Prop := Claim7.holds Tryd.pinned (.plain (OpenSpec.upto decimalRescalesSpec)) decimalRescalesUptoCard

/-- THE SECOND FORM's CARD OF 'micropartlaw5.DecimalRescaleBack'. -/
def decimalRescaleBackUptoCard : Claim7 := { stood := { row := decimalRescaleBackUptoRow, standIns := [], harness := (true, "0a34300bb48f9faff6e6a2851207e6f2aa3825c2218295b897e3472953726755"), looks := true }, kinds := [], alts := [], laidByText := true, laidKinds := [.data, .data, .data], laidTests := true, laidLooks := .later }
def DecimalRescaleBackUptoCardSaid : Prop := Claim7.holds Tryd.pinned (.plain (OpenSpec.upto decimalRescaleBackSpec)) decimalRescaleBackUptoCard

/-- THE SECOND FORM's CARD OF 'micropartlaw32.GarbageExamples'. -/
def garbageExamplesUptoCard : Claim7 := { stood := { row := garbageExamplesUptoRow, standIns := [], harness := (true, "0a34300bb48f9faff6e6a2851207e6f2aa3825c2218295b897e3472953726755"), looks := true }, kinds := [], alts := [], laidByText := true, laidKinds := [.data, .data, .data, .sentinel, .sentinel], laidTests := true, laidLooks := .later }
def GarbageExamplesUptoCardSaid : Prop := Claim7.holds Tryd.pinned (.plain (OpenSpec.upto garbageExamplesSpec)) garbageExamplesUptoCard

/-- THE SECOND FORM's CARD OF 'micropartlaw32.GarbageNames'. -/
def garbageNamesUptoCard : Claim7 := { stood := { row := garbageNamesUptoRow, standIns := [], harness := (true, "0a34300bb48f9faff6e6a2851207e6f2aa3825c2218295b897e3472953726755"), looks := true }, kinds := [], alts := [], laidByText := true, laidKinds := [.data, .data, .data, .sentinel, .sentinel], laidTests := true, laidLooks := .later }
def GarbageNamesUptoCardSaid : Prop := Claim7.holds Tryd.pinned (.plain (OpenSpec.upto garbageNamesSpec)) garbageNamesUptoCard

/-- THE SECOND FORM's CARD OF 'micropartlaw32.GarbageInverse'. -/
def garbageInverseUptoCard : Claim7 := { stood := { row := garbageInverseUptoRow, standIns := [], harness := (true, "0a34300bb48f9faff6e6a2851207e6f2aa3825c2218295b897e3472953726755"), looks := true }, kinds := [], alts := [], laidByText := true, laidKinds := [.data, .data, .data, .sentinel, .sentinel], laidTests := true, laidLooks := .later }
def GarbageInverseUptoCardSaid : Prop := Claim7.holds Tryd.pinned (.plain (OpenSpec.upto garbageInverseSpec)) garbageInverseUptoCard

/-- THE SECOND FORM's CARD OF 'micropartlaw32.GarbageCollects'. -/
def garbageCollectsUptoCard : Claim7 := { stood := { row := garbageCollectsUptoRow, standIns := [], harness := (true, "0a34300bb48f9faff6e6a2851207e6f2aa3825c2218295b897e3472953726755"), looks := true }, kinds := [], alts := [], laidByText := true, laidKinds := [.data, .data, .data, .sentinel, .sentinel], laidTests := true, laidLooks := .later }
def GarbageCollectsUptoCardSaid : Prop := Claim7.holds Tryd.pinned (.plain (OpenSpec.upto garbageCollectsSpec)) garbageCollectsUptoCard

/-- THE SECOND FORM's CARD OF 'micropartlaw32.GarbageNeverUsed'. -/
def garbageNeverUsedUptoCard : Claim7 := { stood := { row := garbageNeverUsedUptoRow, standIns := [], harness := (true, "0a34300bb48f9faff6e6a2851207e6f2aa3825c2218295b897e3472953726755"), looks := true }, kinds := [], alts := [], laidByText := true, laidKinds := [.data, .data, .data, .sentinel, .sentinel], laidTests := true, laidLooks := .later }
def GarbageNeverUsedUptoCardSaid : Prop := Claim7.holds Tryd.pinned (.plain (OpenSpec.upto garbageNeverUsedSpec)) garbageNeverUsedUptoCard

/-- THE SECOND FORM's CARD OF 'micropartlaw6.ValueFormats'. -/
def valueFormatsUptoCard : Claim7 := { stood := { row := valueFormatsUptoRow, standIns := [], harness := (true, "0a34300bb48f9faff6e6a2851207e6f2aa3825c2218295b897e3472953726755"), looks := true }, kinds := [], alts := [], laidByText := true, laidKinds := [.data, .data, .data], laidTests := true, laidLooks := .later }
def ValueFormatsUptoCardSaid : Prop := Claim7.holds Tryd.pinned (.plain (OpenSpec.upto valueFormatsSpec)) valueFormatsUptoCard
end Rows
end Go.Proofs.YtlchfaakmgclcaaDoor
