/-
  DERIVED. GIVEN WITH THE SEED: THE CARDS: each row of YtjnamjkdjcndiaaDoorRows.lean that lists a variable, with what it lists TIED to the program's text (the seventh form; the later family's looks); each row that meets fmt, with fmt's text TOLD by the authors' own Lean function (tested against real Go, not proved from fmt's source: count such statements apart). THE CARD IS WHAT COUNTS. Prove the row's statement (the work); the ties are given (YtjnamjkdjcndiaaDoorTie.lean); close each card by the builder's one call (the guide's Derived/Test/ToyasCard.lean, 'card_holds'). Laid BY PROGRAM, IN A SANDBOX (cutbox-door.mjs). By AI agents, Wed Nov 11 2026. No macro, syntax, notation, axiom, sorry.
-/
import Derived.Test.YtjnamjkdjcndiaaDoorRows
import GoSem.ClaimSeven
namespace Go.Proofs.YtjnamjkdjcndiaaDoor
namespace Rows

/-- THE TIED CARD OF 'micropartlaw22.PredtextFormats'. -/
def predtextFormatsCard : Claim7 := { stood := { row := predtextFormatsRow, standIns := [], harness := (true, "9bb6e62a7a16201c0d11231dd9cc7a22af83c7b85e0a26f2bd4287d9578eed82"), looks := false }, kinds := [], alts := [], laidByText := true, laidKinds := [.data, .data, .data], laidTests := true, laidLooks := .later }
def PredtextFormatsCardSaid : Prop := Claim7.holds Tryd.pinned (.plain (OpenSpec.ofChange predtextFormatsSpec)) predtextFormatsCard

/-- THE TIED CARD OF 'micropartlaw22.PredtextLong'. -/
def predtextLongCard : Claim7 := { stood := { row := predtextLongRow, standIns := [], harness := (true, "9bb6e62a7a16201c0d11231dd9cc7a22af83c7b85e0a26f2bd4287d9578eed82"), looks := false }, kinds := [], alts := [], laidByText := true, laidKinds := [.data, .data, .data], laidTests := true, laidLooks := .later }
def PredtextLongCardSaid : Prop := Claim7.holds Tryd.pinned (.plain (OpenSpec.ofChange predtextLongSpec)) predtextLongCard

/-- THE SECOND FORM's CARD OF 'micropartlaw22.PredtextFormats'. -/
def predtextFormatsUptoCard : Claim7 := { stood := { row := predtextFormatsUptoRow, standIns := [], harness := (true, "9bb6e62a7a16201c0d11231dd9cc7a22af83c7b85e0a26f2bd4287d9578eed82"), looks := false }, kinds := [], alts := [], laidByText := true, laidKinds := [.data, .data, .data], laidTests := true, laidLooks := .later }
def PredtextFormatsUptoCardSaid : Prop := Claim7.holds Tryd.pinned (.plain (OpenSpec.upto predtextFormatsSpec)) predtextFormatsUptoCard

/-- THE SECOND FORM's CARD OF 'micropartlaw22.PredtextLong'. -/
def predtextLongUptoCard : Claim7 := { stood := { row := predtextLongUptoRow, standIns := [], harness := (true, "9bb6e62a7a16201c0d11231dd9cc7a22af83c7b85e0a26f2bd4287d9578eed82"), looks := false }, kinds := [], alts := [], laidByText := true, laidKinds := [.data, .data, .data], laidTests := true, laidLooks := .later }
def PredtextLongUptoCardSaid : Prop := Claim7.holds Tryd.pinned (.plain (OpenSpec.upto predtextLongSpec)) predtextLongUptoCard
end Rows
end Go.Proofs.YtjnamjkdjcndiaaDoor
