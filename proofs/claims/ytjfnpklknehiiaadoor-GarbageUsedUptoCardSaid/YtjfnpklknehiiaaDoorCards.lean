/-
  DERIVED. GIVEN WITH THE SEED: THE CARDS: each row of YtjfnpklknehiiaaDoorRows.lean that lists a variable, with what it lists TIED to the program's text (the seventh form; the later family's looks); each row that meets fmt, with fmt's text TOLD by the authors' own Lean function (tested against real Go, not proved from fmt's source: count such statements apart). THE CARD IS WHAT COUNTS. Prove the row's statement (the work); the ties are given (YtjfnpklknehiiaaDoorTie.lean); close each card by the builder's one call (the guide's Derived/Test/ToyasCard.lean, 'card_holds'). Laid BY PROGRAM, IN A SANDBOX (cutbox-door.mjs). By AI agents, Wed Nov 11 2026. No macro, syntax, notation, axiom, sorry.
-/
import Derived.Test.YtjfnpklknehiiaaDoorRows
import GoSem.ClaimSeven
namespace Go.Proofs.YtjfnpklknehiiaaDoor
namespace Rows

/-- THE TIED CARD OF 'micropartlaw32.GarbageUsed'. -/
def garbageUsedCard : Claim7 := { stood := { row := garbageUsedRow, standIns := [], harness := (true, "ad95b67a46daa6e3cc9f022ea41ee19fad00d6304321c8fec8e9ef3671ead109"), looks := true }, kinds := [], alts := [], laidByText := true, laidKinds := [.data, .data, .data, .sentinel, .sentinel], laidTests := true, laidLooks := .later }
def GarbageUsedCardSaid : Prop := Claim7.holds Tryd.pinned (.plain (OpenSpec.ofChange garbageUsedSpec)) garbageUsedCard

/-- THE TIED CARD OF 'micropartlaw32.GarbageKeepsAll'. -/
def garbageKeepsAllCard : Claim7 := { stood := { row := garbageKeepsAllRow, standIns := [], harness := (true, "ad95b67a46daa6e3cc9f022ea41ee19fad00d6304321c8fec8e9ef3671ead109"), looks := true }, kinds := [], alts := [], laidByText := true, laidKinds := [.data, .data, .data, .sentinel, .sentinel], laidTests := true, laidLooks := .later }
def GarbageKeepsAllCardSaid : Prop := Claim7.holds Tryd.pinned (.plain (OpenSpec.ofChange garbageKeepsAllSpec)) garbageKeepsAllCard

/-- THE SECOND FORM's CARD OF 'micropartlaw32.GarbageUsed'. -/
def garbageUsedUptoCard : Claim7 := { stood := { row := garbageUsedUptoRow, standIns := [], harness := (true, "ad95b67a46daa6e3cc9f022ea41ee19fad00d6304321c8fec8e9ef3671ead109"), looks := true }, kinds := [], alts := [], laidByText := true, laidKinds := [.data, .data, .data, .sentinel, .sentinel], laidTests := true, laidLooks := .later }
def GarbageUsedUptoCardSaid : Prop := Claim7.holds Tryd.pinned (.plain (OpenSpec.upto garbageUsedSpec)) garbageUsedUptoCard

/-- THE SECOND FORM's CARD OF 'micropartlaw32.GarbageKeepsAll'. -/
def garbageKeepsAllUptoCard : Claim7 := { stood := { row := garbageKeepsAllUptoRow, standIns := [], harness := (true, "ad95b67a46daa6e3cc9f022ea41ee19fad00d6304321c8fec8e9ef3671ead109"), looks := true }, kinds := [], alts := [], laidByText := true, laidKinds := [.data, .data, .data, .sentinel, .sentinel], laidTests := true, laidLooks := .later }
def GarbageKeepsAllUptoCardSaid : Prop := Claim7.holds Tryd.pinned (.plain (OpenSpec.upto garbageKeepsAllSpec)) garbageKeepsAllUptoCard
end Rows
end Go.Proofs.YtjfnpklknehiiaaDoor
