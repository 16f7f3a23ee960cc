/-
  No cell of these rows narrows 'for every input' (looked for: loops, veiled, ifaces, maps, wideKeys, modest, calm, conditions, laid).
  DERIVED. THE GIVEN ROWS OF THIS SEAT. 5 by the template 'for every input the law returns true; each argument reads behind the call as it read before'; 0 by the template 'total and deterministic' (their statements: YtcjekbncllccbaaTotals.lean).
  GIVEN WITH THE SEED: the statements are not yours to turn. If you find one false, say at which input.
  Laid BY PROGRAM, IN A SANDBOX (cutbox-rows.mjs): the forced cells as the released guide's own fill.sh prints them over the translation d5ad17b38d50bdd4… (all of the seat's roots in one cut). By AI agents, Wed Nov 11 2026. No macro, syntax, notation, axiom, sorry.
-/
import Derived.Test.YtcjekbncllccbaaChecked
import GoSem.Claim
import GoSem.ClaimJoined
import GoSem.ClaimMapViews
import Derived.JoinedTies
import Derived.KernelRfl
namespace Go.Proofs.Ytcjekbncllccbaa
/- THE CELL 'sum', in the pinned program and in every row, IS THE sha256 OF THE DUMP (.gsa) THAT YtcjekbncllccbaaProg.lean LOADS. Nothing in Lean hashes anything: it is a label: what it is worth is what the hold of that sum in a sandbox is worth. -/
noncomputable def Try.pinned : Pinned := { name := "ytcjekbncllccbaa", sum := "d5ad17b38d50bdd49fc27b3e908c5036e545bce8739d101579b574201fb29e06", checked := Try.checked }
namespace Rows
def none {H : Type} : Left H := { results := [], args := [] }

/-- 'micropartlaw28.PickerExamples': WHATEVER THE INPUT: true; the input reads as it did. -/
def pickerExamplesSpec : ChangeSpec := { name := "pickerExamples", fn := fun _ => fun
  | [] => { results := [.lit (.bool true)], args := [] }
  | _ => none }
def pickerExamplesRow : OpenClaim := { program := "ytcjekbncllccbaa", sum := "d5ad17b38d50bdd49fc27b3e908c5036e545bce8739d101579b574201fb29e06", func := "micropart/micropartlaw28.PickerExamples", spec := "pickerExamples", unfollowed := true, recurses := true, apart := false }
def PickerExamplesSaid : Prop := pickerExamplesRow.holds Try.pinned (OpenSpec.ofChange pickerExamplesSpec)

/-- ITS FALSE NEIGHBOUR: 'it returns false'. Refute it at one input. -/
def pickerExamplesWrong : ChangeSpec := { name := "pickerExamples", fn := fun _ => fun
  | [] => { results := [.lit (.bool false)], args := [] }
  | _ => none }
def PickerExamplesWrongFalsely : Prop := pickerExamplesRow.holds Try.pinned (OpenSpec.ofChange pickerExamplesWrong)

/-- 'micropartlaw28.PickerPeakIsCommon': WHATEVER THE INPUT: true; the input reads as it did. -/
def pickerPeakIsCommonSpec : ChangeSpec := { name := "pickerPeakIsCommon", fn := fun _ => fun
  | [d1, d2, d3] => { results := [.lit (.bool true)], args := [d1, d2, d3] }
  | _ => none }
def pickerPeakIsCommonRow : OpenClaim := { program := "ytcjekbncllccbaa", sum := "d5ad17b38d50bdd49fc27b3e908c5036e545bce8739d101579b574201fb29e06", func := "micropart/micropartlaw28.PickerPeakIsCommon", spec := "pickerPeakIsCommon", unfollowed := true, recurses := true, apart := false }
def PickerPeakIsCommonSaid : Prop := pickerPeakIsCommonRow.holds Try.pinned (OpenSpec.ofChange pickerPeakIsCommonSpec)

/-- ITS FALSE NEIGHBOUR: 'it returns false'. Refute it at one input. -/
def pickerPeakIsCommonWrong : ChangeSpec := { name := "pickerPeakIsCommon", fn := fun _ => fun
  | [d1, d2, d3] => { results := [.lit (.bool false)], args := [d1, d2, d3] }
  | _ => none }
def PickerPeakIsCommonWrongFalsely : Prop := pickerPeakIsCommonRow.holds Try.pinned (OpenSpec.ofChange pickerPeakIsCommonWrong)

/-- 'micropartlaw28.PickerPairFits': WHATEVER THE INPUT: true; the input reads as it did. -/
def pickerPairFitsSpec : ChangeSpec := { name := "pickerPairFits", fn := fun _ => fun
  | [d1, d2] => { results := [.lit (.bool true)], args := [d1, d2] }
  | _ => none }
def pickerPairFitsRow : OpenClaim := { program := "ytcjekbncllccbaa", sum := "d5ad17b38d50bdd49fc27b3e908c5036e545bce8739d101579b574201fb29e06", func := "micropart/micropartlaw28.PickerPairFits", spec := "pickerPairFits", unfollowed := true, recurses := true, apart := false }
def PickerPairFitsSaid : Prop := pickerPairFitsRow.holds Try.pinned (OpenSpec.ofChange pickerPairFitsSpec)

/-- ITS FALSE NEIGHBOUR: 'it returns false'. Refute it at one input. -/
def pickerPairFitsWrong : ChangeSpec := { name := "pickerPairFits", fn := fun _ => fun
  | [d1, d2] => { results := [.lit (.bool false)], args := [d1, d2] }
  | _ => none }
def PickerPairFitsWrongFalsely : Prop := pickerPairFitsRow.holds Try.pinned (OpenSpec.ofChange pickerPairFitsWrong)

/-- 'micropartlaw28.PickerRaisesNothing': WHATEVER THE INPUT: true; the input reads as it did. -/
def pickerRaisesNothingSpec : ChangeSpec := { name := "pickerRaisesNothing", fn := fun _ => fun
  | [d1, d2, d3, d4, d5] => { results := [.lit (.bool true)], args := [d1, d2, d3, d4, d5] }
  | _ => none }
def pickerRaisesNothingRow : OpenClaim := { program := "ytcjekbncllccbaa", sum := "d5ad17b38d50bdd49fc27b3e908c5036e545bce8739d101579b574201fb29e06", func := "micropart/micropartlaw28.PickerRaisesNothing", spec := "pickerRaisesNothing", unfollowed := true, recurses := true, apart := false }
def PickerRaisesNothingSaid : Prop := pickerRaisesNothingRow.holds Try.pinned (OpenSpec.ofChange pickerRaisesNothingSpec)

/-- ITS FALSE NEIGHBOUR: 'it returns false'. Refute it at one input. -/
def pickerRaisesNothingWrong : ChangeSpec := { name := "pickerRaisesNothing", fn := fun _ => fun
  | [d1, d2, d3, d4, d5] => { results := [.lit (.bool false)], args := [d1, d2, d3, d4, d5] }
  | _ => none }
def PickerRaisesNothingWrongFalsely : Prop := pickerRaisesNothingRow.holds Try.pinned (OpenSpec.ofChange pickerRaisesNothingWrong)

/-- 'micropartlaw28.PickerQuiet': WHATEVER THE INPUT: true; the input reads as it did. -/
def pickerQuietSpec : ChangeSpec := { name := "pickerQuiet", fn := fun _ => fun
  | [d1, d2, d3, d4] => { results := [.lit (.bool true)], args := [d1, d2, d3, d4] }
  | _ => none }
def pickerQuietRow : OpenClaim := { program := "ytcjekbncllccbaa", sum := "d5ad17b38d50bdd49fc27b3e908c5036e545bce8739d101579b574201fb29e06", func := "micropart/micropartlaw28.PickerQuiet", spec := "pickerQuiet", unfollowed := true, recurses := true, apart := false }
def PickerQuietSaid : Prop := pickerQuietRow.holds Try.pinned (OpenSpec.ofChange pickerQuietSpec)

/-- ITS FALSE NEIGHBOUR: 'it returns false'. Refute it at one input. -/
def pickerQuietWrong : ChangeSpec := { name := "pickerQuiet", fn := fun _ => fun
  | [d1, d2, d3, d4] => { results := [.lit (.bool false)], args := [d1, d2, d3, d4] }
  | _ => none }
def PickerQuietWrongFalsely : Prop := pickerQuietRow.holds Try.pinned (OpenSpec.ofChange pickerQuietWrong)

/- THE SECOND FORM. 'bulk': how many values and letters a reading holds, each counted each time it is reached (what is shared counts as often as it is met; a slice's spare places count too). A statement '..UptoSaid' is the law's where the arguments, and the package variables that the reading takes, are together of bulk at most 1048576: NARROWER than '..Said'. Prove '..Said' where nothing that the law and all that it calls make is longer than what came in: it says more and counts as full. Else prove '..UptoSaid'. A law counts once. -/
mutual
def uptoBulk {H : Type} : DataW H → Nat
  | .lit (.string bytes) => bytes.length + 1
  | .lit _ => 1
  | .nil => 1
  | .ptr d => uptoBulk d + 1
  | .slice elems spare => uptoBulkAll elems + uptoBulkAll spare + 1
  | .agg parts => uptoBulkAll parts + 1
  | .iface _ d => uptoBulk d + 1
  | .map entries => uptoBulkEntries entries + 1
  | .held _ => 1
def uptoBulkAll {H : Type} : List (DataW H) → Nat
  | [] => 0
  | d :: r => uptoBulk d + uptoBulkAll r
def uptoBulkEntries {H : Type} : List (Lit × DataW H) → Nat
  | [] => 0
  | x :: r => uptoBulkEntry x + uptoBulkEntries r
def uptoBulkEntry {H : Type} : Lit × DataW H → Nat
  | (.string bytes, d) => bytes.length + uptoBulk d + 1
  | (_, d) => uptoBulk d + 1
 end
def uptoSmall : (H : Type) → List (DataW H) → Bool := fun _ ds => decide (uptoBulkAll ds ≤ 1048576)
def OpenSpec.upto (s : _root_.Go.ChangeSpec) : _root_.Go.OpenSpec := { _root_.Go.OpenSpec.ofChange s with cond := some uptoSmall }

/-- 'micropartlaw28.PickerExamples', WHERE WHAT IT READS IS OF BULK AT MOST 1048576: true; the input reads as it did. -/
def pickerExamplesUptoRow : OpenClaim := { program := "ytcjekbncllccbaa", sum := "d5ad17b38d50bdd49fc27b3e908c5036e545bce8739d101579b574201fb29e06", func := "micropart/micropartlaw28.PickerExamples", spec := "pickerExamples", unfollowed := true, recurses := true, apart := false, narrowed := true }
def PickerExamplesUptoSaid : Prop := pickerExamplesUptoRow.holds Try.pinned (OpenSpec.upto pickerExamplesSpec)

/-- 'micropartlaw28.PickerPeakIsCommon', WHERE WHAT IT READS IS OF BULK AT MOST 1048576: true; the input reads as it did. -/
def pickerPeakIsCommonUptoRow : OpenClaim := { program := "ytcjekbncllccbaa", sum := "d5ad17b38d50bdd49fc27b3e908c5036e545bce8739d101579b574201fb29e06", func := "micropart/micropartlaw28.PickerPeakIsCommon", spec := "pickerPeakIsCommon", unfollowed := true, recurses := true, apart := false, narrowed := true }
def PickerPeakIsCommonUptoSaid : Prop := pickerPeakIsCommonUptoRow.holds Try.pinned (OpenSpec.upto pickerPeakIsCommonSpec)

/-- 'micropartlaw28.PickerPairFits', WHERE WHAT IT READS IS OF BULK AT MOST 1048576: true; the input reads as it did. -/
def pickerPairFitsUptoRow : OpenClaim := { program := "ytcjekbncllccbaa", sum := "d5ad17b38d50bdd49fc27b3e908c5036e545bce8739d101579b574201fb29e06", func := "micropart/micropartlaw28.PickerPairFits", spec := "pickerPairFits", unfollowed := true, recurses := true, apart := false, narrowed := true }
def PickerPairFitsUptoSaid : Prop := pickerPairFitsUptoRow.holds Try.pinned (OpenSpec.upto pickerPairFitsSpec)

/-- 'micropartlaw28.PickerRaisesNothing', WHERE WHAT IT READS IS OF BULK AT MOST 1048576: true; the input reads as it did. -/
def pickerRaisesNothingUptoRow : OpenClaim := { program := "ytcjekbncllccbaa", sum := "d5ad17b38d50bdd49fc27b3e908c5036e545bce8739d101579b574201fb29e06", func := "micropart/micropartlaw28.PickerRaisesNothing", spec := "pickerRaisesNothing", unfollowed := true, recurses := true, apart := false, narrowed := true }
def PickerRaisesNothingUptoSaid : Prop := pickerRaisesNothingUptoRow.holds Try.pinned (OpenSpec.upto pickerRaisesNothingSpec)

/-- 'micropartlaw28.PickerQuiet', WHERE WHAT IT READS IS OF BULK AT MOST 1048576: true; the input reads as it did. -/
def pickerQuietUptoRow : OpenClaim := { program := "ytcjekbncllccbaa", sum := "d5ad17b38d50bdd49fc27b3e908c5036e545bce8739d101579b574201fb29e06", func := "micropart/micropartlaw28.PickerQuiet", spec := "pickerQuiet", unfollowed := true, recurses := true, apart := false, narrowed := true }
def PickerQuietUptoSaid : Prop := pickerQuietUptoRow.holds Try.pinned (OpenSpec.upto pickerQuietSpec)

end Rows
end Go.Proofs.Ytcjekbncllccbaa
