/-
  No cell of these rows narrows 'for every input' (looked for: loops, veiled, ifaces, maps, wideKeys, modest, calm, conditions, laid).
  DERIVED. THE GIVEN ROWS OF THIS SEAT. 9 by the template 'for every input the law returns true; each argument reads behind the call as it read before'; 0 by the template 'total and deterministic' (their statements: YtoikgjhekemjdaaTotals.lean).
  GIVEN WITH THE SEED: the statements are not yours to turn. If you find one false, say at which input.
  Laid BY PROGRAM, IN A SANDBOX (cutbox-rows.mjs): the forced cells as the released guide's own fill.sh prints them over the translation c16e3b341f54058f… (all of the seat's roots in one cut). By AI agents, Wed Nov 11 2026. No macro, syntax, notation, axiom, sorry.
-/
import Derived.Test.YtoikgjhekemjdaaChecked
import GoSem.Claim
import GoSem.ClaimJoined
import GoSem.ClaimMapViews
import Derived.JoinedTies
import Derived.KernelRfl
namespace Go.Proofs.Ytoikgjhekemjdaa
/- THE CELL 'sum', in the pinned program and in every row, IS THE sha256 OF THE DUMP (.gsa) THAT YtoikgjhekemjdaaProg.lean LOADS. Nothing in Lean hashes anything: it is a label: what it is worth is what the hold of that sum in a sandbox is worth. -/
noncomputable def Try.pinned : Pinned := { name := "ytoikgjhekemjdaa", sum := "c16e3b341f54058fb963ccd0dc1248c83d796ac27a08f6c4418eafddd9e658e2", checked := Try.checked }
namespace Rows
def none {H : Type} : Left H := { results := [], args := [] }

/-- 'micropartlaw20.SnapshotExamples': WHATEVER THE INPUT: true; the input reads as it did. -/
def snapshotExamplesSpec : ChangeSpec := { name := "snapshotExamples", fn := fun _ => fun
  | [] => { results := [.lit (.bool true)], args := [] }
  | _ => none }
def snapshotExamplesRow : OpenClaim := { program := "ytoikgjhekemjdaa", sum := "c16e3b341f54058fb963ccd0dc1248c83d796ac27a08f6c4418eafddd9e658e2", func := "micropart/micropartlaw20.SnapshotExamples", spec := "snapshotExamples", unfollowed := true, recurses := true, apart := false }
def SnapshotExamplesSaid : Prop := snapshotExamplesRow.holds Try.pinned (OpenSpec.ofChange snapshotExamplesSpec)

/-- ITS FALSE NEIGHBOUR: 'it returns false'. Refute it at one input. -/
def snapshotExamplesWrong : ChangeSpec := { name := "snapshotExamples", fn := fun _ => fun
  | [] => { results := [.lit (.bool false)], args := [] }
  | _ => none }
def SnapshotExamplesWrongFalsely : Prop := snapshotExamplesRow.holds Try.pinned (OpenSpec.ofChange snapshotExamplesWrong)

/-- 'micropartlaw20.SnapshotApplies': WHATEVER THE INPUT: true; the input reads as it did. -/
def snapshotAppliesSpec : ChangeSpec := { name := "snapshotApplies", fn := fun _ => fun
  | [d1, d2, d3, d4] => { results := [.lit (.bool true)], args := [d1, d2, d3, d4] }
  | _ => none }
def snapshotAppliesRow : OpenClaim := { program := "ytoikgjhekemjdaa", sum := "c16e3b341f54058fb963ccd0dc1248c83d796ac27a08f6c4418eafddd9e658e2", func := "micropart/micropartlaw20.SnapshotApplies", spec := "snapshotApplies", unfollowed := true, recurses := true, apart := false }
def SnapshotAppliesSaid : Prop := snapshotAppliesRow.holds Try.pinned (OpenSpec.ofChange snapshotAppliesSpec)

/-- ITS FALSE NEIGHBOUR: 'it returns false'. Refute it at one input. -/
def snapshotAppliesWrong : ChangeSpec := { name := "snapshotApplies", fn := fun _ => fun
  | [d1, d2, d3, d4] => { results := [.lit (.bool false)], args := [d1, d2, d3, d4] }
  | _ => none }
def SnapshotAppliesWrongFalsely : Prop := snapshotAppliesRow.holds Try.pinned (OpenSpec.ofChange snapshotAppliesWrong)

/-- 'micropartlaw20.SnapshotApplyIsReplacement': WHATEVER THE INPUT: true; the input reads as it did. -/
def snapshotApplyIsReplacementSpec : ChangeSpec := { name := "snapshotApplyIsReplacement", fn := fun _ => fun
  | [d1, d2] => { results := [.lit (.bool true)], args := [d1, d2] }
  | _ => none }
def snapshotApplyIsReplacementRow : OpenClaim := { program := "ytoikgjhekemjdaa", sum := "c16e3b341f54058fb963ccd0dc1248c83d796ac27a08f6c4418eafddd9e658e2", func := "micropart/micropartlaw20.SnapshotApplyIsReplacement", spec := "snapshotApplyIsReplacement", unfollowed := true, recurses := true, apart := false }
def SnapshotApplyIsReplacementSaid : Prop := snapshotApplyIsReplacementRow.holds Try.pinned (OpenSpec.ofChange snapshotApplyIsReplacementSpec)

/-- ITS FALSE NEIGHBOUR: 'it returns false'. Refute it at one input. -/
def snapshotApplyIsReplacementWrong : ChangeSpec := { name := "snapshotApplyIsReplacement", fn := fun _ => fun
  | [d1, d2] => { results := [.lit (.bool false)], args := [d1, d2] }
  | _ => none }
def SnapshotApplyIsReplacementWrongFalsely : Prop := snapshotApplyIsReplacementRow.holds Try.pinned (OpenSpec.ofChange snapshotApplyIsReplacementWrong)

/-- 'micropartlaw20.SnapshotHistoryErrors': WHATEVER THE INPUT: true; the input reads as it did. -/
def snapshotHistoryErrorsSpec : ChangeSpec := { name := "snapshotHistoryErrors", fn := fun _ => fun
  | [d1, d2, d3, d4] => { results := [.lit (.bool true)], args := [d1, d2, d3, d4] }
  | _ => none }
def snapshotHistoryErrorsRow : OpenClaim := { program := "ytoikgjhekemjdaa", sum := "c16e3b341f54058fb963ccd0dc1248c83d796ac27a08f6c4418eafddd9e658e2", func := "micropart/micropartlaw20.SnapshotHistoryErrors", spec := "snapshotHistoryErrors", unfollowed := true, recurses := true, apart := false }
def SnapshotHistoryErrorsSaid : Prop := snapshotHistoryErrorsRow.holds Try.pinned (OpenSpec.ofChange snapshotHistoryErrorsSpec)

/-- ITS FALSE NEIGHBOUR: 'it returns false'. Refute it at one input. -/
def snapshotHistoryErrorsWrong : ChangeSpec := { name := "snapshotHistoryErrors", fn := fun _ => fun
  | [d1, d2, d3, d4] => { results := [.lit (.bool false)], args := [d1, d2, d3, d4] }
  | _ => none }
def SnapshotHistoryErrorsWrongFalsely : Prop := snapshotHistoryErrorsRow.holds Try.pinned (OpenSpec.ofChange snapshotHistoryErrorsWrong)

/-- 'micropartlaw20.SnapshotHistories': WHATEVER THE INPUT: true; the input reads as it did. -/
def snapshotHistoriesSpec : ChangeSpec := { name := "snapshotHistories", fn := fun _ => fun
  | [d1, d2, d3, d4, d5] => { results := [.lit (.bool true)], args := [d1, d2, d3, d4, d5] }
  | _ => none }
def snapshotHistoriesRow : OpenClaim := { program := "ytoikgjhekemjdaa", sum := "c16e3b341f54058fb963ccd0dc1248c83d796ac27a08f6c4418eafddd9e658e2", func := "micropart/micropartlaw20.SnapshotHistories", spec := "snapshotHistories", unfollowed := true, recurses := true, apart := false }
def SnapshotHistoriesSaid : Prop := snapshotHistoriesRow.holds Try.pinned (OpenSpec.ofChange snapshotHistoriesSpec)

/-- ITS FALSE NEIGHBOUR: 'it returns false'. Refute it at one input. -/
def snapshotHistoriesWrong : ChangeSpec := { name := "snapshotHistories", fn := fun _ => fun
  | [d1, d2, d3, d4, d5] => { results := [.lit (.bool false)], args := [d1, d2, d3, d4, d5] }
  | _ => none }
def SnapshotHistoriesWrongFalsely : Prop := snapshotHistoriesRow.holds Try.pinned (OpenSpec.ofChange snapshotHistoriesWrong)

/-- 'micropartlaw20.SnapshotRoundTrip': WHATEVER THE INPUT: true; the input reads as it did. -/
def snapshotRoundTripSpec : ChangeSpec := { name := "snapshotRoundTrip", fn := fun _ => fun
  | [d] => { results := [.lit (.bool true)], args := [d] }
  | _ => none }
def snapshotRoundTripRow : OpenClaim := { program := "ytoikgjhekemjdaa", sum := "c16e3b341f54058fb963ccd0dc1248c83d796ac27a08f6c4418eafddd9e658e2", func := "micropart/micropartlaw20.SnapshotRoundTrip", spec := "snapshotRoundTrip", unfollowed := true, recurses := true, apart := false }
def SnapshotRoundTripSaid : Prop := snapshotRoundTripRow.holds Try.pinned (OpenSpec.ofChange snapshotRoundTripSpec)

/-- ITS FALSE NEIGHBOUR: 'it returns false'. Refute it at one input. -/
def snapshotRoundTripWrong : ChangeSpec := { name := "snapshotRoundTrip", fn := fun _ => fun
  | [d] => { results := [.lit (.bool false)], args := [d] }
  | _ => none }
def SnapshotRoundTripWrongFalsely : Prop := snapshotRoundTripRow.holds Try.pinned (OpenSpec.ofChange snapshotRoundTripWrong)

/-- 'micropartlaw20.SnapshotWindows': WHATEVER THE INPUT: true; the input reads as it did. -/
def snapshotWindowsSpec : ChangeSpec := { name := "snapshotWindows", fn := fun _ => fun
  | [d1, d2] => { results := [.lit (.bool true)], args := [d1, d2] }
  | _ => none }
def snapshotWindowsRow : OpenClaim := { program := "ytoikgjhekemjdaa", sum := "c16e3b341f54058fb963ccd0dc1248c83d796ac27a08f6c4418eafddd9e658e2", func := "micropart/micropartlaw20.SnapshotWindows", spec := "snapshotWindows", unfollowed := true, recurses := true, apart := false }
def SnapshotWindowsSaid : Prop := snapshotWindowsRow.holds Try.pinned (OpenSpec.ofChange snapshotWindowsSpec)

/-- ITS FALSE NEIGHBOUR: 'it returns false'. Refute it at one input. -/
def snapshotWindowsWrong : ChangeSpec := { name := "snapshotWindows", fn := fun _ => fun
  | [d1, d2] => { results := [.lit (.bool false)], args := [d1, d2] }
  | _ => none }
def SnapshotWindowsWrongFalsely : Prop := snapshotWindowsRow.holds Try.pinned (OpenSpec.ofChange snapshotWindowsWrong)

/-- 'micropartlaw31.JobConflicts': WHATEVER THE INPUT: true; the input reads as it did. -/
def jobConflictsSpec : ChangeSpec := { name := "jobConflicts", fn := fun _ => fun
  | [d1, d2, d3] => { results := [.lit (.bool true)], args := [d1, d2, d3] }
  | _ => none }
def jobConflictsRow : OpenClaim := { program := "ytoikgjhekemjdaa", sum := "c16e3b341f54058fb963ccd0dc1248c83d796ac27a08f6c4418eafddd9e658e2", func := "micropart/micropartlaw31.JobConflicts", spec := "jobConflicts", unfollowed := true, recurses := true, apart := false }
def JobConflictsSaid : Prop := jobConflictsRow.holds Try.pinned (OpenSpec.ofChange jobConflictsSpec)

/-- ITS FALSE NEIGHBOUR: 'it returns false'. Refute it at one input. -/
def jobConflictsWrong : ChangeSpec := { name := "jobConflicts", fn := fun _ => fun
  | [d1, d2, d3] => { results := [.lit (.bool false)], args := [d1, d2, d3] }
  | _ => none }
def JobConflictsWrongFalsely : Prop := jobConflictsRow.holds Try.pinned (OpenSpec.ofChange jobConflictsWrong)

/-- 'micropartlaw31.JobReplaces': WHATEVER THE INPUT: true; the input reads as it did. -/
def jobReplacesSpec : ChangeSpec := { name := "jobReplaces", fn := fun _ => fun
  | [d1, d2, d3] => { results := [.lit (.bool true)], args := [d1, d2, d3] }
  | _ => none }
def jobReplacesRow : OpenClaim := { program := "ytoikgjhekemjdaa", sum := "c16e3b341f54058fb963ccd0dc1248c83d796ac27a08f6c4418eafddd9e658e2", func := "micropart/micropartlaw31.JobReplaces", spec := "jobReplaces", unfollowed := true, recurses := true, apart := false }
def JobReplacesSaid : Prop := jobReplacesRow.holds Try.pinned (OpenSpec.ofChange jobReplacesSpec)

/-- ITS FALSE NEIGHBOUR: 'it returns false'. Refute it at one input. -/
def jobReplacesWrong : ChangeSpec := { name := "jobReplaces", fn := fun _ => fun
  | [d1, d2, d3] => { results := [.lit (.bool false)], args := [d1, d2, d3] }
  | _ => none }
def JobReplacesWrongFalsely : Prop := jobReplacesRow.holds Try.pinned (OpenSpec.ofChange jobReplacesWrong)

/- THE SECOND FORM. 'bulk': how many values and letters a reading holds, each counted each time it is reached (what is shared counts as often as it is met; a slice's spare places count too). A statement '..UptoSaid' is the law's where the arguments, and the package variables that the reading takes, are together of bulk at most 1048576: NARROWER than '..Said'. Prove '..Said' where nothing that the law and all that it calls make is longer than what came in: it says more and counts as full. Else prove '..UptoSaid'. A law counts once. -/
mutual
def uptoBulk {H : Type} : DataW H → Nat
  | .lit (.string bytes) => bytes.length + 1
  | .lit _ => 1
  | .nil => 1
  | .ptr d => uptoBulk d + 1
  | .slice elems spare => uptoBulkAll elems + uptoBulkAll spare + 1
  | .agg parts => uptoBulkAll parts + 1
  | .iface _ d => uptoBulk d + 1
  | .map entries => uptoBulkEntries entries + 1
  | .held _ => 1
def uptoBulkAll {H : Type} : List (DataW H) → Nat
  | [] => 0
  | d :: r => uptoBulk d + uptoBulkAll r
def uptoBulkEntries {H : Type} : List (Lit × DataW H) → Nat
  | [] => 0
  | x :: r => uptoBulkEntry x + uptoBulkEntries r
def uptoBulkEntry {H : Type} : Lit × DataW H → Nat
  | (.string bytes, d) => bytes.length + uptoBulk d + 1
  | (_, d) => uptoBulk d + 1
 end
def uptoSmall : (H : Type) → List (DataW H) → Bool := fun _ ds => decide (uptoBulkAll ds ≤ 1048576)
def OpenSpec.upto (s : _root_.Go.ChangeSpec) : _root_.Go.OpenSpec := { _root_.Go.OpenSpec.ofChange s with cond := some uptoSmall }

/-- 'micropartlaw20.SnapshotExamples', WHERE WHAT IT READS IS OF BULK AT MOST 1048576: true; the input reads as it did. -/
def snapshotExamplesUptoRow : OpenClaim := { program := "ytoikgjhekemjdaa", sum := "c16e3b341f54058fb963ccd0dc1248c83d796ac27a08f6c4418eafddd9e658e2", func := "micropart/micropartlaw20.SnapshotExamples", spec := "snapshotExamples", unfollowed := true, recurses := true, apart := false, narrowed := true }
def SnapshotExamplesUptoSaid : Prop := snapshotExamplesUptoRow.holds Try.pinned (OpenSpec.upto snapshotExamplesSpec)

/-- 'micropartlaw20.SnapshotApplies', WHERE WHAT IT READS IS OF BULK AT MOST 1048576: true; the input reads as it did. -/
def snapshotAppliesUptoRow : OpenClaim := { program := "ytoikgjhekemjdaa", sum := "c16e3b341f54058fb963ccd0dc1248c83d796ac27a08f6c4418eafddd9e658e2", func := "micropart/micropartlaw20.SnapshotApplies", spec := "snapshotApplies", unfollowed := true, recurses := true, apart := false, narrowed := true }
def SnapshotAppliesUptoSaid : Prop := snapshotAppliesUptoRow.holds Try.pinned (OpenSpec.upto snapshotAppliesSpec)

/-- 'micropartlaw20.SnapshotApplyIsReplacement', WHERE WHAT IT READS IS OF BULK AT MOST 1048576: true; the input reads as it did. -/
def snapshotApplyIsReplacementUptoRow : OpenClaim := { program := "ytoikgjhekemjdaa", sum := "c16e3b341f54058fb963ccd0dc1248c83d796ac27a08f6c4418eafddd9e658e2", func := "micropart/micropartlaw20.SnapshotApplyIsReplacement", spec := "snapshotApplyIsReplacement", unfollowed := true, recurses := true, apart := false, narrowed := true }
def SnapshotApplyIsReplacementUptoSaid : Prop := snapshotApplyIsReplacementUptoRow.holds Try.pinned (OpenSpec.upto snapshotApplyIsReplacementSpec)

/-- 'micropartlaw20.SnapshotHistoryErrors', WHERE WHAT IT READS IS OF BULK AT MOST 1048576: true; the input reads as it did. -/
def snapshotHistoryErrorsUptoRow : OpenClaim := { program := "ytoikgjhekemjdaa", sum := "c16e3b341f54058fb963ccd0dc1248c83d796ac27a08f6c4418eafddd9e658e2", func := "micropart/micropartlaw20.SnapshotHistoryErrors", spec := "snapshotHistoryErrors", unfollowed := true, recurses := true, apart := false, narrowed := true }
def SnapshotHistoryErrorsUptoSaid : Prop := snapshotHistoryErrorsUptoRow.holds Try.pinned (OpenSpec.upto snapshotHistoryErrorsSpec)

/-- 'micropartlaw20.SnapshotHistories', WHERE WHAT IT READS IS OF BULK AT MOST 1048576: true; the input reads as it did. -/
def snapshotHistoriesUptoRow : OpenClaim := { program := "ytoikgjhekemjdaa", sum := "c16e3b341f54058fb963ccd0dc1248c83d796ac27a08f6c4418eafddd9e658e2", func := "micropart/micropartlaw20.SnapshotHistories", spec := "snapshotHistories", unfollowed := true, recurses := true, apart := false, narrowed := true }
def SnapshotHistoriesUptoSaid : Prop := snapshotHistoriesUptoRow.holds Try.pinned (OpenSpec.upto snapshotHistoriesSpec)

/-- 'micropartlaw20.SnapshotRoundTrip', WHERE WHAT IT READS IS OF BULK AT MOST 1048576: true; the input reads as it did. -/
def snapshotRoundTripUptoRow : OpenClaim := { program := "ytoikgjhekemjdaa", sum := "c16e3b341f54058fb963ccd0dc1248c83d796ac27a08f6c4418eafddd9e658e2", func := "micropart/micropartlaw20.SnapshotRoundTrip", spec := "snapshotRoundTrip", unfollowed := true, recurses := true, apart := false, narrowed := true }
def SnapshotRoundTripUptoSaid : Prop := snapshotRoundTripUptoRow.holds Try.pinned (OpenSpec.upto snapshotRoundTripSpec)

/-- 'micropartlaw20.SnapshotWindows', WHERE WHAT IT READS IS OF BULK AT MOST 1048576: true; the input reads as it did. -/
def snapshotWindowsUptoRow : OpenClaim := { program := "ytoikgjhekemjdaa", sum := "c16e3b341f54058fb963ccd0dc1248c83d796ac27a08f6c4418eafddd9e658e2", func := "micropart/micropartlaw20.SnapshotWindows", spec := "snapshotWindows", unfollowed := true, recurses := true, apart := false, narrowed := true }
def SnapshotWindowsUptoSaid : Prop := snapshotWindowsUptoRow.holds Try.pinned (OpenSpec.upto snapshotWindowsSpec)

/-- 'micropartlaw31.JobConflicts', WHERE WHAT IT READS IS OF BULK AT MOST 1048576: true; the input reads as it did. -/
def jobConflictsUptoRow : OpenClaim := { program := "ytoikgjhekemjdaa", sum := "c16e3b341f54058fb963ccd0dc1248c83d796ac27a08f6c4418eafddd9e658e2", func := "micropart/micropartlaw31.JobConflicts", spec := "jobConflicts", unfollowed := true, recurses := true, apart := false, narrowed := true }
def JobConflictsUptoSaid : Prop := jobConflictsUptoRow.holds Try.pinned (OpenSpec.upto jobConflictsSpec)

/-- 'micropartlaw31.JobReplaces', WHERE WHAT IT READS IS OF BULK AT MOST 1048576: true; the input reads as it did. -/
def jobReplacesUptoRow : OpenClaim := { program := "ytoikgjhekemjdaa", sum := "c16e3b341f54058fb963ccd0dc1248c83d796ac27a08f6c4418eafddd9e658e2", func := "micropart/micropartlaw31.JobReplaces", spec := "jobReplaces", unfollowed := true, recurses := true, apart := false, narrowed := true }
def JobReplacesUptoSaid : Prop := jobReplacesUptoRow.holds Try.pinned (OpenSpec.upto jobReplacesSpec)

end Rows
end Go.Proofs.Ytoikgjhekemjdaa
