/-
  No cell of these rows narrows 'for every input' (looked for: loops, veiled, ifaces, maps, wideKeys, modest, calm, conditions, laid).
  DERIVED. THE GIVEN ROWS OF THIS SEAT. 12 by the template 'for every input the law returns true; each argument reads behind the call as it read before'; 0 by the template 'total and deterministic' (their statements: YtdffmkbcjnonaaaTotals.lean).
  GIVEN WITH THE SEED: the statements are not yours to turn. If you find one false, say at which input.
  Laid BY PROGRAM, IN A SANDBOX (cutbox-rows.mjs): the forced cells as the released guide's own fill.sh prints them over the translation 7a6f7f2670e88de6… (all of the seat's roots in one cut). By AI agents, Wed Nov 11 2026. No macro, syntax, notation, axiom, sorry.
-/
import Derived.Test.YtdffmkbcjnonaaaChecked
import GoSem.Claim
import GoSem.ClaimJoined
import GoSem.ClaimMapViews
import Derived.JoinedTies
import Derived.KernelRfl
namespace Go.Proofs.Ytdffmkbcjnonaaa
/- THE CELL 'sum', in the pinned program and in every row, IS THE sha256 OF THE DUMP (.gsa) THAT YtdffmkbcjnonaaaProg.lean LOADS. Nothing in Lean hashes anything: it is a label: what it is worth is what the hold of that sum in a sandbox is worth. -/
noncomputable def Try.pinned : Pinned := { name := "ytdffmkbcjnonaaa", sum := "7a6f7f2670e88de6451b3b48a39f219705bfd52dfe872bf591adc17642c17043", checked := Try.checked }
namespace Rows
def none {H : Type} : Left H := { results := [], args := [] }

/-- 'micropartlaw20.SnapshotChecks': WHATEVER THE INPUT: true; the input reads as it did. -/
def snapshotChecksSpec : ChangeSpec := { name := "snapshotChecks", fn := fun _ => fun
  | [d1, d2, d3, d4, d5] => { results := [.lit (.bool true)], args := [d1, d2, d3, d4, d5] }
  | _ => none }
def snapshotChecksRow : OpenClaim := { program := "ytdffmkbcjnonaaa", sum := "7a6f7f2670e88de6451b3b48a39f219705bfd52dfe872bf591adc17642c17043", func := "micropart/micropartlaw20.SnapshotChecks", spec := "snapshotChecks", apart := false }
def SnapshotChecksSaid : Prop := snapshotChecksRow.holds Try.pinned (OpenSpec.ofChange snapshotChecksSpec)

/-- ITS FALSE NEIGHBOUR: 'it returns false'. Refute it at one input. -/
def snapshotChecksWrong : ChangeSpec := { name := "snapshotChecks", fn := fun _ => fun
  | [d1, d2, d3, d4, d5] => { results := [.lit (.bool false)], args := [d1, d2, d3, d4, d5] }
  | _ => none }
def SnapshotChecksWrongFalsely : Prop := snapshotChecksRow.holds Try.pinned (OpenSpec.ofChange snapshotChecksWrong)

/-- 'micropartlaw31.JobExamples': WHATEVER THE INPUT: true; the input reads as it did. -/
def jobExamplesSpec : ChangeSpec := { name := "jobExamples", fn := fun _ => fun
  | [] => { results := [.lit (.bool true)], args := [] }
  | _ => none }
def jobExamplesRow : OpenClaim := { program := "ytdffmkbcjnonaaa", sum := "7a6f7f2670e88de6451b3b48a39f219705bfd52dfe872bf591adc17642c17043", func := "micropart/micropartlaw31.JobExamples", spec := "jobExamples", apart := false }
def JobExamplesSaid : Prop := jobExamplesRow.holds Try.pinned (OpenSpec.ofChange jobExamplesSpec)

/-- ITS FALSE NEIGHBOUR: 'it returns false'. Refute it at one input. -/
def jobExamplesWrong : ChangeSpec := { name := "jobExamples", fn := fun _ => fun
  | [] => { results := [.lit (.bool false)], args := [] }
  | _ => none }
def JobExamplesWrongFalsely : Prop := jobExamplesRow.holds Try.pinned (OpenSpec.ofChange jobExamplesWrong)

/-- 'micropartlaw31.JobPlans': WHATEVER THE INPUT: true; the input reads as it did. -/
def jobPlansSpec : ChangeSpec := { name := "jobPlans", fn := fun _ => fun
  | [d1, d2, d3, d4, d5] => { results := [.lit (.bool true)], args := [d1, d2, d3, d4, d5] }
  | _ => none }
def jobPlansRow : OpenClaim := { program := "ytdffmkbcjnonaaa", sum := "7a6f7f2670e88de6451b3b48a39f219705bfd52dfe872bf591adc17642c17043", func := "micropart/micropartlaw31.JobPlans", spec := "jobPlans", apart := false }
def JobPlansSaid : Prop := jobPlansRow.holds Try.pinned (OpenSpec.ofChange jobPlansSpec)

/-- ITS FALSE NEIGHBOUR: 'it returns false'. Refute it at one input. -/
def jobPlansWrong : ChangeSpec := { name := "jobPlans", fn := fun _ => fun
  | [d1, d2, d3, d4, d5] => { results := [.lit (.bool false)], args := [d1, d2, d3, d4, d5] }
  | _ => none }
def JobPlansWrongFalsely : Prop := jobPlansRow.holds Try.pinned (OpenSpec.ofChange jobPlansWrong)

/-- 'micropartlaw31.JobGroups': WHATEVER THE INPUT: true; the input reads as it did. -/
def jobGroupsSpec : ChangeSpec := { name := "jobGroups", fn := fun _ => fun
  | [d1, d2] => { results := [.lit (.bool true)], args := [d1, d2] }
  | _ => none }
def jobGroupsRow : OpenClaim := { program := "ytdffmkbcjnonaaa", sum := "7a6f7f2670e88de6451b3b48a39f219705bfd52dfe872bf591adc17642c17043", func := "micropart/micropartlaw31.JobGroups", spec := "jobGroups", apart := false }
def JobGroupsSaid : Prop := jobGroupsRow.holds Try.pinned (OpenSpec.ofChange jobGroupsSpec)

/-- ITS FALSE NEIGHBOUR: 'it returns false'. Refute it at one input. -/
def jobGroupsWrong : ChangeSpec := { name := "jobGroups", fn := fun _ => fun
  | [d1, d2] => { results := [.lit (.bool false)], args := [d1, d2] }
  | _ => none }
def JobGroupsWrongFalsely : Prop := jobGroupsRow.holds Try.pinned (OpenSpec.ofChange jobGroupsWrong)

/-- 'micropartlaw31.JobOutputs': WHATEVER THE INPUT: true; the input reads as it did. -/
def jobOutputsSpec : ChangeSpec := { name := "jobOutputs", fn := fun _ => fun
  | [d1, d2] => { results := [.lit (.bool true)], args := [d1, d2] }
  | _ => none }
def jobOutputsRow : OpenClaim := { program := "ytdffmkbcjnonaaa", sum := "7a6f7f2670e88de6451b3b48a39f219705bfd52dfe872bf591adc17642c17043", func := "micropart/micropartlaw31.JobOutputs", spec := "jobOutputs", apart := false }
def JobOutputsSaid : Prop := jobOutputsRow.holds Try.pinned (OpenSpec.ofChange jobOutputsSpec)

/-- ITS FALSE NEIGHBOUR: 'it returns false'. Refute it at one input. -/
def jobOutputsWrong : ChangeSpec := { name := "jobOutputs", fn := fun _ => fun
  | [d1, d2] => { results := [.lit (.bool false)], args := [d1, d2] }
  | _ => none }
def JobOutputsWrongFalsely : Prop := jobOutputsRow.holds Try.pinned (OpenSpec.ofChange jobOutputsWrong)

/-- 'micropartlaw31.JobSteps': WHATEVER THE INPUT: true; the input reads as it did. -/
def jobStepsSpec : ChangeSpec := { name := "jobSteps", fn := fun _ => fun
  | [d1, d2, d3] => { results := [.lit (.bool true)], args := [d1, d2, d3] }
  | _ => none }
def jobStepsRow : OpenClaim := { program := "ytdffmkbcjnonaaa", sum := "7a6f7f2670e88de6451b3b48a39f219705bfd52dfe872bf591adc17642c17043", func := "micropart/micropartlaw31.JobSteps", spec := "jobSteps", apart := false }
def JobStepsSaid : Prop := jobStepsRow.holds Try.pinned (OpenSpec.ofChange jobStepsSpec)

/-- ITS FALSE NEIGHBOUR: 'it returns false'. Refute it at one input. -/
def jobStepsWrong : ChangeSpec := { name := "jobSteps", fn := fun _ => fun
  | [d1, d2, d3] => { results := [.lit (.bool false)], args := [d1, d2, d3] }
  | _ => none }
def JobStepsWrongFalsely : Prop := jobStepsRow.holds Try.pinned (OpenSpec.ofChange jobStepsWrong)

/-- 'micropartlaw7.SchemaNames': WHATEVER THE INPUT: true; the input reads as it did. -/
def schemaNamesSpec : ChangeSpec := { name := "schemaNames", fn := fun _ => fun
  | [d1, d2] => { results := [.lit (.bool true)], args := [d1, d2] }
  | _ => none }
def schemaNamesRow : OpenClaim := { program := "ytdffmkbcjnonaaa", sum := "7a6f7f2670e88de6451b3b48a39f219705bfd52dfe872bf591adc17642c17043", func := "micropart/micropartlaw7.SchemaNames", spec := "schemaNames", unfollowed := true, recurses := true, apart := false }
def SchemaNamesSaid : Prop := schemaNamesRow.holds Try.pinned (OpenSpec.ofChange schemaNamesSpec)

/-- ITS FALSE NEIGHBOUR: 'it returns false'. Refute it at one input. -/
def schemaNamesWrong : ChangeSpec := { name := "schemaNames", fn := fun _ => fun
  | [d1, d2] => { results := [.lit (.bool false)], args := [d1, d2] }
  | _ => none }
def SchemaNamesWrongFalsely : Prop := schemaNamesRow.holds Try.pinned (OpenSpec.ofChange schemaNamesWrong)

/-- 'micropartlaw6.ValueCompares': WHATEVER THE INPUT: true; the input reads as it did. -/
def valueComparesSpec : ChangeSpec := { name := "valueCompares", fn := fun _ => fun
  | [d1, d2, d3, d4, d5] => { results := [.lit (.bool true)], args := [d1, d2, d3, d4, d5] }
  | _ => none }
def valueComparesRow : OpenClaim := { program := "ytdffmkbcjnonaaa", sum := "7a6f7f2670e88de6451b3b48a39f219705bfd52dfe872bf591adc17642c17043", func := "micropart/micropartlaw6.ValueCompares", spec := "valueCompares", apart := false }
def ValueComparesSaid : Prop := valueComparesRow.holds Try.pinned (OpenSpec.ofChange valueComparesSpec)

/-- ITS FALSE NEIGHBOUR: 'it returns false'. Refute it at one input. -/
def valueComparesWrong : ChangeSpec := { name := "valueCompares", fn := fun _ => fun
  | [d1, d2, d3, d4, d5] => { results := [.lit (.bool false)], args := [d1, d2, d3, d4, d5] }
  | _ => none }
def ValueComparesWrongFalsely : Prop := valueComparesRow.holds Try.pinned (OpenSpec.ofChange valueComparesWrong)

/-- 'micropartlaw6.ValueIsOrdered': WHATEVER THE INPUT: true; the input reads as it did. -/
def valueIsOrderedSpec : ChangeSpec := { name := "valueIsOrdered", fn := fun _ => fun
  | [d1, d2, d3, d4] => { results := [.lit (.bool true)], args := [d1, d2, d3, d4] }
  | _ => none }
def valueIsOrderedRow : OpenClaim := { program := "ytdffmkbcjnonaaa", sum := "7a6f7f2670e88de6451b3b48a39f219705bfd52dfe872bf591adc17642c17043", func := "micropart/micropartlaw6.ValueIsOrdered", spec := "valueIsOrdered", apart := false }
def ValueIsOrderedSaid : Prop := valueIsOrderedRow.holds Try.pinned (OpenSpec.ofChange valueIsOrderedSpec)

/-- ITS FALSE NEIGHBOUR: 'it returns false'. Refute it at one input. -/
def valueIsOrderedWrong : ChangeSpec := { name := "valueIsOrdered", fn := fun _ => fun
  | [d1, d2, d3, d4] => { results := [.lit (.bool false)], args := [d1, d2, d3, d4] }
  | _ => none }
def ValueIsOrderedWrongFalsely : Prop := valueIsOrderedRow.holds Try.pinned (OpenSpec.ofChange valueIsOrderedWrong)

/-- 'micropartlaw6.ValueChecks': WHATEVER THE INPUT: true; the input reads as it did. -/
def valueChecksSpec : ChangeSpec := { name := "valueChecks", fn := fun _ => fun
  | [d1, d2, d3, d4, d5, d6, d7] => { results := [.lit (.bool true)], args := [d1, d2, d3, d4, d5, d6, d7] }
  | _ => none }
def valueChecksRow : OpenClaim := { program := "ytdffmkbcjnonaaa", sum := "7a6f7f2670e88de6451b3b48a39f219705bfd52dfe872bf591adc17642c17043", func := "micropart/micropartlaw6.ValueChecks", spec := "valueChecks", apart := false }
def ValueChecksSaid : Prop := valueChecksRow.holds Try.pinned (OpenSpec.ofChange valueChecksSpec)

/-- ITS FALSE NEIGHBOUR: 'it returns false'. Refute it at one input. -/
def valueChecksWrong : ChangeSpec := { name := "valueChecks", fn := fun _ => fun
  | [d1, d2, d3, d4, d5, d6, d7] => { results := [.lit (.bool false)], args := [d1, d2, d3, d4, d5, d6, d7] }
  | _ => none }
def ValueChecksWrongFalsely : Prop := valueChecksRow.holds Try.pinned (OpenSpec.ofChange valueChecksWrong)

/-- 'micropartlaw6.ValueGets': WHATEVER THE INPUT: true; the input reads as it did. -/
def valueGetsSpec : ChangeSpec := { name := "valueGets", fn := fun _ => fun
  | [d1, d2, d3] => { results := [.lit (.bool true)], args := [d1, d2, d3] }
  | _ => none }
def valueGetsRow : OpenClaim := { program := "ytdffmkbcjnonaaa", sum := "7a6f7f2670e88de6451b3b48a39f219705bfd52dfe872bf591adc17642c17043", func := "micropart/micropartlaw6.ValueGets", spec := "valueGets", apart := false }
def ValueGetsSaid : Prop := valueGetsRow.holds Try.pinned (OpenSpec.ofChange valueGetsSpec)

/-- ITS FALSE NEIGHBOUR: 'it returns false'. Refute it at one input. -/
def valueGetsWrong : ChangeSpec := { name := "valueGets", fn := fun _ => fun
  | [d1, d2, d3] => { results := [.lit (.bool false)], args := [d1, d2, d3] }
  | _ => none }
def ValueGetsWrongFalsely : Prop := valueGetsRow.holds Try.pinned (OpenSpec.ofChange valueGetsWrong)

/-- 'micropartlaw6.ValueRoundTrip': WHATEVER THE INPUT: true; the input reads as it did. -/
def valueRoundTripSpec : ChangeSpec := { name := "valueRoundTrip", fn := fun _ => fun
  | [d1, d2, d3, d4, d5, d6] => { results := [.lit (.bool true)], args := [d1, d2, d3, d4, d5, d6] }
  | _ => none }
def valueRoundTripRow : OpenClaim := { program := "ytdffmkbcjnonaaa", sum := "7a6f7f2670e88de6451b3b48a39f219705bfd52dfe872bf591adc17642c17043", func := "micropart/micropartlaw6.ValueRoundTrip", spec := "valueRoundTrip", apart := false }
def ValueRoundTripSaid : Prop := valueRoundTripRow.holds Try.pinned (OpenSpec.ofChange valueRoundTripSpec)

/-- ITS FALSE NEIGHBOUR: 'it returns false'. Refute it at one input. -/
def valueRoundTripWrong : ChangeSpec := { name := "valueRoundTrip", fn := fun _ => fun
  | [d1, d2, d3, d4, d5, d6] => { results := [.lit (.bool false)], args := [d1, d2, d3, d4, d5, d6] }
  | _ => none }
def ValueRoundTripWrongFalsely : Prop := valueRoundTripRow.holds Try.pinned (OpenSpec.ofChange valueRoundTripWrong)

/- THE SECOND FORM. 'bulk': how many values and letters a reading holds, each counted each time it is reached (what is shared counts as often as it is met; a slice's spare places count too). A statement '..UptoSaid' is the law's where the arguments, and the package variables that the reading takes, are together of bulk at most 1048576: NARROWER than '..Said'. Prove '..Said' where nothing that the law and all that it calls make is longer than what came in: it says more and counts as full. Else prove '..UptoSaid'. A law counts once. -/
mutual
def uptoBulk {H : Type} : DataW H → Nat
  | .lit (.string bytes) => bytes.length + 1
  | .lit _ => 1
  | .nil => 1
  | .ptr d => uptoBulk d + 1
  | .slice elems spare => uptoBulkAll elems + uptoBulkAll spare + 1
  | .agg parts => uptoBulkAll parts + 1
  | .iface _ d => uptoBulk d + 1
  | .map entries => uptoBulkEntries entries + 1
  | .held _ => 1
def uptoBulkAll {H : Type} : List (DataW H) → Nat
  | [] => 0
  | d :: r => uptoBulk d + uptoBulkAll r
def uptoBulkEntries {H : Type} : List (Lit × DataW H) → Nat
  | [] => 0
  | x :: r => uptoBulkEntry x + uptoBulkEntries r
def uptoBulkEntry {H : Type} : Lit × DataW H → Nat
  | (.string bytes, d) => bytes.length + uptoBulk d + 1
  | (_, d) => uptoBulk d + 1
 end
def uptoSmall : (H : Type) → List (DataW H) → Bool := fun _ ds => decide (uptoBulkAll ds ≤ 1048576)
def OpenSpec.upto (s : _root_.Go.ChangeSpec) : _root_.Go.OpenSpec := { _root_.Go.OpenSpec.ofChange s with cond := some uptoSmall }

/-- 'micropartlaw20.SnapshotChecks', WHERE WHAT IT READS IS OF BULK AT MOST 1048576: true; the input reads as it did. -/
def snapshotChecksUptoRow : OpenClaim := { program := "ytdffmkbcjnonaaa", sum := "7a6f7f2670e88de6451b3b48a39f219705bfd52dfe872bf591adc17642c17043", func := "micropart/micropartlaw20.SnapshotChecks", spec := "snapshotChecks", apart := false, narrowed := true }
def SnapshotChecksUptoSaid : Prop := snapshotChecksUptoRow.holds Try.pinned (OpenSpec.upto snapshotChecksSpec)

/-- 'micropartlaw31.JobExamples', WHERE WHAT IT READS IS OF BULK AT MOST 1048576: true; the input reads as it did. -/
def jobExamplesUptoRow : OpenClaim := { program := "ytdffmkbcjnonaaa", sum := "7a6f7f2670e88de6451b3b48a39f219705bfd52dfe872bf591adc17642c17043", func := "micropart/micropartlaw31.JobExamples", spec := "jobExamples", apart := false, narrowed := true }
def JobExamplesUptoSaid : Prop := jobExamplesUptoRow.holds Try.pinned (OpenSpec.upto jobExamplesSpec)

/-- 'micropartlaw31.JobPlans', WHERE WHAT IT READS IS OF BULK AT MOST 1048576: true; the input reads as it did. -/
def jobPlansUptoRow : OpenClaim := { program := "ytdffmkbcjnonaaa", sum := "7a6f7f2670e88de6451b3b48a39f219705bfd52dfe872bf591adc17642c17043", func := "micropart/micropartlaw31.JobPlans", spec := "jobPlans", apart := false, narrowed := true }
def JobPlansUptoSaid : Prop := jobPlansUptoRow.holds Try.pinned (OpenSpec.upto jobPlansSpec)

/-- 'micropartlaw31.JobGroups', WHERE WHAT IT READS IS OF BULK AT MOST 1048576: true; the input reads as it did. -/
def jobGroupsUptoRow : OpenClaim := { program := "ytdffmkbcjnonaaa", sum := "7a6f7f2670e88de6451b3b48a39f219705bfd52dfe872bf591adc17642c17043", func := "micropart/micropartlaw31.JobGroups", spec := "jobGroups", apart := false, narrowed := true }
def JobGroupsUptoSaid : Prop := jobGroupsUptoRow.holds Try.pinned (OpenSpec.upto jobGroupsSpec)

/-- 'micropartlaw31.JobOutputs', WHERE WHAT IT READS IS OF BULK AT MOST 1048576: true; the input reads as it did. -/
def jobOutputsUptoRow : OpenClaim := { program := "ytdffmkbcjnonaaa", sum := "7a6f7f2670e88de6451b3b48a39f219705bfd52dfe872bf591adc17642c17043", func := "micropart/micropartlaw31.JobOutputs", spec := "jobOutputs", apart := false, narrowed := true }
def JobOutputsUptoSaid : Prop := jobOutputsUptoRow.holds Try.pinned (OpenSpec.upto jobOutputsSpec)

/-- 'micropartlaw31.JobSteps', WHERE WHAT IT READS IS OF BULK AT MOST 1048576: true; the input reads as it did. -/
def jobStepsUptoRow : OpenClaim := { program := "ytdffmkbcjnonaaa", sum := "7a6f7f2670e88de6451b3b48a39f219705bfd52dfe872bf591adc17642c17043", func := "micropart/micropartlaw31.JobSteps", spec := "jobSteps", apart := false, narrowed := true }
def JobStepsUptoSaid : Prop := jobStepsUptoRow.holds Try.pinned (OpenSpec.upto jobStepsSpec)

/-- 'micropartlaw7.SchemaNames', WHERE WHAT IT READS IS OF BULK AT MOST 1048576: true; the input reads as it did. -/
def schemaNamesUptoRow : OpenClaim := { program := "ytdffmkbcjnonaaa", sum := "7a6f7f2670e88de6451b3b48a39f219705bfd52dfe872bf591adc17642c17043", func := "micropart/micropartlaw7.SchemaNames", spec := "schemaNames", unfollowed := true, recurses := true, apart := false, narrowed := true }
def SchemaNamesUptoSaid : Prop := schemaNamesUptoRow.holds Try.pinned (OpenSpec.upto schemaNamesSpec)

/-- 'micropartlaw6.ValueCompares', WHERE WHAT IT READS IS OF BULK AT MOST 1048576: true; the input reads as it did. -/
def valueComparesUptoRow : OpenClaim := { program := "ytdffmkbcjnonaaa", sum := "7a6f7f2670e88de6451b3b48a39f219705bfd52dfe872bf591adc17642c17043", func := "micropart/micropartlaw6.ValueCompares", spec := "valueCompares", apart := false, narrowed := true }
def ValueComparesUptoSaid : Prop := valueComparesUptoRow.holds Try.pinned (OpenSpec.upto valueComparesSpec)

/-- 'micropartlaw6.ValueIsOrdered', WHERE WHAT IT READS IS OF BULK AT MOST 1048576: true; the input reads as it did. -/
def valueIsOrderedUptoRow : OpenClaim := { program := "ytdffmkbcjnonaaa", sum := "7a6f7f2670e88de6451b3b48a39f219705bfd52dfe872bf591adc17642c17043", func := "micropart/micropartlaw6.ValueIsOrdered", spec := "valueIsOrdered", apart := false, narrowed := true }
def ValueIsOrderedUptoSaid : Prop := valueIsOrderedUptoRow.holds Try.pinned (OpenSpec.upto valueIsOrderedSpec)

/-- 'micropartlaw6.ValueChecks', WHERE WHAT IT READS IS OF BULK AT MOST 1048576: true; the input reads as it did. -/
def valueChecksUptoRow : OpenClaim := { program := "ytdffmkbcjnonaaa", sum := "7a6f7f2670e88de6451b3b48a39f219705bfd52dfe872bf591adc17642c17043", func := "micropart/micropartlaw6.ValueChecks", spec := "valueChecks", apart := false, narrowed := true }
def ValueChecksUptoSaid : Prop := valueChecksUptoRow.holds Try.pinned (OpenSpec.upto valueChecksSpec)

/-- 'micropartlaw6.ValueGets', WHERE WHAT IT READS IS OF BULK AT MOST 1048576: true; the input reads as it did. -/
def valueGetsUptoRow : OpenClaim := { program := "ytdffmkbcjnonaaa", sum := "7a6f7f2670e88de6451b3b48a39f219705bfd52dfe872bf591adc17642c17043", func := "micropart/micropartlaw6.ValueGets", spec := "valueGets", apart := false, narrowed := true }
def ValueGetsUptoSaid : Prop := valueGetsUptoRow.holds Try.pinned (OpenSpec.upto valueGetsSpec)

/-- 'micropartlaw6.ValueRoundTrip', WHERE WHAT IT READS IS OF BULK AT MOST 1048576: true; the input reads as it did. -/
def valueRoundTripUptoRow : OpenClaim := { program := "ytdffmkbcjnonaaa", sum := "7a6f7f2670e88de6451b3b48a39f219705bfd52dfe872bf591adc17642c17043", func := "micropart/micropartlaw6.ValueRoundTrip", spec := "valueRoundTrip", apart := false, narrowed := true }
def ValueRoundTripUptoSaid : Prop := valueRoundTripUptoRow.holds Try.pinned (OpenSpec.upto valueRoundTripSpec)

end Rows
end Go.Proofs.Ytdffmkbcjnonaaa
