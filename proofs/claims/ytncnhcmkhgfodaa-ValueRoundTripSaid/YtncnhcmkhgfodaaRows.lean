/-
  No cell of these rows narrows 'for every input' (looked for: loops, veiled, ifaces, maps, wideKeys, modest, calm, conditions, laid).
  DERIVED. THE GIVEN ROWS OF THIS SEAT. 2 by the template 'for every input the law returns true; each argument reads behind the call as it read before'; 0 by the template 'total and deterministic' (their statements: YtncnhcmkhgfodaaTotals.lean).
  GIVEN WITH THE SEED: the statements are not yours to turn. If you find one false, say at which input.
  Laid BY PROGRAM, IN A SANDBOX (cutbox-rows.mjs): the forced cells as the released guide's own fill.sh prints them over the translation b1d86b6f037fea9e… (all of the seat's roots in one cut). By AI agents, Wed Nov 11 2026. No macro, syntax, notation, axiom, sorry.
-/
import Derived.Test.YtncnhcmkhgfodaaChecked
import GoSem.Claim
import GoSem.ClaimJoined
import GoSem.ClaimMapViews
import Derived.JoinedTies
import Derived.KernelRfl
namespace Go.Proofs.Ytncnhcmkhgfodaa
/- THE CELL 'sum', in the pinned program and in every row, IS THE sha256 OF THE DUMP (.gsa) THAT YtncnhcmkhgfodaaProg.lean LOADS. Nothing in Lean hashes anything: it is a label: what it is worth is what the hold of that sum in a sandbox is worth. -/
noncomputable def Try.pinned : Pinned := { name := "ytncnhcmkhgfodaa", sum := "b1d86b6f037fea9e415285c103fc6ad72b42c2cbf95f792735615b7064e32e95", checked := Try.checked }
namespace Rows
def none {H : Type} : Left H := { results := [], args := [] }

/-- 'micropartlaw6.ValueGets': WHATEVER THE INPUT: true; the input reads as it did. -/
def valueGetsSpec : ChangeSpec := { name := "valueGets", fn := fun _ => fun
  | [d1, d2, d3] => { results := [.lit (.bool true)], args := [d1, d2, d3] }
  | _ => none }
def valueGetsRow : OpenClaim := { program := "ytncnhcmkhgfodaa", sum := "b1d86b6f037fea9e415285c103fc6ad72b42c2cbf95f792735615b7064e32e95", func := "micropart/micropartlaw6.ValueGets", spec := "valueGets", apart := false }
def ValueGetsSaid : Prop := valueGetsRow.holds Try.pinned (OpenSpec.ofChange valueGetsSpec)

/-- ITS FALSE NEIGHBOUR: 'it returns false'. Refute it at one input. -/
def valueGetsWrong : ChangeSpec := { name := "valueGets", fn := fun _ => fun
  | [d1, d2, d3] => { results := [.lit (.bool false)], args := [d1, d2, d3] }
  | _ => none }
def ValueGetsWrongFalsely : Prop := valueGetsRow.holds Try.pinned (OpenSpec.ofChange valueGetsWrong)

/-- 'micropartlaw6.ValueRoundTrip': WHATEVER THE INPUT: true; the input reads as it did. -/
def valueRoundTripSpec : ChangeSpec := { name := "valueRoundTrip", fn := fun _ => fun
  | [d1, d2, d3, d4, d5, d6] => { results := [.lit (.bool true)], args := [d1, d2, d3, d4, d5, d6] }
  | _ => none }
def valueRoundTripRow : OpenClaim := { program := "ytncnhcmkhgfodaa", sum := "b1d86b6f037fea9e415285c103fc6ad72b42c2cbf95f792735615b7064e32e95", func := "micropart/micropartlaw6.ValueRoundTrip", spec := "valueRoundTrip", apart := false }
def ValueRoundTripSaid : Prop := valueRoundTripRow.holds Try.pinned (OpenSpec.ofChange valueRoundTripSpec)

/-- ITS FALSE NEIGHBOUR: 'it returns false'. Refute it at one input. -/
def valueRoundTripWrong : ChangeSpec := { name := "valueRoundTrip", fn := fun _ => fun
  | [d1, d2, d3, d4, d5, d6] => { results := [.lit (.bool false)], args := [d1, d2, d3, d4, d5, d6] }
  | _ => none }
def ValueRoundTripWrongFalsely : Prop := valueRoundTripRow.holds Try.pinned (OpenSpec.ofChange valueRoundTripWrong)

/- THE SECOND FORM. 'bulk': how many values and letters a reading holds, each counted each time it is reached (what is shared counts as often as it is met; a slice's spare places count too). A statement '..UptoSaid' is the law's where the arguments, and the package variables that the reading takes, are together of bulk at most 1048576: NARROWER than '..Said'. Prove '..Said' where nothing that the law and all that it calls make is longer than what came in: it says more and counts as full. Else prove '..UptoSaid'. A law counts once. -/
mutual
def uptoBulk {H : Type} : DataW H → Nat
  | .lit (.string bytes) => bytes.length + 1
  | .lit _ => 1
  | .nil => 1
  | .ptr d => uptoBulk d + 1
  | .slice elems spare => uptoBulkAll elems + uptoBulkAll spare + 1
  | .agg parts => uptoBulkAll parts + 1
  | .iface _ d => uptoBulk d + 1
  | .map entries => uptoBulkEntries entries + 1
  | .held _ => 1
def uptoBulkAll {H : Type} : List (DataW H) → Nat
  | [] => 0
  | d :: r => uptoBulk d + uptoBulkAll r
def uptoBulkEntries {H : Type} : List (Lit × DataW H) → Nat
  | [] => 0
  | x :: r => uptoBulkEntry x + uptoBulkEntries r
def uptoBulkEntry {H : Type} : Lit × DataW H → Nat
  | (.string bytes, d) => bytes.length + uptoBulk d + 1
  | (_, d) => uptoBulk d + 1
 end
def uptoSmall : (H : Type) → List (DataW H) → Bool := fun _ ds => decide (uptoBulkAll ds ≤ 1048576)
def OpenSpec.upto (s : _root_.Go.ChangeSpec) : _root_.Go.OpenSpec := { _root_.Go.OpenSpec.ofChange s with cond := some uptoSmall }

/-- 'micropartlaw6.ValueGets', WHERE WHAT IT READS IS OF BULK AT MOST 1048576: true; the input reads as it did. -/
def valueGetsUptoRow : OpenClaim := { program := "ytncnhcmkhgfodaa", sum := "b1d86b6f037fea9e415285c103fc6ad72b42c2cbf95f792735615b7064e32e95", func := "micropart/micropartlaw6.ValueGets", spec := "valueGets", apart := false, narrowed := true }
def ValueGetsUptoSaid : Prop := valueGetsUptoRow.holds Try.pinned (OpenSpec.upto valueGetsSpec)

/-- 'micropartlaw6.ValueRoundTrip', WHERE WHAT IT READS IS OF BULK AT MOST 1048576: true; the input reads as it did. -/
def valueRoundTripUptoRow : OpenClaim := { program := "ytncnhcmkhgfodaa", sum := "b1d86b6f037fea9e415285c103fc6ad72b42c2cbf95f792735615b7064e32e95", func := "micropart/micropartlaw6.ValueRoundTrip", spec := "valueRoundTrip", apart := false, narrowed := true }
def ValueRoundTripUptoSaid : Prop := valueRoundTripUptoRow.holds Try.pinned (OpenSpec.upto valueRoundTripSpec)

end Rows
end Go.Proofs.Ytncnhcmkhgfodaa
