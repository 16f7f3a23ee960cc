/-
  The contract of keep.Snapshot.
-/
import Derived.Test.YtcjekbncllccbaaKEntries
namespace Go.Proofs.Ytcjekbncllccbaa
open Go.RowKit
def RetSnap (w : World) (e : Ending) (w' : World) : Prop :=
  ∃ (x q n : Int) (v : Value) (l : List Ent), e = .returned (.agg #[.int .i64 x, .int .i64 q, .int .i64 n, v]) ∧ 0 ≤ x ∧ x ≤ 49 ∧ 3 ≤ q ∧ q ≤ 11 ∧ 30 ≤ n ∧ n ≤ 38 ∧ l.length ≤ 6 ∧ GenL (3 * l.length) l ∧ w'.ownsRow w.heap.size 41 12 v l.length (ents l) ∧ Below w.heap.size w w'
end Go.Proofs.Ytcjekbncllccbaa
