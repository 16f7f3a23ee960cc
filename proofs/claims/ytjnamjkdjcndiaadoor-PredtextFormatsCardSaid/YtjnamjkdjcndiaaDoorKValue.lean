/-
  The contract of keep.Value.
-/
import Derived.Test.YtjnamjkdjcndiaaDoorVGen
import Derived.Deep.RegionWith
namespace Go.Proofs.YtjnamjkdjcndiaaDoor
open Go.RowKit
theorem blk_new2 (w : World) (o : Obj) (t : TypeId) (cs : Array Value) : Blk ((w.alloc o).alloc (.cells cs t)) (w.heap.size + 1) t cs := by
  have := Blk.new (w.alloc o) t cs
  simpa using this
def RetKV (w : World) (t : Int) (cn : Bool) (e : Ending) (w' : World) : Prop :=
  ∃ (b : Bool) (n : Int) (s : ByteArray), e = .returned (.agg #[.bool b, .int .i64 n, .string s]) ∧ ValOk t cn b n s ∧ Below w.heap.size w w'
end Go.Proofs.YtjnamjkdjcndiaaDoor
