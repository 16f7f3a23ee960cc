/-
 The contract of keep.Value.
-/
import Derived.Test.YtjnamjkdjcndiaaGreatDoorVGen
import Derived.Deep.RegionWith
namespace Go.Proofs.YtjnamjkdjcndiaaGreatDoor
open Go.RowKit
theorem blk_new2 (w:World) (o:Obj) (t:TypeId) (cs:Array Value):Blk ((w.alloc o).alloc (.cells cs t)) (w.heap.size+1) t cs:=by
 have:=Blk.new (w.alloc o) t cs
 simpa using this
end Go.Proofs.YtjnamjkdjcndiaaGreatDoor
