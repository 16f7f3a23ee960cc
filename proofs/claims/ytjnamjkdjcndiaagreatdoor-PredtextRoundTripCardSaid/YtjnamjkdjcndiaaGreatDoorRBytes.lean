/-
 The contracts of ref6.hex,ref6.readBytes.
-/
import Derived.Test.YtjnamjkdjcndiaaGreatDoorBytes
import Derived.Test.YtjnamjkdjcndiaaGreatDoorM5
import Derived.Deep.DeepCutAuto
import Derived.Laws.BytesArg
import Derived.Deep.CutBlock
namespace Go.Proofs.YtjnamjkdjcndiaaGreatDoor
open Go.RowKit Go.Sort
set_option linter.unusedVariables false
def RetHx (w:World) (v:Int) (e:Ending) (w':World):Prop:=e=.returned (.int .u8 v)∧w'=w
theorem RetHx.mk_ {w:World} {v x:Int} (h:v=x):RetHx w v (.returned (.int .u8 x)) w:=by subst h;exact ⟨rfl,rfl⟩
def RetVb (w:World) (r:(Bool×Int×List UInt8)×Int) (e:Ending) (w':World):Prop:=e=.returned (.tuple #[.agg #[.bool r.1.1,.int .i64 r.1.2.1,.string ⟨r.1.2.2.toArray⟩],.int .i64 r.2])∧Below w.heap.size w w'
theorem RetVb.mk_ {w w':World} {r:(Bool×Int×List UInt8)×Int} {b:Bool} {n x:Int} {s:ByteArray} (h:r=((b,n,s.data.toList),x)) (hb:Below w.heap.size w w'):RetVb w r (.returned (.tuple #[.agg #[.bool b,.int .i64 n,.string s],.int .i64 x])) w':=by subst h;exact ⟨rfl,hb⟩
def vbyt (l:List UInt8):(Bool×Int×List UInt8)×Int:=((false,0,(bytV l).1),(bytV l).2)
theorem vbyt_eq {l q:List UInt8} {x:Int} (h:bytV l=(q,x)):vbyt l=((false,0,q),x):=by unfold vbyt;rw[h]
theorem blk3V {w:World} {A:Nat} {T:TypeId} {x y z:Value} (a b c:Value) (h:Blk w A T #[x,y,z]):Blk (((w.setCell ⟨A,0,none⟩ a).setCell ⟨A,1,none⟩ b).setCell ⟨A,2,none⟩ c) A T #[a,b,c]:=((h.set_ 0 a).set_ 1 b).set_ 2 c
theorem below3V {w w':World} {A B:Nat} (a b c:Value) (h:Below B w w') (hB:B≤A):Below B w (((w'.setCell ⟨A,0,none⟩ a).setCell ⟨A,1,none⟩ b).setCell ⟨A,2,none⟩ c):=((h.setCell (p:=⟨A,0,none⟩) hB a).setCell (p:=⟨A,1,none⟩) hB b).setCell (p:=⟨A,2,none⟩) hB c
end Go.Proofs.YtjnamjkdjcndiaaGreatDoor
