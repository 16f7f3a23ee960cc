/-
 The contracts of varint.Put,varint.Zig and value.Put.
-/
import Derived.Test.YtjnamjkdjcndiaaGreatDoorProg
import Derived.Test.YtjnamjkdjcndiaaGreatDoorM1
import Derived.Lib.Varint
import Derived.Lib.Zigzag
import Derived.Deep.RegionHeld3
namespace Go.Proofs.YtjnamjkdjcndiaaGreatDoor
open Go.RowKit
theorem info_u8:(Tryz.prog.info? 5).map (fun i=>(i.zero,i.size,i.bytes))=some (some (.int .u8 0),1,1):=by kernel_rfl
def RetStr (w:World) (l:List UInt8) (e:Ending) (w':World):Prop:=e=.returned (.string ⟨l.toArray⟩)∧Below w.heap.size w w'
theorem str_eq {s:ByteArray} {l:List UInt8} (h:s.data.toList=l):s=⟨l.toArray⟩:=by subst h;cases s;simp
theorem RetStr.mk_ {w w':World} {l:List UInt8} {s:ByteArray} (h:s.data.toList=l) (hb:Below w.heap.size w w'):RetStr w l (.returned (.string s)) w':=by rw[str_eq h];exact ⟨rfl,hb⟩
def byt (xs:List Int):List UInt8:=xs.map fun n=>UInt8.ofNat n.toNat
theorem own_ints8 {w:World} {base:Nat} {e:TypeId} {v:Value} {l:List Int} {x:Int} (h:w.ownsRow base e 1 v (l.length+1) (ints8 l++(#[Value.int .u8 x]:Array Value).toList)):w.ownsRow base e 1 v (l ++ [x]).length (ints8 (l ++ [x])):=by
 have e1:ints8 (l ++ [x])=ints8 l ++ [.int .u8 x]:=by simp[ints8]
 rw[e1,List.length_append];exact h
theorem conv_own {P:Program} {w:World} {base:Nat} {e src:TypeId} (hs:P.underlying src=some (.slice e)) (he:P.underlying e=some (.int .u8)) {g cap n:Nat} {xs:List Int} (h:w.ownsRow base e 1 (.slice (some ⟨g,0,none⟩) n cap) n (ints8 xs)) :
  ∀ dst,P.underlying dst=some .string→(convert src dst (.slice (some ⟨g,0,none⟩) n cap)).run P w=.ok (.string (strOfNums xs)) w:=by
 have hl:xs.length=n:=by have:=h.1;rw[ints8_length]at this;omega
 refine run_convert_bytes_arg w src e hs he g 0 n cap xs hl (fun i hi=>?_)
 rw[Nat.zero_add,h.cellAt i (by omega)];have:i<xs.length:=by omega
 simp[ints8,List.getD,List.getElem?_eq_getElem this]
theorem strOf_byt (xs:List Int):(strOfNums xs).data.toList=byt xs:=strOfNums_data xs
end Go.Proofs.YtjnamjkdjcndiaaGreatDoor
