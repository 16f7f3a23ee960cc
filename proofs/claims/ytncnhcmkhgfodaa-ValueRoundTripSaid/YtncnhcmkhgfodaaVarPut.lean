/-
 The contracts of varint.Put,varint.Zig and value.Put.
-/
import Derived.Test.YtncnhcmkhgfodaaProg
import Derived.Test.YtncnhcmkhgfodaaM1
import Derived.Lib.Varint
import Derived.Lib.Zigzag
import Derived.Deep.RegionHeld3
namespace Go.Proofs.Ytncnhcmkhgfodaa
open Go.RowKit
theorem info_u8:(Try.prog.info? 5).map (fun i=>(i.zero,i.size,i.bytes))=some (some (.int .u8 0),1,1):=by kernel_rfl
def RetStr (w:World) (l:List UInt8) (e:Ending) (w':World):Prop:=e=.returned (.string ⟨l.toArray⟩)∧Below w.heap.size w w'
theorem str_eq {s:ByteArray} {l:List UInt8} (h:s.data.toList=l):s=⟨l.toArray⟩:=by subst h;cases s;simp
theorem RetStr.mk_ {w w':World} {l:List UInt8} {s:ByteArray} (h:s.data.toList=l) (hb:Below w.heap.size w w'):RetStr w l (.returned (.string s)) w':=by rw[str_eq h];exact ⟨rfl,hb⟩
def byt (xs:List Int):List UInt8:=xs.map fun n=>UInt8.ofNat n.toNat
theorem own_ints8 {w:World} {base:Nat} {e:TypeId} {v:Value} {l:List Int} {x:Int} (h:w.ownsRow base e 1 v (l.length+1) (ints8 l++(#[Value.int .u8 x]:Array Value).toList)):w.ownsRow base e 1 v (l ++ [x]).length (ints8 (l ++ [x])):=by
 have e1:ints8 (l ++ [x])=ints8 l ++ [.int .u8 x]:=by simp[ints8]
 rw[e1,List.length_append];exact h
theorem conv_own {P:Program} {w:World} {base:Nat} {e src:TypeId} (hs:P.underlying src=some (.slice e)) (he:P.underlying e=some (.int .u8)) {g cap n:Nat} {xs:List Int} (h:w.ownsRow base e 1 (.slice (some ⟨g,0,none⟩) n cap) n (ints8 xs)) :
  ∀ dst,P.underlying dst=some .string→(convert src dst (.slice (some ⟨g,0,none⟩) n cap)).run P w=.ok (.string (strOfNums xs)) w:=by
 have hl:xs.length=n:=by have:=h.1;rw[ints8_length]at this;omega
 refine run_convert_bytes_arg w src e hs he g 0 n cap xs hl (fun i hi=>?_)
 rw[Nat.zero_add,h.cellAt i (by omega)];have:i<xs.length:=by omega
 simp[ints8,List.getD,List.getElem?_eq_getElem this]
theorem strOf_byt (xs:List Int):(strOfNums xs).data.toList=byt xs:=strOfNums_data xs
set_option maxRecDepth 100000 in
set_option maxHeartbeats 1000000 in
theorem vput_any (v:Nat) (w:World) (hv:v<18446744073709551616):Calls Try.prog 19 #[.int .u64 v] w (RetStr w (Lib.uvarint v)):=by
 have HV:=Lib.hid hv;clear hv;go_enter Try.func19,Try.ntmps19
 go_wp2;go_loopw [0,3] (fun x b wr=>∃ (y:Nat) (xs:List Int),y≤v∧x=.int .u64 y∧wr.ownsRow w.heap.size 5 1 b xs.length (ints8 xs)∧Below w.heap.size w wr∧Hid (byt xs++Lib.uvarint y=Lib.uvarint v))
  (fun x _ _=>(intOf x).toNat)
 case atStart=>exact ⟨v,[],by omega,rfl,World.ownsRow_nil _ _ _ _,Below.refl _ _,rfl⟩
 case round =>
  obtain ⟨y,xs,hy,rfl,hown,hbel,hh⟩:=hrel;have hlen:xs.length≤10:=by
   have:=congrArg List.length hh.out
   rw[List.length_append]at this;have h10:=Lib.uvarint_length64 HV.out;simp[byt]at this;omega
  obtain ⟨A',c',rfl,_,_⟩:=(Sl.of_own hown).form;by_cases hlt:y<128
  ·have HF:=Lib.hid (show byt (xs ++ [(y:Int)])=Lib.uvarint v by rw[←hh.out,Lib.uvarint_small hlt];simp[byt]);clear hh;go_wp2_with (at_builtin;go_must (refine app1 _ _ hown hbel (Nat.le_refl _) hbel.size Try.underlying22 info_u8 rfl (by decide) rfl (oneInt _ _) (by omega) (by omega) rfl rfl rfl rfl ?_))
   intro g cap w1 hown1 hbel1 _ _
   have hcv:=conv_own (P:=Try.prog) Try.underlying22 Try.underlying5 (by simpa using own_ints8 hown1);clear hown1 hown hbel;go_wp2;go_ret;exact RetStr.mk_ (by rw[strOf_byt];exact HF.out) hbel1
  ·have HN:=Lib.hid (show byt (xs ++ [bits .or .u8 ((y:Int) % 256) 128])++Lib.uvarint (y / 128)=Lib.uvarint v by
    rw[←hh.out,Lib.uvarint_big (x:=y) (by omega),Lib.u8_or128_any _ (by omega) (by omega)];have e:((y:Int) % 256 % 128+128).toNat=y % 128+128:=by omega
    simp only[byt,List.map_append,List.map_cons,List.map_nil,List.append_assoc,List.cons_append,List.nil_append,e];try rfl)
   clear hh;go_wp2_with (at_builtin;go_must (refine app1 _ _ hown hbel (Nat.le_refl _) hbel.size Try.underlying22 info_u8 rfl (by decide) rfl (oneInt _ _) (by omega) (by omega) rfl rfl rfl rfl ?_))
   intro g cap w1 hown1 hbel1 _ _
   have hown2:=own_ints8 hown1;clear hown1 hown hbel;go_wp2;go_roundw
   case rel=>exact ⟨y / 128,_,by omega,by go_num,hown2,hbel1,HN.out⟩
   case measure=>simp only[intOf];omega
theorem zig_bits (n:Int) (h0:-9223372036854775808≤n) (h1:n≤9223372036854775807) :
  bits .xor .u64 (IntKind.u64.wrap (wrap64 (n * 2))) (IntKind.u64.wrap (n / 9223372036854775808))=((Lib.zigzag n:Nat):Int):=by
 by_cases hn:0≤n
 ·have e1:IntKind.u64.wrap (wrap64 (n * 2))=(((2 * n).toNat:Nat):Int):=by
   rw[IntKind.wrap_u64];unfold wrap64;omega
  have e2:IntKind.u64.wrap (n / 9223372036854775808)=((0:Nat):Int):=by
   rw[IntKind.wrap_u64];omega
  rw[e1,e2,bits_xor_u64_nat _ _ (by omega) (by decide)];unfold Lib.zigzag
  rw[if_pos hn,Nat.xor_zero]
 ·have e1:IntKind.u64.wrap (wrap64 (n * 2))=(((2 * n+18446744073709551616).toNat:Nat):Int):=by
   rw[IntKind.wrap_u64];unfold wrap64;omega
  have e2:IntKind.u64.wrap (n / 9223372036854775808)=((2 ^ 64 - 1:Nat):Int):=by
   rw[IntKind.wrap_u64];omega
  rw[e1,e2,bits_xor_u64_nat _ _ (by omega) (by decide),Nat.xor_comm,Lib.xor_ones64 _ (by omega)];unfold Lib.zigzag
  rw[if_neg hn];omega
set_option maxRecDepth 100000 in
set_option maxHeartbeats 400000 in
theorem zig_any (n:Int) (w:World) (h0:-9223372036854775808≤n) (h1:n≤9223372036854775807):Calls Try.prog 20 #[.int .i64 n] w fun e w'=>e=.returned (.int .u64 ((Lib.zigzag n:Nat):Int))∧w=w':=by
 have H:=Lib.hid (zig_bits n h0 h1);clear h0 h1;go_enter Try.func20,Try.ntmps20
 go_wp2;go_ret;exact ⟨by rw[←H.out];rfl,rfl⟩
end Go.Proofs.Ytncnhcmkhgfodaa
