/-
 The contract of (*strings.Builder).WriteString at a builder that the call itself has made (the shelf's own could not be laid at this dump: its copyCheck's last branch is not translated).
-/
import Derived.Test.YtjnamjkdjcndiaaGreatDoorVarPut
import Derived.Test.YtjnamjkdjcndiaaGreatDoorM1
import Derived.Lib.Builder
import Derived.Lib.AppendStr
import Derived.Laws.Externs
namespace Go.Proofs.YtjnamjkdjcndiaaGreatDoor
open Go.RowKit
theorem infoBuilder:(Tryz.prog.info? 61).map (·.size)=some 2:=by kernel_rfl
theorem liesBuilder:liesAt Tryz.prog Tryz.prog.depth 61 (2 / Tryz.prog.cellsOf 61) 0 61 1=true:=by kernel_rfl
set_option maxHeartbeats 1000000 in
set_option maxRecDepth 100000 in
theorem copyCheck_used (b:Nat) (w:World) (h0:w.cell? ⟨b,0,none⟩=some (.pointer (some ⟨b,0,none⟩))) :
  Calls Tryz.prog 76 #[.pointer (some ⟨b,0,none⟩)] w fun e w'=>e=.returned (.tuple #[])∧w'=w:=by
 obtain ⟨j,hj,_⟩:=Option.map_eq_some_iff.1 infoBuilder;go_enter Tryz.func76,Tryz.ntmps76
 go_wp2;rw[Lib.run_neq_ptr_same w _ Tryz.underlying59 hj];go_wp2;go_end0
 exact ⟨rfl,rfl⟩
set_option maxHeartbeats 1000000 in
set_option maxRecDepth 100000 in
theorem copyCheck_fresh (b:Nat) (w:World) (h0:w.cell? ⟨b,0,none⟩=some (.pointer none)) (hsh:w.shape? b=some (61,2)) (hfz:w.frozen? ⟨b,0,none⟩=false) :
  Calls Tryz.prog 76 #[.pointer (some ⟨b,0,none⟩)] w fun e w'=>e=.returned (.tuple #[])∧w'=w.setCell ⟨b,0,none⟩ (.pointer (some ⟨b,0,none⟩)):=by
 obtain ⟨j,hj,hjs⟩:=Option.map_eq_some_iff.1 infoBuilder;go_enter Tryz.func76,Tryz.ntmps76
 go_wp2;rw[Lib.run_to_unsafe w ⟨b,0,none⟩ Tryz.underlying59 Tryz.underlying135 hj (by rw[hjs];decide) hsh (Nat.zero_lt_succ 1)];simp only[Result.andThen];rw[Oper.upon_value];go_wp2;rw[run_callFunc_extern Tryz.func101 (by kernel_rfl) (by kernel_rfl) (by kernel_rfl) (e:=Extern.AbiNoEscape.same) (by kernel_rfl)];rw[Lib.run_noEscape];simp only[Result.andThen];rw[Oper.upon_value];go_wp2;rw[Lib.run_from_unsafe w ⟨b,0,none⟩ Tryz.underlying135 Tryz.underlying59 hj hsh liesBuilder];simp only[Result.andThen];rw[Oper.upon_value];go_wp2;go_end0
 exact ⟨rfl,rfl⟩
def KeepsB (b:Nat) (w w':World):Prop:=∀ (g:Nat) (T:TypeId) (cs:Array Value),g≠b→T≠5→Blk w g T cs→Blk w' g T cs
theorem KeepsB.refl (b:Nat) (w:World):KeepsB b w w:=fun _ _ _ _ _ h=>h
theorem KeepsB.trans {b:Nat} {w w' w'':World} (h:KeepsB b w w') (k:KeepsB b w' w''):KeepsB b w w'':=fun g T cs hg hT hB=>k g T cs hg hT (h g T cs hg hT hB)
theorem KeepsB.set_ {b:Nat} {w:World} (i:Nat) (u:Value):KeepsB b w (w.setCell ⟨b,i,none⟩ u):=fun _ _ _ hg _ hB=>hB.far (by exact hg) u
abbrev IsB (B b:Nat) (bs:List Value) (w:World):Prop:=Lib.IsBuilder 61 5 B b bs w
theorem copyCheck_any (B b:Nat) (bs:List Value) (w:World) (h:IsB B b bs w) :
  Calls Tryz.prog 76 #[.pointer (some ⟨b,0,none⟩)] w fun e w'=>e=.returned (.tuple #[])∧(Lib.BuilderAt 61 5 B b (.pointer (some ⟨b,0,none⟩)) bs w'∧Below B w w'∧KeepsB b w w'):=by
 rcases h with h|h
 ·refine (copyCheck_fresh b w h.cell0 h.shape h.frozen0).mono ?_;rintro e w' ⟨rfl,rfl⟩;exact ⟨rfl,h.used _,(Below.refl B w).setCell (p:=⟨b,0,none⟩) h.1 _,KeepsB.set_ 0 _⟩
 ·refine (copyCheck_used b w h.cell0).mono ?_;rintro e w' ⟨rfl,rfl⟩;exact ⟨rfl,h,Below.refl B _,KeepsB.refl _ _⟩
def RetWS (B b:Nat) (bs:List Value) (s:ByteArray) (w:World) (e:Ending) (w':World):Prop:=e=.returned (.tuple #[.int .i64 s.size,.nilIface])∧IsB B b (bs++Lib.strCells s) w'∧Below B w w'∧KeepsB b w w'
set_option maxHeartbeats 2000000 in
set_option maxRecDepth 100000 in
theorem writeString_any (B b:Nat) (bs:List Value) (s:ByteArray) (w:World) (h:IsB B b bs w) (hlen:bs.length+s.size≤140737488355328) (hBw:B≤w.heap.size) :
  Calls Tryz.prog 51 #[.pointer (some ⟨b,0,none⟩),.string s] w (RetWS B b bs s w):=by
 obtain ⟨i0,hi,hz0,hz1,hz2⟩:=info_parts info_u8;go_enter Tryz.func51,Tryz.ntmps51
 go_wp2_with fail
 refine (copyCheck_any B b bs _ h).mono ?_;rintro e w1 ⟨rfl,h1,hb1,hk1⟩;have HK1:=Lib.hid hk1;clear hk1;obtain ⟨hB,v,hbk,hown,hne⟩:=h1;have c0:w1.cell? ⟨b,0,none⟩=some (.pointer (some ⟨b,0,none⟩)):=by rw[Lib.cell_of_heap hbk];rfl
 have c1:w1.cell? ⟨b,1,none⟩=some v:=by rw[Lib.cell_of_heap hbk];rfl
 go_wp2_with (at_builtin;refine Lib.wpList_append_own_string _ rfl _ _ 41 9 rfl B 5 i0 Tryz.underlying41 Tryz.underlying9 hi hz0 hz1 hz2 _ _ _ rfl hown s rfl ?c3 ?c4 ?c5 ?_)
 case c3=>unfold maxLen;omega
 case c4=>omega
 case c5=>have:=hb1.size;omega
 intro v' w2 hown' hgrow _
 have hlt:b<w1.heap.size:=by
  rcases Nat.lt_or_ge b w1.heap.size with h'|h'
  ·exact h'
  ·simp[Array.getElem?_eq_none h']at hbk
 have hb2:w2.heap[b]?=some (.cells #[.pointer (some ⟨b,0,none⟩),v] 61 (0,0)):=by
  rw[hgrow.block b hlt (fun e=>hne e.symm)];exact hbk
 have d0:w2.cell? ⟨b,0,none⟩=some (.pointer (some ⟨b,0,none⟩)):=by rw[Lib.cell_of_heap hb2];rfl
 have d1:w2.cell? ⟨b,1,none⟩=some v:=by rw[Lib.cell_of_heap hb2];rfl
 have f1:w2.frozen? ⟨b,1,none⟩=false:=Lib.frozen_of_heap hb2 1;obtain ⟨ao,n',cap,rfl⟩:∃ ao n' cap,v'=.slice ao n' cap:=by
  rcases hown'.2 with ⟨hv,_⟩|⟨g,cap,cur,hv,_⟩
  ·exact ⟨_,_,_,hv⟩
  ·exact ⟨_,_,_,hv⟩
 go_wp2;go_ret2
 refine ⟨rfl,.inr ?_,?_,?_⟩
 ·exact Lib.BuilderAt.put (T:=61) (e:=5) hB hb2 (bs':=bs++Lib.strCells s) (by simpa [Lib.strCells_length] using hown') (by decide)
 ·exact (hb1.grown hgrow (by have:=hb1.size;omega) (fun k hk=>(hown.lt k hk).1)).setCell (p:=⟨b,1,none⟩) hB _
 ·refine HK1.out.trans (KeepsB.trans (fun g T cs hg hT hB=>?_) (KeepsB.set_ 1 _))
  exact hB.grown hgrow (own_blk_ne hown hB (Ne.symm hT))
end Go.Proofs.YtjnamjkdjcndiaaGreatDoor
