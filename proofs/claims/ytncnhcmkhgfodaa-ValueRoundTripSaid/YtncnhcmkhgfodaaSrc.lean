/-
 The contracts of keep.From and of Source.Next.
-/
import Derived.Test.YtncnhcmkhgfodaaPick
import Derived.Test.YtncnhcmkhgfodaaSrcMem
import Derived.Deep.QuietTactic
import Derived.BigQuiet
namespace Go.Proofs.Ytncnhcmkhgfodaa
open Go.RowKit
def RetSrc (w:World) (zs:List Int) (e:Ending) (w':World):Prop :=
 ∃ g,e=.returned (.pointer (some ⟨g,0,none⟩))∧Below w.heap.size w w'∧Src w' w.heap.size 54 g zs
set_option maxHeartbeats 400000 in
theorem from_any (v:Value) (zs:List Int) (w:World) (hs:Sl w 1 v zs.length (ints zs)) (hl:zs.length≤9223372036854775807) (hr:∀ x ∈ zs,-9223372036854775808≤x∧x≤9223372036854775807) :
  Calls Try.prog 18 #[v] w (RetSrc w zs):=by
 obtain ⟨A,c,rfl,_,_⟩:=hs.form;have HR:=Lib.hid hr;clear hr;go_enter Try.func18,Try.ntmps18
 go_wp2;go_ret;exact ⟨_,rfl,(Below.refl _ _).alloc (Nat.le_refl _) _,Src.new hs hl HR.out⟩
def RetNext (w:World) (B g:Nat) (x:Int) (rest:List Int) (e:Ending) (w':World):Prop:=e=.returned (.int .i64 x)∧Only g w w'∧Src w' B 54 g rest
set_option maxHeartbeats 400000 in
theorem next_any (B g:Nat) (m:Int) (rest:List Int) (w:World) (hsrc:Src w B 54 g rest) (h0:0<m) (h1:m≤4294967296) :
  Calls Try.prog 23 #[.pointer (some ⟨g,0,none⟩),.int .i64 m] w (RetNext w B g (nxt m rest) rest.tail):=by
 obtain ⟨A,c,zs,i,w0,hb,hs,hB,hbel,hg,hi,rfl,hl,hr⟩:=hsrc;have HR:=Lib.hid hr;clear hr;obtain ⟨_,_,e,hc1,hc2⟩:=hs.form;injection e with e1 e2 e3
 subst e1;subst e3;clear e2;have c0:w.cell? ⟨g,0,none⟩=some (.slice A zs.length c):=hb.cell 0;have c1:w.cell? ⟨g,1,none⟩=some (.int .i64 i):=hb.cell 1;have f1:w.frozen? ⟨g,1,none⟩=false:=hb.frozen 1;have HB:=Lib.hid hB;clear hB;by_cases hlt:i<zs.length
 ·obtain ⟨ad,x,rfl,hx,hc⟩:=hs.int_at hlt;obtain ⟨ad',_,e,hbl,_⟩:=hs.at_ hlt;injection e with e
  subst e;have hc':w.cell? (ad.add i)=some (.int .i64 x):=(hbel.cell (p:=ad.add i) (by rw[block_of_add,←HB.out];exact hbl)).trans hc;have hd:zs.drop i=x::zs.drop (i+1):=by
   rw[List.drop_eq_getElem_cons hlt];congr 1;rw[List.getElem?_eq_getElem hlt]at hx;injection hx
  have HX:=Lib.hid (show nxt m (zs.drop i)=pick x m by rw[hd];rfl);have hne:ad.block≠g:=by have:=HB.out;omega
  have hgeq:decide ((zs.length:Int)≤(i:Int))=false:=by simp;omega
  clear hc hx hd;go_enter Try.func23,Try.ntmps23
  go_wp2_with fail
  go_quiet (fail)
  go_wp2_with fail
  obtain ⟨X,hX⟩:∃ X:World,X=(w.drewN nq).setCell ⟨g,1,none⟩ (.int .i64 ((i:Int)+1)):=⟨_,rfl⟩
  rw[←hX];have x0:X.cell? ⟨g,0,none⟩=some (.slice (some ad) zs.length c):=by rw[hX,World.cell?_setCell_other _ _ _ _ (by simp)];exact c0
  have x1:X.cell? ⟨g,1,none⟩=some (.int .i64 ((i:Int)+1)):=by
   rw[hX];exact ((hb.drewN nq).set_ 1 (.int .i64 ((i:Int)+1))).cell 1
  have x2:X.cell? (ad.add i)=some (.int .i64 x):=by rw[hX,World.cell?_setCell_other _ _ _ _ (by intro e;first | exact hne ((block_of_add ad i).symm.trans (congrArg Addr.block e)) | exact hne ((block_of_add ad i).symm.trans (congrArg Addr.block e).symm))];exact hc'
  have HS:=Lib.hid (show Src X B 54 g (zs.drop i).tail by rw[hX];exact Src.stepped (hb.drewN nq) hs HB.out (below_drewN hbel nq) hg hlt hl HR.out);have HO:=Lib.hid (show Only g w X by rw[hX];exact ((Only.refl g w).drewN nq).set_ _ _);have hk:(0:Int)≤(i:Int)+1 - 1:=by omega
  clear hX c0 c1 f1 hc' hb hbel hs;go_quiet ((go_at_call 5;exact Calls.quiet_of_same ((pick_any _ _ _ h0 h1).mono fun _ _ h=>⟨h.1,h.2.symm⟩)))
  go_wp2;go_ret;exact ⟨ret_int HX.out.symm,HO.out.drewN _,HS.out.drewN _⟩
 ·have hd:zs.drop i=[]:=List.drop_eq_nil_of_le (by omega);have HS:=Lib.hid (show Src w B 54 g (zs.drop i) from ⟨A,c,zs,i,w0,hb,hs,HB.out,hbel,hg,hi,rfl,hl,HR.out⟩);have HD:=Lib.hid hd;clear hd hb hs hbel;go_enter Try.func23,Try.ntmps23
  go_wp2_with fail
  go_quiet (fail)
  go_wp2;go_ret;refine ⟨ret_int (by rw[HD.out];rfl),(Only.refl g w).drewN _,?_⟩
  rw[HD.out];have:=HS.out.drewN nq
  rw[HD.out]at this;exact this
set_option maxHeartbeats 400000 in
theorem raw_any (B g:Nat) (rest:List Int) (w:World) (hsrc:Src w B 54 g rest) :
  Calls Try.prog 24 #[.pointer (some ⟨g,0,none⟩)] w (RetNext w B g (raw rest) rest.tail):=by
 obtain ⟨A,c,zs,i,w0,hb,hs,hB,hbel,hg,hi,rfl,hl,hr⟩:=hsrc;have HR:=Lib.hid hr;clear hr;obtain ⟨_,_,e,hc1,hc2⟩:=hs.form;injection e with e1 e2 e3
 subst e1;subst e3;clear e2;have c0:w.cell? ⟨g,0,none⟩=some (.slice A zs.length c):=hb.cell 0;have c1:w.cell? ⟨g,1,none⟩=some (.int .i64 i):=hb.cell 1;have f1:w.frozen? ⟨g,1,none⟩=false:=hb.frozen 1;have HB:=Lib.hid hB;clear hB;by_cases hlt:i<zs.length
 ·obtain ⟨ad,x,rfl,hx,hc⟩:=hs.int_at hlt;obtain ⟨ad',_,e,hbl,_⟩:=hs.at_ hlt;injection e with e
  subst e;have hc':w.cell? (ad.add i)=some (.int .i64 x):=(hbel.cell (p:=ad.add i) (by rw[block_of_add,←HB.out];exact hbl)).trans hc;have hd:zs.drop i=x::zs.drop (i+1):=by
   rw[List.drop_eq_getElem_cons hlt];congr 1;rw[List.getElem?_eq_getElem hlt]at hx;injection hx
  have HX:=Lib.hid (show raw (zs.drop i)=x by rw[hd];rfl);have hne:ad.block≠g:=by have:=HB.out;omega
  have hgeq:decide ((zs.length:Int)≤(i:Int))=false:=by simp;omega
  clear hc hx hd;go_enter Try.func24,Try.ntmps24
  go_wp2_with fail
  go_quiet (fail)
  go_wp2_with fail
  obtain ⟨X,hX⟩:∃ X:World,X=(w.drewN nq).setCell ⟨g,1,none⟩ (.int .i64 ((i:Int)+1)):=⟨_,rfl⟩
  rw[←hX];have x0:X.cell? ⟨g,0,none⟩=some (.slice (some ad) zs.length c):=by rw[hX,World.cell?_setCell_other _ _ _ _ (by simp)];exact c0
  have x1:X.cell? ⟨g,1,none⟩=some (.int .i64 ((i:Int)+1)):=by
   rw[hX];exact ((hb.drewN nq).set_ 1 (.int .i64 ((i:Int)+1))).cell 1
  have x2:X.cell? (ad.add i)=some (.int .i64 x):=by rw[hX,World.cell?_setCell_other _ _ _ _ (by intro e;first | exact hne ((block_of_add ad i).symm.trans (congrArg Addr.block e)) | exact hne ((block_of_add ad i).symm.trans (congrArg Addr.block e).symm))];exact hc'
  have HS:=Lib.hid (show Src X B 54 g (zs.drop i).tail by rw[hX];exact Src.stepped (hb.drewN nq) hs HB.out (below_drewN hbel nq) hg hlt hl HR.out);have HO:=Lib.hid (show Only g w X by rw[hX];exact ((Only.refl g w).drewN nq).set_ _ _);have hk:(0:Int)≤(i:Int)+1 - 1:=by omega
  clear hX c0 c1 f1 hc' hb hbel hs;go_quiet (fail)
  go_wp2;go_ret;exact ⟨ret_int HX.out.symm,HO.out.drewN _,HS.out.drewN _⟩
 ·have hd:zs.drop i=[]:=List.drop_eq_nil_of_le (by omega);have HS:=Lib.hid (show Src w B 54 g (zs.drop i) from ⟨A,c,zs,i,w0,hb,hs,HB.out,hbel,hg,hi,rfl,hl,HR.out⟩);have HD:=Lib.hid hd;clear hd hb hs hbel;go_enter Try.func24,Try.ntmps24
  go_wp2_with fail
  go_quiet (fail)
  go_wp2;go_ret;refine ⟨ret_int (by rw[HD.out];rfl),(Only.refl g w).drewN _,?_⟩
  rw[HD.out];have:=HS.out.drewN nq
  rw[HD.out]at this;exact this
end Go.Proofs.Ytncnhcmkhgfodaa
