/-
 The contract of keep.value: it draws a valid value of a column.
-/
import Derived.Test.YtncnhcmkhgfodaaSrc
import Derived.Test.YtncnhcmkhgfodaaM2
import Derived.Deep.DeepCutAuto
import Derived.Deep.CutBlock
import Derived.Laws.BytesArg
namespace Go.Proofs.Ytncnhcmkhgfodaa
open Go.RowKit
def ValOk (t:Int) (cn b:Bool) (n:Int) (s:ByteArray):Prop :=
 (b=true→cn=true∧n=0∧s.size=0)∧(b=false→(t=3→n=0∧s.size≤3)∧(t≠3→s.size=0)∧(t=2→n=0∨n=1)∧(t=4→-700000<n∧n<700000)∧(t=5→-999999999999999999≤n∧n≤999999999999999999))∧-9223372036854775808≤n∧n≤9223372036854775807
theorem tm_bd (z m:Int) (hm:0<m):-m<z.tmod m∧z.tmod m<m:=by
 rcases Int.le_total 0 z with h|h
 ·rw[Int.tmod_eq_emod_of_nonneg h];have:=Int.emod_nonneg z (show m≠0 by omega)
  have:=Int.emod_lt_of_pos z hm
  omega
 ·obtain ⟨y,rfl⟩:∃ y,z=-y:=⟨-z,by omega⟩
  rw[Int.neg_tmod,Int.tmod_eq_emod_of_nonneg (by omega)];have:=Int.emod_nonneg y (show m≠0 by omega)
  have:=Int.emod_lt_of_pos y hm
  omega
theorem and1 (n:Int):bits .and .i64 n 1=0∨bits .and .i64 n 1=1:=by
 have h:(BitVec.ofInt 64 n &&& BitVec.ofInt 64 1).toNat≤1:=by
  rw[BitVec.toNat_and];exact Nat.le_trans Nat.and_le_right (by decide)
 show IntKind.i64.wrap ((BitVec.ofInt 64 n &&& BitVec.ofInt 64 1).toNat:Int)=0∨IntKind.i64.wrap ((BitVec.ofInt 64 n &&& BitVec.ofInt 64 1).toNat:Int)=1
 rw[IntKind.wrap_i64];omega
theorem store3 {w wc:World} {B g R:Nat} {t ts:TypeId} {r:List Int} {a b c:Value} (x y z:Value) (hb:Blk wc R t #[a,b,c]) (ho:Only g w wc) (hs:Src wc B ts g r) (hR:w.heap.size≤R) (hg:g<w.heap.size) :
  ∃ X,X=((wc.setCell ⟨R,0,none⟩ x).setCell ⟨R,1,none⟩ y).setCell ⟨R,2,none⟩ z∧X.cell? ⟨R,0,none⟩=some x∧X.cell? ⟨R,1,none⟩=some y∧X.cell? ⟨R,2,none⟩=some z∧Only g w X∧Src X B ts g r:=by
 have h3:=((hb.set_ 0 x).set_ 1 y).set_ 2 z;have hB:=hs.ge;refine ⟨_,rfl,(h3.cell 0).trans (by simp),(h3.cell 1).trans (by simp),(h3.cell 2).trans (by simp),((ho.setNew hR x).setNew hR y).setNew hR z,((hs.set_ (p:=⟨R,0,none⟩) (by simp;omega) (by simp;omega) x).set_ (p:=⟨R,1,none⟩) (by simp;omega) (by simp;omega) y).set_ (p:=⟨R,2,none⟩) (by simp;omega) (by simp;omega) z⟩
def RetVal (w:World) (B g:Nat) (t:Int) (cn:Bool) (e:Ending) (w':World):Prop :=
 ∃ (b:Bool) (n:Int) (s:ByteArray) (rest:List Int),e=.returned (.agg #[.bool b,.int .i64 n,.string s])∧ValOk t cn b n s∧Only g w w'∧Src w' B 54 g rest
set_option maxRecDepth 100000 in
set_option maxHeartbeats 2000000 in
theorem value_any (B g:Nat) (cs:ByteArray) (t k:Int) (cn:Bool) (rest:List Int) (w:World) (hsrc:Src w B 54 g rest) (ht1:1≤t) (ht2:t≤5) :
  Calls Try.prog 17 #[.pointer (some ⟨g,0,none⟩),.agg #[.string cs,.int .i64 t,.int .i64 k,.bool cn]] w (RetVal w B g t cn):=by
 have hgw:=hsrc.lt;obtain ⟨W,hW⟩:∃ W,W=(w.alloc (.cells #[.string cs,.int .i64 t,.int .i64 k,.bool cn] 34)).alloc (.cells #[.bool false,.int .i64 0,.string { data:=#[] }] 25):=⟨_,rfl⟩
 have hs1:Src W B 54 g rest:=by rw[hW];exact (hsrc.alloc _).alloc _
 have b1:Blk W w.heap.size 34 #[.string cs,.int .i64 t,.int .i64 k,.bool cn]:=by rw[hW];exact (Blk.new _ _ _).alloc _
 have b2:Blk W (w.heap.size+1) 25 #[.bool false,.int .i64 0,.string { data:=#[] }]:=by rw[hW];have:=Blk.new (w.alloc (.cells #[.string cs,.int .i64 t,.int .i64 k,.bool cn] 34)) 25 #[.bool false,.int .i64 0,.string { data:=#[] }];simpa using this
 have o1:Only g w W:=by rw[hW];exact ((Only.refl g w).alloc _).alloc _
 have hc3:W.cell? ⟨w.heap.size,3,none⟩=some (.bool cn):=b1.cell 3;cases cn
 ·go_enter Try.func17,Try.ntmps17
  go_wp2_with fail
  rw[←hW];clear hW hsrc hc3;refine (next_any B g 7 rest W hs1 (by omega) (by omega)).mono ?_;rintro e w1 ⟨rfl,ho,hs2⟩;have n1:=nxt_lo 7 rest (by omega);have n2:=nxt_hi 7 rest (by omega);obtain ⟨x,hx⟩:∃ x,nxt 7 rest=x:=⟨_,rfl⟩
  rw[hx]at n1 n2 ⊢;clear hx hs1;replace b1:=b1.grown ho (by simp;omega)
  replace b2:=b2.grown ho (by simp;omega)
  replace o1:=o1.trans ho
  clear ho;go_wp2_with fail
  refine (next_any B g 8 _ w1 hs2 (by omega) (by omega)).mono ?_;rintro e w2 ⟨rfl,ho,hs3⟩;have m1:=nxt_lo 8 rest.tail (by omega);have m2:=nxt_hi 8 rest.tail (by omega);obtain ⟨y,hy⟩:∃ y,nxt 8 rest.tail=y:=⟨_,rfl⟩
  rw[hy]at m1 m2 ⊢;clear hy hs2;replace b1:=b1.grown ho (by simp;omega)
  replace b2:=b2.grown ho (by simp;omega)
  replace o1:=o1.trans ho
  clear ho;go_upto_block 0 with (fail)
  go_cut [5] (fun s5 wx=>∃ (n:Int) (rest':List Int),s5=.int .i64 n∧-9223372036854775808≤n∧n≤9223372036854775807∧Blk wx w.heap.size 34 #[.string cs,.int .i64 t,.int .i64 k,.bool false]∧Blk wx (w.heap.size+1) 25 #[.bool false,.int .i64 0,.string { data:=#[] }]∧Only g w wx∧Src wx B 54 g rest')
  case first =>
   have rb:=hs3.raw_bd;rcases (show y=0∨y=1∨(y≠0∧y≠1) from by omega) with hy|hy|⟨hy,hy1⟩
   ·subst hy;go_wp2_with fail
    refine (raw_any B g _ w2 hs3).mono ?_;rintro e w3 ⟨rfl,ho,hs4⟩;obtain ⟨z,hz⟩:∃ z,raw rest.tail.tail=z:=⟨_,rfl⟩
    rw[hz]at rb ⊢;clear hz;go_wp2;go_meet
    exact ⟨z,_,rfl,rb.1,rb.2,b1.grown ho (by simp;omega),b2.grown ho (by simp;omega),o1.trans ho,hs4⟩
   ·subst hy;go_wp2_with fail
    refine (raw_any B g _ w2 hs3).mono ?_;rintro e w3 ⟨rfl,ho,hs4⟩;obtain ⟨z,hz⟩:∃ z,raw rest.tail.tail=z:=⟨_,rfl⟩
    rw[hz]at rb ⊢;clear hz;have htm:=tm_bd z 1000 (by omega);go_wp2;go_meet
    exact ⟨z.tmod 1000,_,rfl,by omega,by omega,b1.grown ho (by simp;omega),b2.grown ho (by simp;omega),o1.trans ho,hs4⟩
   ·have q0:(y==0)=false:=by simpa using hy
    have q1:(y==1)=false:=by simpa using hy1
    clear hy hy1;go_wp2;go_meet
    exact ⟨x - 2,_,rfl,by omega,by omega,b1,b2,o1,hs3⟩
  case rest =>
   obtain ⟨n,r4,rfl,hn1,hn2,b3,b4,o4,hs4⟩:=hcut;have ht1':wc.cell? ⟨w.heap.size,1,none⟩=some (.int .i64 t):=b3.cell 1;have c0:wc.cell? ⟨w.heap.size+1,0,none⟩=some (.bool false):=b4.cell 0;have c1:wc.cell? ⟨w.heap.size+1,1,none⟩=some (.int .i64 0):=b4.cell 1;have c2:wc.cell? ⟨w.heap.size+1,2,none⟩=some (.string { data:=#[] }):=b4.cell 2;have f0:=b4.frozen 0;have f1:=b4.frozen 1;have f2:=b4.frozen 2;rcases (show t=1∨t=2∨t=3∨t=4∨t=5 from by omega) with rfl|rfl|rfl|rfl|rfl
   ·go_wp2;obtain ⟨X,hX,q0,q1,q2,oX,sX⟩:=store3 (.bool false) (.int .i64 n) (.string { data:=#[] }) b4 o4 hs4 (by omega) hgw;rw[←hX];clear hX;exact bodyPost_ret (v:=.agg #[.bool false,.int .i64 n,.string { data:=#[] }]) (by simp[results,Try.results17,go_sem,q0,q1,q2]) rfl ⟨false,_,_,_,rfl,⟨by simp,fun _=>⟨fun h=>absurd h (by decide),fun _=>rfl,fun h=>absurd h (by decide),fun h=>absurd h (by decide),fun h=>absurd h (by decide)⟩,hn1,hn2⟩,oX,sX⟩
   ·have ha:=and1 n;go_wp2;obtain ⟨z,hz⟩:∃ z,bits .and .i64 n 1=z:=⟨_,rfl⟩
    rw[hz]at ha ⊢;clear hz;obtain ⟨X,hX,q0,q1,q2,oX,sX⟩:=store3 (.bool false) (.int .i64 z) (.string { data:=#[] }) b4 o4 hs4 (by omega) hgw;rw[←hX];clear hX;exact bodyPost_ret (v:=.agg #[.bool false,.int .i64 z,.string { data:=#[] }]) (by simp[results,Try.results17,go_sem,q0,q1,q2]) rfl ⟨false,_,_,_,rfl,⟨by simp,fun _=>⟨fun h=>absurd h (by decide),fun _=>rfl,fun _=>ha,fun h=>absurd h (by decide),fun h=>absurd h (by decide)⟩,by omega,by omega⟩,oX,sX⟩
   ·go_wp2_with fail
    refine (next_any B g 4 _ wc hs4 (by omega) (by omega)).mono ?_;rintro e w5 ⟨rfl,ho,hs5⟩;have k1:=nxt_lo 4 r4 (by omega);have k2:=nxt_hi 4 r4 (by omega);obtain ⟨m,hm⟩:∃ m:Nat,nxt 4 r4=m:=⟨(nxt 4 r4).toNat,by omega⟩
    rw[hm]at k1 k2 ⊢;clear hm;have b5:=b4.grown ho (by simp;omega);have o5:=o4.trans ho;clear ho c0 c1 c2 f0 f1 f2 b4 o4 hs4 b3 ht1' hs3 b2 o1;go_wp2_with fail
    go_loopw [6,7] (fun x q wr=>∃ (j:Nat) (u:ByteArray) (r:List Int),u.size+j≤3∧q=.int .i64 j∧x=.string u∧Blk wr (w.heap.size+1) 25 #[.bool false,.int .i64 0,.string { data:=#[] }]∧Only g w wr∧Src wr B 54 g r) (fun _ q _=>(intOf q).toNat)
    case atStart=>exact ⟨m,{ data:=#[] },_,by show 0+m≤3;omega,rfl,rfl,b5,o5,hs5⟩
    case round =>
     obtain ⟨j,u,r,hj,rfl,rfl,b6,o6,hs6⟩:=hrel;rcases Nat.eq_zero_or_pos j with h0|h0
     ·subst h0;have c0:wr.cell? ⟨w.heap.size+1,0,none⟩=some (.bool false):=b6.cell 0;have c1:wr.cell? ⟨w.heap.size+1,1,none⟩=some (.int .i64 0):=b6.cell 1;have c2:wr.cell? ⟨w.heap.size+1,2,none⟩=some (.string { data:=#[] }):=b6.cell 2;have f0:=b6.frozen 0;have f1:=b6.frozen 1;have f2:=b6.frozen 2;go_wp2;obtain ⟨X,hX,q0,q1,q2,oX,sX⟩:=store3 (.bool false) (.int .i64 0) (.string u) b6 o6 hs6 (by omega) hgw;rw[←hX];clear hX;exact bodyPost_ret (v:=.agg #[.bool false,.int .i64 0,.string u]) (by simp[results,Try.results17,go_sem,q0,q1,q2]) rfl ⟨false,_,_,_,rfl,⟨by simp,fun _=>⟨fun _=>⟨rfl,by omega⟩,fun h=>absurd rfl h,fun h=>absurd h (by decide),fun h=>absurd h (by decide),fun h=>absurd h (by decide)⟩,by omega,by omega⟩,oX,sX⟩
     ·obtain ⟨i,rfl⟩:∃ i,j=i+1:=⟨j - 1,by omega⟩
      go_wp2_with fail
      refine (next_any B g 3 _ wr hs6 (by omega) (by omega)).mono ?_;rintro e w7 ⟨rfl,ho,hs7⟩;have v1:=nxt_lo 3 r (by omega);have v2:=nxt_hi 3 r (by omega);obtain ⟨z,hz⟩:∃ z,nxt 3 r=z:=⟨_,rfl⟩
      rw[hz]at v1 v2 ⊢;clear hz;have b7:=b6.grown ho (by simp;omega);have o7:=o6.trans ho;have hcv:=run_convert_bytes_arg (P:=Try.prog) (w7.alloc (.cells #[.int .u8 (97+z)] 5)) 22 5 Try.underlying22 Try.underlying5 w7.heap.size 0 1 1 [97+z] rfl (by
       intro i hi
       obtain rfl:i=0:=by omega
       simp)
      have hsz:(strOfNums [97+z]).size=1:=by rw[strOfNums_size];rfl
      clear ho hs6 b6 o6;go_wp2;go_roundw
      case rel=>exact ⟨i,_,_,by rw[ByteArray.size_append,hsz];omega,by go_num,rfl,b7.alloc _,o7.alloc _,hs7.alloc _⟩
      case measure=>simp only[intOf];omega
   ·have htm:=tm_bd n 700000 (by omega);go_wp2;obtain ⟨X,hX,q0,q1,q2,oX,sX⟩:=store3 (.bool false) (.int .i64 (n.tmod 700000)) (.string { data:=#[] }) b4 o4 hs4 (by omega) hgw;rw[←hX];clear hX;exact bodyPost_ret (v:=.agg #[.bool false,.int .i64 (n.tmod 700000),.string { data:=#[] }]) (by simp[results,Try.results17,go_sem,q0,q1,q2]) rfl ⟨false,_,_,_,rfl,⟨by simp,fun _=>⟨fun h=>absurd h (by decide),fun _=>rfl,fun h=>absurd h (by decide),fun _=>by omega,fun h=>absurd h (by decide)⟩,by omega,by omega⟩,oX,sX⟩
   ·have htm:=tm_bd n 1000000000000000000 (by omega);go_wp2;obtain ⟨X,hX,q0,q1,q2,oX,sX⟩:=store3 (.bool false) (.int .i64 (n.tmod 1000000000000000000)) (.string { data:=#[] }) b4 o4 hs4 (by omega) hgw;rw[←hX];clear hX;exact bodyPost_ret (v:=.agg #[.bool false,.int .i64 (n.tmod 1000000000000000000),.string { data:=#[] }]) (by simp[results,Try.results17,go_sem,q0,q1,q2]) rfl ⟨false,_,_,_,rfl,⟨by simp,fun _=>⟨fun h=>absurd h (by decide),fun _=>rfl,fun h=>absurd h (by decide),fun h=>absurd h (by decide),fun _=>by omega⟩,by omega,by omega⟩,oX,sX⟩
 ·go_enter Try.func17,Try.ntmps17
  go_wp2_with fail
  rw[←hW];clear hW hsrc hc3;refine (next_any B g 4 rest W hs1 (by omega) (by omega)).mono ?_;rintro e V ⟨rfl,ho,hsv⟩;have z1:=nxt_lo 4 rest (by omega);obtain ⟨a,ha⟩:∃ a,nxt 4 rest=a:=⟨_,rfl⟩
  rw[ha]at z1 ⊢;clear ha hs1;replace b1:=b1.grown ho (by simp;omega)
  replace b2:=b2.grown ho (by simp;omega)
  replace o1:=o1.trans ho
  clear ho;by_cases ha:a=0
  ·have ha':(a==0)=true:=by simpa using ha
   have c0:V.cell? ⟨w.heap.size+1,0,none⟩=some (.bool false):=b2.cell 0;have c1:V.cell? ⟨w.heap.size+1,1,none⟩=some (.int .i64 0):=b2.cell 1;have c2:V.cell? ⟨w.heap.size+1,2,none⟩=some (.string { data:=#[] }):=b2.cell 2;have f0:=b2.frozen 0;have f1:=b2.frozen 1;have f2:=b2.frozen 2;clear ha;go_wp2;obtain ⟨X,hX,q0,q1,q2,oX,sX⟩:=store3 (.bool true) (.int .i64 0) (.string { data:=#[] }) b2 o1 hsv (by omega) hgw;rw[←hX];clear hX;exact bodyPost_ret (v:=.agg #[.bool true,.int .i64 0,.string { data:=#[] }]) (by simp[results,Try.results17,go_sem,q0,q1,q2]) rfl ⟨true,_,_,_,rfl,⟨fun _=>⟨rfl,rfl,rfl⟩,fun h=>by simp at h,by omega,by omega⟩,oX,sX⟩
  ·have ha':(a==0)=false:=by simpa using ha
   have hs1:=hsv;clear ha hsv;go_wp2_with fail
   refine (next_any B g 7 rest.tail V hs1 (by omega) (by omega)).mono ?_;rintro e w1 ⟨rfl,ho,hs2⟩;have n1:=nxt_lo 7 rest.tail (by omega);have n2:=nxt_hi 7 rest.tail (by omega);obtain ⟨x,hx⟩:∃ x,nxt 7 rest.tail=x:=⟨_,rfl⟩
   rw[hx]at n1 n2 ⊢;clear hx hs1;replace b1:=b1.grown ho (by simp;omega)
   replace b2:=b2.grown ho (by simp;omega)
   replace o1:=o1.trans ho
   clear ho;go_wp2_with fail
   refine (next_any B g 8 _ w1 hs2 (by omega) (by omega)).mono ?_;rintro e w2 ⟨rfl,ho,hs3⟩;have m1:=nxt_lo 8 rest.tail.tail (by omega);have m2:=nxt_hi 8 rest.tail.tail (by omega);obtain ⟨y,hy⟩:∃ y,nxt 8 rest.tail.tail=y:=⟨_,rfl⟩
   rw[hy]at m1 m2 ⊢;clear hy hs2;replace b1:=b1.grown ho (by simp;omega)
   replace b2:=b2.grown ho (by simp;omega)
   replace o1:=o1.trans ho
   clear ho;go_upto_block 0 with (fail)
   go_cut [5] (fun s5 wx=>∃ (n:Int) (rest':List Int),s5=.int .i64 n∧-9223372036854775808≤n∧n≤9223372036854775807∧Blk wx w.heap.size 34 #[.string cs,.int .i64 t,.int .i64 k,.bool true]∧Blk wx (w.heap.size+1) 25 #[.bool false,.int .i64 0,.string { data:=#[] }]∧Only g w wx∧Src wx B 54 g rest')
   case first =>
    have rb:=hs3.raw_bd;rcases (show y=0∨y=1∨(y≠0∧y≠1) from by omega) with hy|hy|⟨hy,hy1⟩
    ·subst hy;go_wp2_with fail
     refine (raw_any B g _ w2 hs3).mono ?_;rintro e w3 ⟨rfl,ho,hs4⟩;obtain ⟨z,hz⟩:∃ z,raw rest.tail.tail.tail=z:=⟨_,rfl⟩
     rw[hz]at rb ⊢;clear hz;go_wp2;go_meet
     exact ⟨z,_,rfl,rb.1,rb.2,b1.grown ho (by simp;omega),b2.grown ho (by simp;omega),o1.trans ho,hs4⟩
    ·subst hy;go_wp2_with fail
     refine (raw_any B g _ w2 hs3).mono ?_;rintro e w3 ⟨rfl,ho,hs4⟩;obtain ⟨z,hz⟩:∃ z,raw rest.tail.tail.tail=z:=⟨_,rfl⟩
     rw[hz]at rb ⊢;clear hz;have htm:=tm_bd z 1000 (by omega);go_wp2;go_meet
     exact ⟨z.tmod 1000,_,rfl,by omega,by omega,b1.grown ho (by simp;omega),b2.grown ho (by simp;omega),o1.trans ho,hs4⟩
    ·have q0:(y==0)=false:=by simpa using hy
     have q1:(y==1)=false:=by simpa using hy1
     clear hy hy1;go_wp2;go_meet
     exact ⟨x - 2,_,rfl,by omega,by omega,b1,b2,o1,hs3⟩
   case rest =>
    obtain ⟨n,r4,rfl,hn1,hn2,b3,b4,o4,hs4⟩:=hcut;have ht1':wc.cell? ⟨w.heap.size,1,none⟩=some (.int .i64 t):=b3.cell 1;have c0:wc.cell? ⟨w.heap.size+1,0,none⟩=some (.bool false):=b4.cell 0;have c1:wc.cell? ⟨w.heap.size+1,1,none⟩=some (.int .i64 0):=b4.cell 1;have c2:wc.cell? ⟨w.heap.size+1,2,none⟩=some (.string { data:=#[] }):=b4.cell 2;have f0:=b4.frozen 0;have f1:=b4.frozen 1;have f2:=b4.frozen 2;rcases (show t=1∨t=2∨t=3∨t=4∨t=5 from by omega) with rfl|rfl|rfl|rfl|rfl
    ·go_wp2;obtain ⟨X,hX,q0,q1,q2,oX,sX⟩:=store3 (.bool false) (.int .i64 n) (.string { data:=#[] }) b4 o4 hs4 (by omega) hgw;rw[←hX];clear hX;exact bodyPost_ret (v:=.agg #[.bool false,.int .i64 n,.string { data:=#[] }]) (by simp[results,Try.results17,go_sem,q0,q1,q2]) rfl ⟨false,_,_,_,rfl,⟨by simp,fun _=>⟨fun h=>absurd h (by decide),fun _=>rfl,fun h=>absurd h (by decide),fun h=>absurd h (by decide),fun h=>absurd h (by decide)⟩,hn1,hn2⟩,oX,sX⟩
    ·have ha:=and1 n;go_wp2;obtain ⟨z,hz⟩:∃ z,bits .and .i64 n 1=z:=⟨_,rfl⟩
     rw[hz]at ha ⊢;clear hz;obtain ⟨X,hX,q0,q1,q2,oX,sX⟩:=store3 (.bool false) (.int .i64 z) (.string { data:=#[] }) b4 o4 hs4 (by omega) hgw;rw[←hX];clear hX;exact bodyPost_ret (v:=.agg #[.bool false,.int .i64 z,.string { data:=#[] }]) (by simp[results,Try.results17,go_sem,q0,q1,q2]) rfl ⟨false,_,_,_,rfl,⟨by simp,fun _=>⟨fun h=>absurd h (by decide),fun _=>rfl,fun _=>ha,fun h=>absurd h (by decide),fun h=>absurd h (by decide)⟩,by omega,by omega⟩,oX,sX⟩
    ·go_wp2_with fail
     refine (next_any B g 4 _ wc hs4 (by omega) (by omega)).mono ?_;rintro e w5 ⟨rfl,ho,hs5⟩;have k1:=nxt_lo 4 r4 (by omega);have k2:=nxt_hi 4 r4 (by omega);obtain ⟨m,hm⟩:∃ m:Nat,nxt 4 r4=m:=⟨(nxt 4 r4).toNat,by omega⟩
     rw[hm]at k1 k2 ⊢;clear hm;have b5:=b4.grown ho (by simp;omega);have o5:=o4.trans ho;clear ho c0 c1 c2 f0 f1 f2 b4 o4 hs4 b3 ht1' hs3 b2 o1;go_wp2_with fail
     go_loopw [6,7] (fun x q wr=>∃ (j:Nat) (u:ByteArray) (r:List Int),u.size+j≤3∧q=.int .i64 j∧x=.string u∧Blk wr (w.heap.size+1) 25 #[.bool false,.int .i64 0,.string { data:=#[] }]∧Only g w wr∧Src wr B 54 g r) (fun _ q _=>(intOf q).toNat)
     case atStart=>exact ⟨m,{ data:=#[] },_,by show 0+m≤3;omega,rfl,rfl,b5,o5,hs5⟩
     case round =>
      obtain ⟨j,u,r,hj,rfl,rfl,b6,o6,hs6⟩:=hrel;rcases Nat.eq_zero_or_pos j with h0|h0
      ·subst h0;have c0:wr.cell? ⟨w.heap.size+1,0,none⟩=some (.bool false):=b6.cell 0;have c1:wr.cell? ⟨w.heap.size+1,1,none⟩=some (.int .i64 0):=b6.cell 1;have c2:wr.cell? ⟨w.heap.size+1,2,none⟩=some (.string { data:=#[] }):=b6.cell 2;have f0:=b6.frozen 0;have f1:=b6.frozen 1;have f2:=b6.frozen 2;go_wp2;obtain ⟨X,hX,q0,q1,q2,oX,sX⟩:=store3 (.bool false) (.int .i64 0) (.string u) b6 o6 hs6 (by omega) hgw;rw[←hX];clear hX;exact bodyPost_ret (v:=.agg #[.bool false,.int .i64 0,.string u]) (by simp[results,Try.results17,go_sem,q0,q1,q2]) rfl ⟨false,_,_,_,rfl,⟨by simp,fun _=>⟨fun _=>⟨rfl,by omega⟩,fun h=>absurd rfl h,fun h=>absurd h (by decide),fun h=>absurd h (by decide),fun h=>absurd h (by decide)⟩,by omega,by omega⟩,oX,sX⟩
      ·obtain ⟨i,rfl⟩:∃ i,j=i+1:=⟨j - 1,by omega⟩
       go_wp2_with fail
       refine (next_any B g 3 _ wr hs6 (by omega) (by omega)).mono ?_;rintro e w7 ⟨rfl,ho,hs7⟩;have v1:=nxt_lo 3 r (by omega);have v2:=nxt_hi 3 r (by omega);obtain ⟨z,hz⟩:∃ z,nxt 3 r=z:=⟨_,rfl⟩
       rw[hz]at v1 v2 ⊢;clear hz;have b7:=b6.grown ho (by simp;omega);have o7:=o6.trans ho;have hcv:=run_convert_bytes_arg (P:=Try.prog) (w7.alloc (.cells #[.int .u8 (97+z)] 5)) 22 5 Try.underlying22 Try.underlying5 w7.heap.size 0 1 1 [97+z] rfl (by
        intro i hi
        obtain rfl:i=0:=by omega
        simp)
       have hsz:(strOfNums [97+z]).size=1:=by rw[strOfNums_size];rfl
       clear ho hs6 b6 o6;go_wp2;go_roundw
       case rel=>exact ⟨i,_,_,by rw[ByteArray.size_append,hsz];omega,by go_num,rfl,b7.alloc _,o7.alloc _,hs7.alloc _⟩
       case measure=>simp only[intOf];omega
    ·have htm:=tm_bd n 700000 (by omega);go_wp2;obtain ⟨X,hX,q0,q1,q2,oX,sX⟩:=store3 (.bool false) (.int .i64 (n.tmod 700000)) (.string { data:=#[] }) b4 o4 hs4 (by omega) hgw;rw[←hX];clear hX;exact bodyPost_ret (v:=.agg #[.bool false,.int .i64 (n.tmod 700000),.string { data:=#[] }]) (by simp[results,Try.results17,go_sem,q0,q1,q2]) rfl ⟨false,_,_,_,rfl,⟨by simp,fun _=>⟨fun h=>absurd h (by decide),fun _=>rfl,fun h=>absurd h (by decide),fun _=>by omega,fun h=>absurd h (by decide)⟩,by omega,by omega⟩,oX,sX⟩
    ·have htm:=tm_bd n 1000000000000000000 (by omega);go_wp2;obtain ⟨X,hX,q0,q1,q2,oX,sX⟩:=store3 (.bool false) (.int .i64 (n.tmod 1000000000000000000)) (.string { data:=#[] }) b4 o4 hs4 (by omega) hgw;rw[←hX];clear hX;exact bodyPost_ret (v:=.agg #[.bool false,.int .i64 (n.tmod 1000000000000000000),.string { data:=#[] }]) (by simp[results,Try.results17,go_sem,q0,q1,q2]) rfl ⟨false,_,_,_,rfl,⟨by simp,fun _=>⟨fun h=>absurd h (by decide),fun _=>rfl,fun h=>absurd h (by decide),fun h=>absurd h (by decide),fun _=>by omega⟩,by omega,by omega⟩,oX,sX⟩
end Go.Proofs.Ytncnhcmkhgfodaa
