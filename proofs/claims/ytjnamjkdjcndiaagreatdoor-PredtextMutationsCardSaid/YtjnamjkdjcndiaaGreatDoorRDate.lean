/-
 The contract of ref1.ParseDate.
-/
import Derived.Test.YtjnamjkdjcndiaaGreatDoorM9
import Derived.Test.YtjnamjkdjcndiaaGreatDoorM5
import Derived.Test.YtjnamjkdjcndiaaGreatDoorM1
import Derived.Deep.DeepCutAuto
import Derived.Deep.CutBlock
namespace Go.Proofs.YtjnamjkdjcndiaaGreatDoor
open Go.RowKit Go.Sort
set_option linter.unusedVariables false
def pt (i:Nat):Nat:=if i≤4 then 0 else if i≤7 then 1 else 2
def vA (l:List UInt8) (i:Nat):Nat:=valN ((l.take 4).take i)
def vB (l:List UInt8) (i:Nat):Nat:=valN (((l.drop 5).take 2).take (i - 5))
def vC (l:List UInt8) (i:Nat):Nat:=valN ((l.drop 8).take (i - 8))
def okAt (l:List UInt8) (i:Nat):Bool:=if i=4∨i=7 then decide (l.getD i 0=45) else digB (l.getD i 0)
def OkD (l:List UInt8) (i:Nat):Prop:=∀ j:Nat,j<i→okAt l j=true
theorem OkD.next {l:List UInt8} {i:Nat} (h:OkD l i) (hi:okAt l i=true):OkD l (i+1):=fun j hj=>by
 by_cases e:j=i
 ·subst e;exact hi
 ·exact h j (by omega)
theorem list10 {l:List UInt8} (h:l.length=10):∃ c0 c1 c2 c3 c4 c5 c6 c7 c8 c9,l=[c0,c1,c2,c3,c4,c5,c6,c7,c8,c9]:=by
 match l,h with
 | [c0,c1,c2,c3,c4,c5,c6,c7,c8,c9],_=>exact ⟨_,_,_,_,_,_,_,_,_,_,rfl⟩
theorem lt10 {i:Nat} (h:i<10):i=0∨i=1∨i=2∨i=3∨i=4∨i=5∨i=6∨i=7∨i=8∨i=9:=by omega
theorem step_dash {l:List UInt8} (h:l.length=10) {i:Nat} (hi:i=4∨i=7):pt (i+1)=pt i+1∧vA l (i+1)=vA l i∧vB l (i+1)=vB l i∧vC l (i+1)=vC l i:=by
 obtain ⟨c0,c1,c2,c3,c4,c5,c6,c7,c8,c9,rfl⟩:=list10 h;rcases hi with rfl|rfl <;> exact ⟨rfl,rfl,rfl,rfl⟩
theorem step_dig {l:List UInt8} (h:l.length=10) {i:Nat} (hi:i<10) (h4:i≠4) (h7:i≠7):pt (i+1)=pt i ∧
  ((pt i=0∧vA l (i+1)=vA l i * 10+((l.getD i 0).toNat - 48)∧vB l (i+1)=vB l i∧vC l (i+1)=vC l i) ∨
   (pt i=1∧vA l (i+1)=vA l i∧vB l (i+1)=vB l i * 10+((l.getD i 0).toNat - 48)∧vC l (i+1)=vC l i) ∨
   (pt i=2∧vA l (i+1)=vA l i∧vB l (i+1)=vB l i∧vC l (i+1)=vC l i * 10+((l.getD i 0).toNat - 48))):=by
 obtain ⟨c0,c1,c2,c3,c4,c5,c6,c7,c8,c9,rfl⟩:=list10 h;rcases lt10 hi with rfl|rfl|rfl|rfl|rfl|rfl|rfl|rfl|rfl|rfl
 ·exact ⟨rfl,.inl ⟨rfl,rfl,rfl,rfl⟩⟩
 ·exact ⟨rfl,.inl ⟨rfl,rfl,rfl,rfl⟩⟩
 ·exact ⟨rfl,.inl ⟨rfl,rfl,rfl,rfl⟩⟩
 ·exact ⟨rfl,.inl ⟨rfl,rfl,rfl,rfl⟩⟩
 ·exact absurd rfl h4
 ·exact ⟨rfl,.inr (.inl ⟨rfl,rfl,rfl,rfl⟩)⟩
 ·exact ⟨rfl,.inr (.inl ⟨rfl,rfl,rfl,rfl⟩)⟩
 ·exact absurd rfl h7
 ·exact ⟨rfl,.inr (.inr ⟨rfl,rfl,rfl,rfl⟩)⟩
 ·exact ⟨rfl,.inr (.inr ⟨rfl,rfl,rfl,rfl⟩)⟩
theorem okd_dig {l:List UInt8} {j:Nat} (h4:j≠4) (h7:j≠7) (h:okAt l j=true):digB (l.getD j 0)=true:=by
 unfold okAt at h;rw[if_neg (by omega)]at h;exact h
theorem okd_pie {l:List UInt8} (hl:l.length=10) (h:OkD l 10):(pieY l).all digB=true∧(pieM l).all digB=true∧(pieD l).all digB=true∧¬(l.length≠10∨l.getD 4 0≠45∨l.getD 7 0≠45):=by
 have d:=fun (j:Nat) (hj:j<10) (h4:j≠4) (h7:j≠7)=>okd_dig h4 h7 (h j hj)
 have e4:=h 4 (by omega);have e7:=h 7 (by omega);obtain ⟨c0,c1,c2,c3,c4,c5,c6,c7,c8,c9,rfl⟩:=list10 hl;have x0:digB c0=true:=d 0 (by omega) (by omega) (by omega);have x1:digB c1=true:=d 1 (by omega) (by omega) (by omega);have x2:digB c2=true:=d 2 (by omega) (by omega) (by omega);have x3:digB c3=true:=d 3 (by omega) (by omega) (by omega);have x5:digB c5=true:=d 5 (by omega) (by omega) (by omega);have x6:digB c6=true:=d 6 (by omega) (by omega) (by omega);have x8:digB c8=true:=d 8 (by omega) (by omega) (by omega);have x9:digB c9=true:=d 9 (by omega) (by omega) (by omega);have y4:c4=45:=by have:decide (c4=45)=true:=e4;simpa using this
 have y7:c7=45:=by have:decide (c7=45)=true:=e7;simpa using this
 refine ⟨by simp[pieY,x0,x1,x2,x3],by simp[pieM,x5,x6],by simp[pieD,x8,x9],?_⟩
 rintro (h|h|h)
 ·exact h rfl
 ·exact h y4
 ·exact h y7
theorem okd_end {l:List UInt8} (hl:l.length=10) (h:OkD l 10):dparV l=daysV (vA l 10) (vB l 10) (vC l 10):=by
 obtain ⟨a,b,c,d⟩:=okd_pie hl h;rw[dpar_ok d a b c];obtain ⟨c0,c1,c2,c3,c4,c5,c6,c7,c8,c9,rfl⟩:=list10 hl;rfl
theorem okd_bad {l:List UInt8} (hl:l.length=10) {i:Nat} (hi:i<10) (h:okAt l i=false):dparV l=(0,2):=by
 by_cases h47:i=4∨i=7
 ·unfold okAt at h
  rw[if_pos h47,decide_eq_false_iff_not]at h;rcases h47 with rfl|rfl
  ·exact dpar_len (.inr (.inl h))
  ·exact dpar_len (.inr (.inr h))
 ·unfold okAt at h
  rw[if_neg h47]at h;refine dpar_dig ?_
  obtain ⟨c0,c1,c2,c3,c4,c5,c6,c7,c8,c9,rfl⟩:=list10 hl;rcases lt10 hi with rfl|rfl|rfl|rfl|rfl|rfl|rfl|rfl|rfl|rfl
  ·have:digB c0=false:=h
   exact .inl (by simp[pieY,this])
  ·have:digB c1=false:=h
   exact .inl (by simp[pieY,this])
  ·have:digB c2=false:=h
   exact .inl (by simp[pieY,this])
  ·have:digB c3=false:=h
   exact .inl (by simp[pieY,this])
  ·exact absurd (.inl rfl) h47
  ·have:digB c5=false:=h
   exact .inr (.inl (by simp[pieM,this]))
  ·have:digB c6=false:=h
   exact .inr (.inl (by simp[pieM,this]))
  ·exact absurd (.inr rfl) h47
  ·have:digB c8=false:=h
   exact .inr (.inr (by simp[pieD,this]))
  ·have:digB c9=false:=h
   exact .inr (.inr (by simp[pieD,this]))
theorem stepN_le {c:UInt8} (h:digB c=true) {u b:Nat} (hu:u≤b):stepN u c≤10 * b+9:=by
 unfold digB at h;rw[decide_eq_true_eq]at h;unfold stepN;omega
theorem vals_bd {l:List UInt8} (hl:l.length=10) {i:Nat} (hi:i≤10) (h:OkD l i):vA l i≤9999∧vB l i≤99∧vC l i≤99:=by
 induction i with
 | zero =>
  obtain ⟨c0,c1,c2,c3,c4,c5,c6,c7,c8,c9,rfl⟩:=list10 hl;exact ⟨by show 0≤9999;omega,by show 0≤99;omega,by show 0≤99;omega⟩
 | succ i ih =>
  have d:=fun (j:Nat) (hj:j<i+1) (h4:j≠4) (h7:j≠7)=>okd_dig h4 h7 (h j hj)
  obtain ⟨a,b,c⟩:=ih (by omega) (fun j hj=>h j (by omega));by_cases h47:i=4∨i=7
  ·obtain ⟨_,e1,e2,e3⟩:=step_dash hl h47;rw[e1,e2,e3];exact ⟨a,b,c⟩
  ·clear a b c ih;obtain ⟨c0,c1,c2,c3,c4,c5,c6,c7,c8,c9,rfl⟩:=list10 hl;have two:∀ x y:UInt8,digB x=true→digB y=true→valN [x,y]≤99:=fun x y hx hy=>stepN_le hy (stepN_le hx (Nat.le_refl 0))
   have one:∀ x:UInt8,digB x=true→valN [x]≤99:=fun x hx=>Nat.le_trans (stepN_le hx (Nat.le_refl 0)) (by omega)
   have y1:∀ x:UInt8,digB x=true→valN [x]≤9999:=fun x hx=>Nat.le_trans (stepN_le hx (Nat.le_refl 0)) (by omega)
   have y2:∀ x y:UInt8,digB x=true→digB y=true→valN [x,y]≤9999:=fun x y hx hy=>Nat.le_trans (two x y hx hy) (by omega)
   have y3:∀ x y z:UInt8,digB x=true→digB y=true→digB z=true→valN [x,y,z]≤9999:=fun x y z hx hy hz=>Nat.le_trans (stepN_le hz (two x y hx hy)) (by omega)
   have y4:∀ x y z u:UInt8,digB x=true→digB y=true→digB z=true→digB u=true→valN [x,y,z,u]≤9999:=fun x y z u hx hy hz hu=>stepN_le hu (stepN_le hz (two x y hx hy))
   have z99:valN []≤99:=by show 0≤99;omega
   rcases lt10 (show i<10 by omega) with rfl|rfl|rfl|rfl|rfl|rfl|rfl|rfl|rfl|rfl
   ·exact ⟨y1 c0 (d 0 (by omega) (by omega) (by omega)),z99,z99⟩
   ·exact ⟨y2 c0 c1 (d 0 (by omega) (by omega) (by omega)) (d 1 (by omega) (by omega) (by omega)),z99,z99⟩
   ·exact ⟨y3 c0 c1 c2 (d 0 (by omega) (by omega) (by omega)) (d 1 (by omega) (by omega) (by omega)) (d 2 (by omega) (by omega) (by omega)),z99,z99⟩
   ·exact ⟨y4 c0 c1 c2 c3 (d 0 (by omega) (by omega) (by omega)) (d 1 (by omega) (by omega) (by omega)) (d 2 (by omega) (by omega) (by omega)) (d 3 (by omega) (by omega) (by omega)),z99,z99⟩
   ·exact absurd (.inl rfl) h47
   ·exact ⟨y4 c0 c1 c2 c3 (d 0 (by omega) (by omega) (by omega)) (d 1 (by omega) (by omega) (by omega)) (d 2 (by omega) (by omega) (by omega)) (d 3 (by omega) (by omega) (by omega)),one c5 (d 5 (by omega) (by omega) (by omega)),z99⟩
   ·exact ⟨y4 c0 c1 c2 c3 (d 0 (by omega) (by omega) (by omega)) (d 1 (by omega) (by omega) (by omega)) (d 2 (by omega) (by omega) (by omega)) (d 3 (by omega) (by omega) (by omega)),two c5 c6 (d 5 (by omega) (by omega) (by omega)) (d 6 (by omega) (by omega) (by omega)),z99⟩
   ·exact absurd (.inr rfl) h47
   ·exact ⟨y4 c0 c1 c2 c3 (d 0 (by omega) (by omega) (by omega)) (d 1 (by omega) (by omega) (by omega)) (d 2 (by omega) (by omega) (by omega)) (d 3 (by omega) (by omega) (by omega)),two c5 c6 (d 5 (by omega) (by omega) (by omega)) (d 6 (by omega) (by omega) (by omega)),one c8 (d 8 (by omega) (by omega) (by omega))⟩
   ·exact ⟨y4 c0 c1 c2 c3 (d 0 (by omega) (by omega) (by omega)) (d 1 (by omega) (by omega) (by omega)) (d 2 (by omega) (by omega) (by omega)) (d 3 (by omega) (by omega) (by omega)),two c5 c6 (d 5 (by omega) (by omega) (by omega)) (d 6 (by omega) (by omega) (by omega)),two c8 c9 (d 8 (by omega) (by omega) (by omega)) (d 9 (by omega) (by omega) (by omega))⟩
theorem set3_0 (a b c u:Nat) (h:48≤u):(#[.int .i64 (a:Int),.int .i64 (b:Int),.int .i64 (c:Int)]:Array Value).setIfInBounds 0 (.int .i64 (10 * (a:Int)+((u:Int) - 48)))=#[.int .i64 ((a * 10+(u - 48):Nat):Int),.int .i64 (b:Int),.int .i64 (c:Int)]:=by
 rw[show ((a * 10+(u - 48):Nat):Int)=10 * (a:Int)+((u:Int) - 48) by omega];rfl
theorem set3_1 (a b c u:Nat) (h:48≤u):(#[.int .i64 (a:Int),.int .i64 (b:Int),.int .i64 (c:Int)]:Array Value).setIfInBounds 1 (.int .i64 (10 * (b:Int)+((u:Int) - 48)))=#[.int .i64 (a:Int),.int .i64 ((b * 10+(u - 48):Nat):Int),.int .i64 (c:Int)]:=by
 rw[show ((b * 10+(u - 48):Nat):Int)=10 * (b:Int)+((u:Int) - 48) by omega];rfl
theorem set3_2 (a b c u:Nat) (h:48≤u):(#[.int .i64 (a:Int),.int .i64 (b:Int),.int .i64 (c:Int)]:Array Value).setIfInBounds 2 (.int .i64 (10 * (c:Int)+((u:Int) - 48)))=#[.int .i64 (a:Int),.int .i64 (b:Int),.int .i64 ((c * 10+(u - 48):Nat):Int)]:=by
 rw[show ((c * 10+(u - 48):Nat):Int)=10 * (c:Int)+((u:Int) - 48) by omega];rfl
set_option maxRecDepth 100000 in
set_option maxHeartbeats 1000000 in
theorem rdatepar_any (s:ByteArray) (w:World) (hs:s.size≤9223372036854775807):Calls Tryz.prog 144 #[.string s] w (RetRb w (dparV s.data.toList)):=by
 by_cases h10:s.size=10
 case neg =>
  have HO:=Lib.hid (dpar_len (l:=s.data.toList) (.inl (by rw[size_data];exact h10)));have q:((s.size:Int) != 10)=true:=by simp;omega
  clear h10;go_enter Tryz.func144,Tryz.ntmps144
  go_wp2;go_ret2
  exact RetRb.mk_ HO.out (Below.refl _ _)
 have q:((s.size:Int) != 10)=false:=by simp;omega
 have HL:=Lib.hid (show s.data.toList.length=10 by rw[size_data];exact h10);have H10:=Lib.hid h10;have bV:=Blk.new w 189 #[.int .i64 0,.int .i64 0,.int .i64 0];have hbV:=below_new w (.cells #[.int .i64 0,.int .i64 0,.int .i64 0] 189);clear h10;go_enter Tryz.func144,Tryz.ntmps144
 go_upto_region 4 with (fail)
 obtain ⟨W0,hW0⟩:∃ W,W=w.alloc (.cells #[.int .i64 0,.int .i64 0,.int .i64 0] 189):=⟨_,rfl⟩
 rw[←hW0]at bV hbV ⊢;obtain ⟨g,hg⟩:∃ g,g=w.heap.size:=⟨_,rfl⟩
 rw[←hg]at bV ⊢;have HG:=Lib.hid (show w.heap.size≤g by omega);have HBV:=Lib.hid hbV;have HB0:=Lib.hid bV;clear hW0 hg bV hbV;go_wp2;go_loopw [5,6] (fun p i wr=>∃ j:Nat,j≤10∧i=.int .i64 j∧(∃ pp:Int,p=.int .i64 pp∧Hid (pp=pt j))∧Hid (OkD s.data.toList j)∧Hid (Blk wr g 189 #[.int .i64 (vA s.data.toList j),.int .i64 (vB s.data.toList j),.int .i64 (vC s.data.toList j)])∧Hid (Below w.heap.size w wr)) (fun _ i _=>10 - (intOf i).toNat)
 case atStart=>exact ⟨0,by omega,rfl,⟨0,rfl,Lib.hid rfl⟩,Lib.hid (fun j h=>absurd h (Nat.not_lt_zero j)),Lib.hid HB0.out,Lib.hid HBV.out⟩
 case round =>
  obtain ⟨j,hj,rfl,⟨pp,rfl,hpp⟩,hok,hblk,hbel⟩:=hrel;by_cases hlt:j<10
  ·have hjs:j<s.size:=by have:=H10.out;omega
   have hget:=Lib.hid (getD_by hjs);by_cases h47:j=4∨j=7
   ·by_cases hc:(s[j].toNat:Int)=45
    ·have hO:=Lib.hid (show okAt s.data.toList j=true by unfold okAt;rw[if_pos h47,hget.out,decide_eq_true_eq];exact UInt8.toNat_inj.1 (by have:(45:UInt8).toNat=45:=rfl;omega));have HN:=Lib.hid (hok.out.next hO.out);have HS:=Lib.hid (step_dash HL.out h47);have HBn:=Lib.hid (show Blk wr g 189 #[.int .i64 (vA s.data.toList (j+1)),.int .i64 (vB s.data.toList (j+1)),.int .i64 (vC s.data.toList (j+1))] by rw[HS.out.2.1,HS.out.2.2.1,HS.out.2.2.2];exact hblk.out);have hp3:0≤pp∧pp≤2:=by have:=hpp.out;rw[this];unfold pt;split;omega;split <;> omega
     have HPn:=Lib.hid (show pp+1=(pt (j+1):Int) by rw[hpp.out,HS.out.1];rfl);have qc:((s[j].toNat:Int) != 45)=false:=by simpa using hc
     clear hc hok hblk hpp;rcases h47 with rfl|rfl
     all_goals
      go_wp2;go_roundw
      case rel=>exact ⟨_,by omega,by first | rfl | go_num,⟨_,rfl,HPn⟩,HN,HBn,hbel⟩
      case measure=>simp[intOf]
    ·have HO:=Lib.hid (okd_bad HL.out hlt (show okAt s.data.toList j=false by unfold okAt;rw[if_pos h47,hget.out,decide_eq_false_iff_not];intro e;exact hc (by rw[e];rfl)));have qc:((s[j].toNat:Int) != 45)=true:=by rw[bne_iff_ne];exact hc
     clear hc;rcases h47 with rfl|rfl
     all_goals
      go_wp2;go_ret2
      exact RetRb.mk_ HO.out hbel.out
   ·have h4:j≠4:=fun e=>h47 (.inl e)
    have h7:j≠7:=fun e=>h47 (.inr e)
    have e4:((j:Int)==4)=false:=by rw[beq_eq_false_iff_ne];omega
    have e7:((j:Int)==7)=false:=by rw[beq_eq_false_iff_ne];omega
    rcases digB_cases s[j] with ⟨ho,d1,d2⟩|ho
    ·have hO:=Lib.hid (show okAt s.data.toList j=true by unfold okAt;rw[if_neg h47,hget.out];exact ho);have HN:=Lib.hid (hok.out.next hO.out);have hst:=step_dig HL.out hlt h4 h7;rw[hget.out]at hst;have HS:=Lib.hid hst;have hvb:=vals_bd HL.out hj hok.out;obtain ⟨a,ha⟩:∃ a,vA s.data.toList j=a:=⟨_,rfl⟩
     obtain ⟨b,hb⟩:∃ b,vB s.data.toList j=b:=⟨_,rfl⟩
     obtain ⟨c,hc⟩:∃ c,vC s.data.toList j=c:=⟨_,rfl⟩
     rw[ha,hb,hc]at hvb hblk HS;obtain ⟨P,hP⟩:∃ P:Nat,pt j=P:=⟨_,rfl⟩
     rw[hP]at HS hpp;obtain rfl:pp=(P:Int):=hpp.out;have hP3:P<3:=by rw[←hP];unfold pt;split;omega;split <;> omega
     obtain ⟨x,hx,hx0⟩:∃ x:Nat,(#[.int .i64 (a:Int),.int .i64 (b:Int),.int .i64 (c:Int)]:Array Value)[P]?=some (.int .i64 (x:Int))∧x≤9999:=by
      rcases (show P=0∨P=1∨P=2 by omega) with rfl|rfl|rfl
      ·exact ⟨a,rfl,by omega⟩
      ·exact ⟨b,rfl,by omega⟩
      ·exact ⟨c,rfl,by omega⟩
     have HX:=Lib.hid hx;obtain ⟨cs,hcs⟩:∃ cs:Array Value,cs=#[.int .i64 (a:Int),.int .i64 (b:Int),.int .i64 (c:Int)]:=⟨_,rfl⟩
     rw[←hcs]at hblk hx HX;have HCS:=Lib.hid hcs;have HAP:=Lib.hid hP;clear ho hok hst hvb ha hb hc hP hpp hx hcs h47;have hP0:(0:Int)≤(P:Int):=by omega
     have hP1:(P:Int)<3:=by omega
     have dd:(s[j].toNat:Int) - 48≤9:=by omega
     go_upto_region 14 with (fail)
     refine wp_region_inv (by kernel_rfl) (by kernel_rfl) (fun L a w'=>∃ u36 u37 u38 u39 u40 u41 u42 u43 u44 u45 u46 u47:Value,
       a=⟨#[.string s,undef,u2,u3,.pointer (some ⟨g,0,none⟩),.int .i64 (P:Int),.int .i64 (j:Int),.string s,.int .i64 (s.size:Int),.bool false,.int .i64 (j:Int),.bool true,u12,u13,.int .i64 (j:Int),.bool false,.bool false,.int .i64 (j:Int),.bool false,.bool false,u20,u21,u22,u23,u24,u25,.string s,.int .i64 (j:Int),.int .u8 (s[j].toNat:Int),.bool (decide ((s[j].toNat:Int)<48)),.bool (decide ((s[j].toNat:Int)<48)),.string s,.int .i64 (j:Int),.int .u8 (s[j].toNat:Int),.bool (decide (57<(s[j].toNat:Int))),.bool (decide ((s[j].toNat:Int)<48) || decide (57<(s[j].toNat:Int))),u36,u37,u38,u39,u40,u41,u42,u43,u44,u45,u46,u47,undef,undef,undef,undef,undef,undef,undef,undef,undef],[]⟩ ∧
       Got (L 0) u36 (.int .i64 (P:Int))∧Got (L 1) u37 (.int .i64 (P:Int))∧Got (L 2) u38 (.pointer (some ⟨g,P,none⟩))∧Got (L 3) u39 (.int .i64 (x:Int))∧Got (L 4) u40 (.int .i64 (10 * (x:Int)))∧Got (L 5) u41 (.string s)∧Got (L 6) u42 (.int .i64 (j:Int))∧Got (L 7) u43 (.int .u8 (s[j].toNat:Int))∧Got (L 8) u44 (.int .u8 ((s[j].toNat:Int) - 48))∧Got (L 9) u45 (.int .i64 ((s[j].toNat:Int) - 48))∧Got (L 10) u46 (.int .i64 (10 * (x:Int)+((s[j].toNat:Int) - 48)))∧Got (L 11) u47 (.pointer (some ⟨g,P,none⟩))∧
       (L 12=true→L 3=true)∧Blk w' g 189 (if L 12=true then cs.setIfInBounds P (.int .i64 (10 * (x:Int)+((s[j].toNat:Int) - 48))) else cs)∧wr.grownBy w' (some g))
      ?_ ?_ ?_
     ·exact ⟨u36,u37,u38,u39,u40,u41,u42,u43,u44,u45,u46,u47,rfl,nofun,nofun,nofun,nofun,nofun,nofun,nofun,nofun,nofun,nofun,nofun,nofun,nofun,by rw[if_neg (by decide)];exact hblk.out.drewN 1,(World.grownBy.refl wr (some g)).trans (Only.of_below (g:=g) (Below.refl _ _).drew)⟩
     ·refine ⟨?_,?_,?_,?_,?_,?_,?_,?_,?_,?_,?_,?_,?_,trivial⟩
      ·rintro L a w' ⟨u36,u37,u38,u39,u40,u41,u42,u43,u44,u45,u46,u47,rfl,g36,g37,g38,g39,g40,g41,g42,g43,g44,g45,g46,g47,k12,hB,hG⟩ hl hd K hK;dsimp only at hK ⊢;go_simp;exact hK _ _ ⟨_,_,_,_,_,_,_,_,_,_,_,_,rfl,fun _=>rfl,g37,g38,g39,g40,g41,g42,g43,g44,g45,g46,g47,k12,hB,hG⟩
      ·rintro L a w' ⟨u36,u37,u38,u39,u40,u41,u42,u43,u44,u45,u46,u47,rfl,g36,g37,g38,g39,g40,g41,g42,g43,g44,g45,g46,g47,k12,hB,hG⟩ hl hd K hK;dsimp only at hK ⊢;go_simp;exact hK _ _ ⟨_,_,_,_,_,_,_,_,_,_,_,_,rfl,g36,fun _=>rfl,g38,g39,g40,g41,g42,g43,g44,g45,g46,g47,k12,hB,hG⟩
      ·rintro L a w' ⟨u36,u37,u38,u39,u40,u41,u42,u43,u44,u45,u46,u47,rfl,g36,g37,g38,g39,g40,g41,g42,g43,g44,g45,g46,g47,k12,hB,hG⟩ hl hd K hK;simp[Region.binds]at hd;dsimp only at hK ⊢;have e37:=g37 (by simp[hd]);subst e37;go_simp;exact hK _ _ ⟨_,_,_,_,_,_,_,_,_,_,_,_,rfl,g36,g37,fun _=>rfl,g39,g40,g41,g42,g43,g44,g45,g46,g47,k12,hB,hG⟩
      ·rintro L a w' ⟨u36,u37,u38,u39,u40,u41,u42,u43,u44,u45,u46,u47,rfl,g36,g37,g38,g39,g40,g41,g42,g43,g44,g45,g46,g47,k12,hB,hG⟩ hl hd K hK;simp[Region.binds]at hd;dsimp only at hK ⊢;have e38:=g38 (by simp[hd]);subst e38;have hB2:=hB;rw[show L 12=false by cases h:L 12 with | false=>rfl | true=>(have:=k12 h;rw[hl]at this;cases this)]at hB2;simp only[Bool.false_eq_true,if_false]at hB2;have c39:w'.cell? ⟨g,P,none⟩=some (.int .i64 (x:Int)):=(hB2.cell P).trans HX.out;go_simp;exact hK _ _ ⟨_,_,_,_,_,_,_,_,_,_,_,_,rfl,g36,g37,g38,fun _=>rfl,g40,g41,g42,g43,g44,g45,g46,g47,fun _=>rfl,hB,hG⟩
      ·rintro L a w' ⟨u36,u37,u38,u39,u40,u41,u42,u43,u44,u45,u46,u47,rfl,g36,g37,g38,g39,g40,g41,g42,g43,g44,g45,g46,g47,k12,hB,hG⟩ hl hd K hK;simp[Region.binds]at hd;dsimp only at hK ⊢;have e39:=g39 (by simp[hd]);subst e39;go_simp;exact hK _ _ ⟨_,_,_,_,_,_,_,_,_,_,_,_,rfl,g36,g37,g38,g39,(fun _=>by rw[IntWalk.i64_in _ (by omega)]),g41,g42,g43,g44,g45,g46,g47,k12,hB,hG⟩
      ·rintro L a w' ⟨u36,u37,u38,u39,u40,u41,u42,u43,u44,u45,u46,u47,rfl,g36,g37,g38,g39,g40,g41,g42,g43,g44,g45,g46,g47,k12,hB,hG⟩ hl hd K hK;dsimp only at hK ⊢;go_simp;exact hK _ _ ⟨_,_,_,_,_,_,_,_,_,_,_,_,rfl,g36,g37,g38,g39,g40,fun _=>rfl,g42,g43,g44,g45,g46,g47,k12,hB,hG⟩
      ·rintro L a w' ⟨u36,u37,u38,u39,u40,u41,u42,u43,u44,u45,u46,u47,rfl,g36,g37,g38,g39,g40,g41,g42,g43,g44,g45,g46,g47,k12,hB,hG⟩ hl hd K hK;dsimp only at hK ⊢;go_simp;exact hK _ _ ⟨_,_,_,_,_,_,_,_,_,_,_,_,rfl,g36,g37,g38,g39,g40,g41,fun _=>rfl,g43,g44,g45,g46,g47,k12,hB,hG⟩
      ·rintro L a w' ⟨u36,u37,u38,u39,u40,u41,u42,u43,u44,u45,u46,u47,rfl,g36,g37,g38,g39,g40,g41,g42,g43,g44,g45,g46,g47,k12,hB,hG⟩ hl hd K hK;simp[Region.binds]at hd;dsimp only at hK ⊢;have e41:=g41 (by simp[hd]);subst e41;have e42:=g42 (by simp[hd]);subst e42;go_simp;exact hK _ _ ⟨_,_,_,_,_,_,_,_,_,_,_,_,rfl,g36,g37,g38,g39,g40,g41,g42,fun _=>rfl,g44,g45,g46,g47,k12,hB,hG⟩
      ·rintro L a w' ⟨u36,u37,u38,u39,u40,u41,u42,u43,u44,u45,u46,u47,rfl,g36,g37,g38,g39,g40,g41,g42,g43,g44,g45,g46,g47,k12,hB,hG⟩ hl hd K hK;simp[Region.binds]at hd;dsimp only at hK ⊢;have e43:=g43 (by simp[hd]);subst e43;go_simp;exact hK _ _ ⟨_,_,_,_,_,_,_,_,_,_,_,_,rfl,g36,g37,g38,g39,g40,g41,g42,g43,(fun _=>by rw[IntKind.wrap_u8];congr 1;omega),g45,g46,g47,k12,hB,hG⟩
      ·rintro L a w' ⟨u36,u37,u38,u39,u40,u41,u42,u43,u44,u45,u46,u47,rfl,g36,g37,g38,g39,g40,g41,g42,g43,g44,g45,g46,g47,k12,hB,hG⟩ hl hd K hK;simp[Region.binds]at hd;dsimp only at hK ⊢;have e44:=g44 (by simp[hd]);subst e44;go_simp;exact hK _ _ ⟨_,_,_,_,_,_,_,_,_,_,_,_,rfl,g36,g37,g38,g39,g40,g41,g42,g43,g44,(fun _=>by rw[IntWalk.i64_in _ (by omega)]),g46,g47,k12,hB,hG⟩
      ·rintro L a w' ⟨u36,u37,u38,u39,u40,u41,u42,u43,u44,u45,u46,u47,rfl,g36,g37,g38,g39,g40,g41,g42,g43,g44,g45,g46,g47,k12,hB,hG⟩ hl hd K hK;simp[Region.binds]at hd;dsimp only at hK ⊢;have e40:=g40 (by simp[hd]);subst e40;have e45:=g45 (by simp[hd]);subst e45;go_simp;exact hK _ _ ⟨_,_,_,_,_,_,_,_,_,_,_,_,rfl,g36,g37,g38,g39,g40,g41,g42,g43,g44,g45,(fun _=>by rw[IntWalk.i64_in _ (by omega)]),g47,k12,hB,hG⟩
      ·rintro L a w' ⟨u36,u37,u38,u39,u40,u41,u42,u43,u44,u45,u46,u47,rfl,g36,g37,g38,g39,g40,g41,g42,g43,g44,g45,g46,g47,k12,hB,hG⟩ hl hd K hK;simp[Region.binds]at hd;dsimp only at hK ⊢;have e36:=g36 (by simp[hd]);subst e36;go_simp;exact hK _ _ ⟨_,_,_,_,_,_,_,_,_,_,_,_,rfl,g36,g37,g38,g39,g40,g41,g42,g43,g44,g45,g46,fun _=>rfl,k12,hB,hG⟩
      ·rintro L a w' ⟨u36,u37,u38,u39,u40,u41,u42,u43,u44,u45,u46,u47,rfl,g36,g37,g38,g39,g40,g41,g42,g43,g44,g45,g46,g47,k12,hB,hG⟩ hl hd K hK;simp[Region.binds]at hd;dsimp only at hK ⊢;have e46:=g46 (by simp[hd]);subst e46;have e47:=g47 (by simp[hd]);subst e47;rw[hl]at hB;simp only[Bool.false_eq_true,if_false]at hB;have c0:w'.cell? ⟨g,P,none⟩=some (.int .i64 (x:Int)):=(hB.cell P).trans HX.out;have f0:=hB.frozen P;have kg:=grownBy_set w' ⟨g,P,none⟩ (.int .i64 (10 * (x:Int)+((s[j].toNat:Int) - 48)));have bX:=hB.set_ P (.int .i64 (10 * (x:Int)+((s[j].toNat:Int) - 48)));have h3:L 3=true:=by simp[hd]
       go_simp;exact hK _ _ ⟨_,_,_,_,_,_,_,_,_,_,_,_,rfl,g36,g37,g38,g39,g40,g41,g42,g43,g44,g45,g46,g47,fun _=>h3,bX,grown_trans' hG kg⟩
     ·rintro a w2 ⟨u36,u37,u38,u39,u40,u41,u42,u43,u44,u45,u46,u47,rfl,g36,g37,g38,g39,g40,g41,g42,g43,g44,g45,g46,g47,-,hB,hG⟩;have e:=g36 rfl;subst e;clear g36;have e:=g37 rfl;subst e;clear g37;have e:=g38 rfl;subst e;clear g38;have e:=g39 rfl;subst e;clear g39;have e:=g40 rfl;subst e;clear g40;have e:=g41 rfl;subst e;clear g41;have e:=g42 rfl;subst e;clear g42;have e:=g43 rfl;subst e;clear g43;have e:=g44 rfl;subst e;clear g44;have e:=g45 rfl;subst e;clear g45;have e:=g46 rfl;subst e;clear g46;have e:=g47 rfl;subst e;clear g47;simp only[if_true]at hB;have HBn:=Lib.hid (show Blk w2 g 189 #[.int .i64 (vA s.data.toList (j+1)),.int .i64 (vB s.data.toList (j+1)),.int .i64 (vC s.data.toList (j+1))] by
       have h:=hB;have hx:=HX.out;rw[HCS.out]at h hx;rcases HS.out.2 with ⟨rfl,k1,k2,k3⟩|⟨rfl,k1,k2,k3⟩|⟨rfl,k1,k2,k3⟩
       ·obtain rfl:a=x:=by have h2:(Value.int .i64 (a:Int))=.int .i64 (x:Int):=Option.some.inj hx;injection h2 with _ h2;omega
        rw[k1,k2,k3,←set3_0 a b c s[j].toNat (by omega)];exact h
       ·obtain rfl:b=x:=by have h2:(Value.int .i64 (b:Int))=.int .i64 (x:Int):=Option.some.inj hx;injection h2 with _ h2;omega
        rw[k1,k2,k3,←set3_1 a b c s[j].toNat (by omega)];exact h
       ·obtain rfl:c=x:=by have h2:(Value.int .i64 (c:Int))=.int .i64 (x:Int):=Option.some.inj hx;injection h2 with _ h2;omega
        rw[k1,k2,k3,←set3_2 a b c s[j].toNat (by omega)];exact h
      )
      have HPn:=Lib.hid (show (P:Int)=(pt (j+1):Int) by rw[HS.out.1]);have HBe:=Lib.hid (hbel.out.grown hG (by have:=hbel.out.size;omega) (fun k hk=>by have hk2:=Option.some.inj hk;have:=HG.out;omega));clear hB hG;go_wp2;go_roundw
      case rel=>exact ⟨j+1,by omega,by go_num,⟨_,rfl,HPn⟩,HN,HBn,HBe⟩
      case measure=>simp[intOf];omega
    ·have ho2:digB s[j]=false:=ho.elim And.left And.left;have HO:=Lib.hid (okd_bad HL.out hlt (show okAt s.data.toList j=false by unfold okAt;rw[if_neg h47,hget.out];exact ho2));rcases ho with ⟨_,d1⟩|⟨_,d1⟩
     all_goals
      clear h47 ho2;go_wp2;go_ret2
      exact RetRb.mk_ HO.out hbel.out
  ·obtain rfl:j=10:=by omega
   have HO:=Lib.hid (okd_end HL.out hok.out);have hvb:=vals_bd HL.out (Nat.le_refl 10) hok.out;obtain ⟨a,ha⟩:∃ a,vA s.data.toList 10=a:=⟨_,rfl⟩
   obtain ⟨b,hb⟩:∃ b,vB s.data.toList 10=b:=⟨_,rfl⟩
   obtain ⟨c,hc⟩:∃ c,vC s.data.toList 10=c:=⟨_,rfl⟩
   rw[ha,hb,hc]at hvb hblk HO;clear ha hb hc hok;have m0:wr.cell? ⟨g,0,none⟩=some (.int .i64 (a:Int)):=hblk.out.cell 0;have m1:wr.cell? ⟨g,1,none⟩=some (.int .i64 (b:Int)):=hblk.out.cell 1;have m2:wr.cell? ⟨g,2,none⟩=some (.int .i64 (c:Int)):=hblk.out.cell 2;obtain ⟨x,f,hxf,CD⟩:=ret_rs (rdays_any (a:Int) (b:Int) (c:Int) wr (by omega) (by omega) (by omega));have CC:=Lib.hid CD;have HXF:=Lib.hid hxf;clear CD hxf hvb;go_wp2_with fail
   refine CC.out.mono ?_;rintro _ _ ⟨rfl,rfl⟩;go_wp2;go_ret2
   exact RetRb.mk_ (HO.out.trans HXF.out) hbel.out
end Go.Proofs.YtjnamjkdjcndiaaGreatDoor
