/-
 keep.Predicate.
-/
import Derived.Test.YtjnamjkdjcndiaaGreatDoorKNode
namespace Go.Proofs.YtjnamjkdjcndiaaGreatDoor
open Go.RowKit Go.Sort
structure GenP (cs:List Col) (l:List Nd):Prop where
 len:l.length≤7
 ok:∀ k x,l[k]?=some x→NodeOk cs k x
def RetPred (w:World) (cs:List Col) (e:Ending) (w':World):Prop :=
 ∃ (v:Value) (l:List Nd),e=.returned v∧GenP cs l∧SlNd w' v l∧Below w.heap.size w w'
theorem OwnNd.only {w w':World} {B g base:Nat} {v:Value} {l:List Nd} {rest:List Int} (h:OwnNd w base v l) (hs:Src w B 97 g rest) (ho:Only g w w'):OwnNd w' base v l:=by
 obtain ⟨us,h1,h2,h3⟩:=h;exact ⟨us,h1,own_only h2 hs (by decide) ho,fun k s u hk hu=>own_only (h3 k s u hk hu) hs (by decide) ho⟩
theorem OwnNd.sub {w:World} {base:Nat} {v:Value} {l:List Nd} (h:OwnNd w base v l):∃ us:List Value,us.length=l.length∧w.ownsRow base 66 8 v l.length (nds l us)∧∀ (k:Nat) (x:Nd) (u:Value),l[k]?=some x→us[k]?=some u→w.ownsRow base 64 3 u x.l.length (vls x.l):=h
theorem okSnoc {cs:List Col} {l:List Nd} {x:Nd} (h:∀ k x,l[k]?=some x→NodeOk cs k x) (hx:NodeOk cs l.length x):∀ k y,(l ++ [x])[k]?=some y→NodeOk cs k y:=by
 intro k y hy
 by_cases hk:k<l.length
 ·rw[List.getElem?_append_left hk]at hy;exact h k y hy
 ·rw[List.getElem?_append_right (by omega)]at hy;rcases hm:k - l.length with _|m
  ·rw[hm]at hy;simp at hy
   subst hy;obtain rfl:k=l.length:=by omega
   exact hx
  ·rw[hm]at hy;simp at hy
set_option maxRecDepth 100000 in
set_option maxHeartbeats 8000000 in
theorem kpred_any (sv v:Value) (key:Int) (cs:List Col) (zs:List Int) (w:World) (hS:Sl w 4 sv cs.length (cols cs)) (h0:0<cs.length) (hm:cs.length≤1000) (hcv:∀ c ∈ cs,1≤c.ty∧c.ty≤5) (hs:Sl w 1 v zs.length (ints zs)) (hl:zs.length≤9223372036854775807) (hr:∀ x ∈ zs,-9223372036854775808≤x∧x≤9223372036854775807) :
  Calls Tryz.prog 16 #[.agg #[sv,.int .i64 key],v] w (RetPred w cs):=by
 obtain ⟨A,cA,rfl,_,_⟩:=hs.form;obtain ⟨AS,cS,rfl,_,_⟩:=hS.form;have HCV:=Lib.hid hcv;obtain ⟨W,hW⟩:∃ W,W=w.alloc (.cells #[.slice AS cs.length cS,.int .i64 key] 28):=⟨_,rfl⟩
 have hb0:Below w.heap.size w W:=by rw[hW];exact below_new _ _
 have BSW:=Lib.hid (show Blk W w.heap.size 28 #[.slice AS cs.length cS,.int .i64 key] by rw[hW];exact Blk.new _ _ _);have HSW:=Lib.hid (hS.below hb0);have HF:=Lib.hid (from_any _ zs W (hs.below hb0) hl hr);have HBW:=Lib.hid hb0;have hzW:w.heap.size<W.heap.size:=by rw[hW];simp
 clear hs hS hl hr hcv hb0;go_enter Tryz.func16,Tryz.ntmps16
 go_wp2_with fail
 rw[←hW];clear hW;refine HF.out.mono ?_;rintro _ w1 ⟨g,rfl,hb1,hsr⟩;have hge:=hsr.ge;have BS1:=Lib.hid (BSW.out.below hb1 BSW.out.lt);have HB1:=Lib.hid hb1;clear hb1 HF;go_wp2_with fail
 refine (next_any _ g 8 _ w1 hsr (by omega) (by omega)).mono ?_;rintro _ w2 ⟨rfl,ho,hsx⟩;have y1:=nxt_lo 8 zs (by omega);have y2:=nxt_hi 8 zs (by omega);obtain ⟨K,hK⟩:∃ K:Nat,nxt 8 zs=K:=⟨(nxt 8 zs).toNat,by omega⟩
 rw[hK]at y1 y2 ⊢;have BS2:=Lib.hid (BS1.out.grown ho (by intro e;injection e with e;omega));have HB2:=Lib.hid (below_only HB1.out ho hge HB1.out.size);have SR2:=Lib.hid hsx;have hK7:K≤7:=by omega
 clear ho hsx hsr hK y1 y2 BS1 HB1;go_wp2_with fail
 go_loopw [6,7] (fun pl n wr=>∃ (k:Nat) (l:List Nd) (r:List Int),n=.int .i64 k∧l.length+k=K∧(∀ k x,l[k]?=some x→NodeOk cs k x)∧OwnNd wr W.heap.size pl l∧Blk wr w.heap.size 28 #[.slice AS cs.length cS,.int .i64 key]∧Src wr W.heap.size 97 g r∧Below W.heap.size W wr) (fun _ n _=>(intOf n).toNat)
 case atStart=>exact ⟨K,[],_,rfl,by simp,nofun,OwnNd.nil _ _,BS2.out,SR2.out,HB2.out⟩
 case round =>
  clear BS2 SR2 HB2;obtain ⟨k,l,r,rfl,hlk,hok,ho,hbs,hsr,hb⟩:=hrel;have HLK:=Lib.hid hlk;have hk7:k≤7:=by omega
  have hl7:l.length≤7:=by omega
  have HOK:=Lib.hid hok;have HO:=Lib.hid ho;obtain ⟨A2,c2,rfl,hl1,hl2⟩:=ho.form;have HB:=Lib.hid hb;have hWr:=hb.size;have gwr:=hsr.lt;have s0:=hbs.cell 0;have s1:=hbs.cell 1;simp only[jA,jZ,jS]at s0 s1;have HBS:=Lib.hid hbs;have HSR:=Lib.hid hsr;clear hlk hok ho hb hbs hsr;by_cases hlt:0<k
  case neg =>
   obtain rfl:k=0:=by omega
   go_wp2;go_ret;exact ⟨_,l,rfl,⟨hl7,HOK.out⟩,HO.out.sl,bst HBW.out HB.out⟩
  case pos =>
   have hkw:IntKind.i64.wrap ((k:Int) - 1)=(k:Int) - 1:=IntWalk.i64_in _ (by omega);go_wp2_with fail
   clear s0 s1;with_reducible refine (knode_any W.heap.size g l.length _ key cs r wr HSR.out W HSW.out HB.out (Nat.le_refl _) h0 hm HCV.out (by omega)).mono ?_
   rintro _ w3 ⟨x,lu,r3,rfl,hx,hov,ho,hsx⟩;obtain ⟨A3,c3,rfl,_,_⟩:=(Sl.of_own hov).form;obtain ⟨us,h1,h2,h3⟩:=(HO.out.only HSR.out ho).sub;have HU:=Lib.hid (⟨h1,h3⟩:_∧_);have HOV:=Lib.hid (own_mono hov hWr);have BS3:=Lib.hid (HBS.out.grown ho (by intro e;injection e with e;have:=HBS.out.lt;omega));have HB3:=Lib.hid (below_only HB.out ho hge HB.out.size);have SR3:=Lib.hid hsx;have HX:=Lib.hid hx;have hsz:=HB3.out.size;have hbel3:=HB3.out;clear h1 h3 hov ho hsx hx HO HBS HSR HB;go_wp2_with (at_builtin;go_must (refine app1 _ _ h2 hbel3 (Nat.le_refl _) hsz under_nd info_nd rfl (by decide) rfl (one8 _ _ _ _ _ _ _ _ _ _) (by omega) (by omega) rfl rfl rfl rfl ?_))
   intro g' cap' w9 ho9 hb9 hg9 hor9
   have O9:=Lib.hid (nd_snoc (h:=l) (s:=x) (u:=.slice A3 x.l.length c3) HU.out.1 h2 HU.out.2 HOV.out ho9 hg9);have B9:=Lib.hid hb9;have BS9:=Lib.hid (BS3.out.grown hg9 (own_blk_ne h2 BS3.out (by decide)));have SR9:=Lib.hid (SR3.out.grown hg9 (SR3.out.own_ne h2 (by decide)) (fun j hj=>(h2.lt j hj).1));clear ho9 hb9 hg9 hor9 h2 hsz hbel3;go_wp2;go_roundw
   case rel=>exact ⟨k - 1,l ++ [x],r3,by go_num,by have:=HLK.out;rw[List.length_append];simp;omega,okSnoc HOK.out HX.out,O9.out,BS9.out,SR9.out,B9.out⟩
   case measure=>simp[intOf];omega
end Go.Proofs.YtjnamjkdjcndiaaGreatDoor
