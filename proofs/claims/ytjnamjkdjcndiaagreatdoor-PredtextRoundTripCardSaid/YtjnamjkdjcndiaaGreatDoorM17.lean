/-
  Words, plain laws and contracts on which the walks lean, in one text.
-/
import Derived.Test.YtjnamjkdjcndiaaGreatDoorKNode
namespace Go.Proofs.YtjnamjkdjcndiaaGreatDoor
open Go.RowKit Go.Sort
structure GenP (cs:List Col) (l:List Nd):Prop where
 len:l.length≤7
 ok:∀ k x,l[k]?=some x→NodeOk cs k x
def RetPred (w:World) (cs:List Col) (e:Ending) (w':World):Prop :=
 ∃ (v:Value) (l:List Nd),e=.returned v∧GenP cs l∧SlNd w' v l∧Below w.heap.size w w'
theorem OwnNd.only {w w':World} {B g base:Nat} {v:Value} {l:List Nd} {rest:List Int} (h:OwnNd w base v l) (hs:Src w B 97 g rest) (ho:Only g w w'):OwnNd w' base v l:=by
 obtain ⟨us,h1,h2,h3⟩:=h;exact ⟨us,h1,own_only h2 hs (by decide) ho,fun k s u hk hu=>own_only (h3 k s u hk hu) hs (by decide) ho⟩
theorem OwnNd.sub {w:World} {base:Nat} {v:Value} {l:List Nd} (h:OwnNd w base v l):∃ us:List Value,us.length=l.length∧w.ownsRow base 66 8 v l.length (nds l us)∧∀ (k:Nat) (x:Nd) (u:Value),l[k]?=some x→us[k]?=some u→w.ownsRow base 64 3 u x.l.length (vls x.l):=h
theorem okSnoc {cs:List Col} {l:List Nd} {x:Nd} (h:∀ k x,l[k]?=some x→NodeOk cs k x) (hx:NodeOk cs l.length x):∀ k y,(l ++ [x])[k]?=some y→NodeOk cs k y:=by
 intro k y hy
 by_cases hk:k<l.length
 ·rw[List.getElem?_append_left hk]at hy;exact h k y hy
 ·rw[List.getElem?_append_right (by omega)]at hy;rcases hm:k - l.length with _|m
  ·rw[hm]at hy;simp at hy
   subst hy;obtain rfl:k=l.length:=by omega
   exact hx
  ·rw[hm]at hy;simp at hy
set_option maxRecDepth 100000 in
set_option maxHeartbeats 8000000 in
theorem kpred_any (sv v:Value) (key:Int) (cs:List Col) (zs:List Int) (w:World) (hS:Sl w 4 sv cs.length (cols cs)) (h0:0<cs.length) (hm:cs.length≤1000) (hcv:∀ c ∈ cs,1≤c.ty∧c.ty≤5) (hs:Sl w 1 v zs.length (ints zs)) (hl:zs.length≤9223372036854775807) (hr:∀ x ∈ zs,-9223372036854775808≤x∧x≤9223372036854775807) :
  Calls Tryz.prog 16 #[.agg #[sv,.int .i64 key],v] w (RetPred w cs):=by
 obtain ⟨A,cA,rfl,_,_⟩:=hs.form;obtain ⟨AS,cS,rfl,_,_⟩:=hS.form;have HCV:=Lib.hid hcv;obtain ⟨W,hW⟩:∃ W,W=w.alloc (.cells #[.slice AS cs.length cS,.int .i64 key] 28):=⟨_,rfl⟩
 have hb0:Below w.heap.size w W:=by rw[hW];exact below_new _ _
 have BSW:=Lib.hid (show Blk W w.heap.size 28 #[.slice AS cs.length cS,.int .i64 key] by rw[hW];exact Blk.new _ _ _);have HSW:=Lib.hid (hS.below hb0);have HF:=Lib.hid (from_any _ zs W (hs.below hb0) hl hr);have HBW:=Lib.hid hb0;have hzW:w.heap.size<W.heap.size:=by rw[hW];simp
 clear hs hS hl hr hcv hb0;go_enter Tryz.func16,Tryz.ntmps16
 go_wp2_with fail
 rw[←hW];clear hW;refine HF.out.mono ?_;rintro _ w1 ⟨g,rfl,hb1,hsr⟩;have hge:=hsr.ge;have BS1:=Lib.hid (BSW.out.below hb1 BSW.out.lt);have HB1:=Lib.hid hb1;clear hb1 HF;go_wp2_with fail
 refine (next_any _ g 8 _ w1 hsr (by omega) (by omega)).mono ?_;rintro _ w2 ⟨rfl,ho,hsx⟩;have y1:=nxt_lo 8 zs (by omega);have y2:=nxt_hi 8 zs (by omega);obtain ⟨K,hK⟩:∃ K:Nat,nxt 8 zs=K:=⟨(nxt 8 zs).toNat,by omega⟩
 rw[hK]at y1 y2 ⊢;have BS2:=Lib.hid (BS1.out.grown ho (by intro e;injection e with e;omega));have HB2:=Lib.hid (below_only HB1.out ho hge HB1.out.size);have SR2:=Lib.hid hsx;have hK7:K≤7:=by omega
 clear ho hsx hsr hK y1 y2 BS1 HB1;go_wp2_with fail
 go_loopw [6,7] (fun pl n wr=>∃ (k:Nat) (l:List Nd) (r:List Int),n=.int .i64 k∧l.length+k=K∧(∀ k x,l[k]?=some x→NodeOk cs k x)∧OwnNd wr W.heap.size pl l∧Blk wr w.heap.size 28 #[.slice AS cs.length cS,.int .i64 key]∧Src wr W.heap.size 97 g r∧Below W.heap.size W wr) (fun _ n _=>(intOf n).toNat)
 case atStart=>exact ⟨K,[],_,rfl,by simp,nofun,OwnNd.nil _ _,BS2.out,SR2.out,HB2.out⟩
 case round =>
  clear BS2 SR2 HB2;obtain ⟨k,l,r,rfl,hlk,hok,ho,hbs,hsr,hb⟩:=hrel;have HLK:=Lib.hid hlk;have hk7:k≤7:=by omega
  have hl7:l.length≤7:=by omega
  have HOK:=Lib.hid hok;have HO:=Lib.hid ho;obtain ⟨A2,c2,rfl,hl1,hl2⟩:=ho.form;have HB:=Lib.hid hb;have hWr:=hb.size;have gwr:=hsr.lt;have s0:=hbs.cell 0;have s1:=hbs.cell 1;simp only[jA,jZ,jS]at s0 s1;have HBS:=Lib.hid hbs;have HSR:=Lib.hid hsr;clear hlk hok ho hb hbs hsr;by_cases hlt:0<k
  case neg =>
   obtain rfl:k=0:=by omega
   go_wp2;go_ret;exact ⟨_,l,rfl,⟨hl7,HOK.out⟩,HO.out.sl,bst HBW.out HB.out⟩
  case pos =>
   have hkw:IntKind.i64.wrap ((k:Int) - 1)=(k:Int) - 1:=IntWalk.i64_in _ (by omega);go_wp2_with fail
   clear s0 s1;with_reducible refine (knode_any W.heap.size g l.length _ key cs r wr HSR.out W HSW.out HB.out (Nat.le_refl _) h0 hm HCV.out (by omega)).mono ?_
   rintro _ w3 ⟨x,lu,r3,rfl,hx,hov,ho,hsx⟩;obtain ⟨A3,c3,rfl,_,_⟩:=(Sl.of_own hov).form;obtain ⟨us,h1,h2,h3⟩:=(HO.out.only HSR.out ho).sub;have HU:=Lib.hid (⟨h1,h3⟩:_∧_);have HOV:=Lib.hid (own_mono hov hWr);have BS3:=Lib.hid (HBS.out.grown ho (by intro e;injection e with e;have:=HBS.out.lt;omega));have HB3:=Lib.hid (below_only HB.out ho hge HB.out.size);have SR3:=Lib.hid hsx;have HX:=Lib.hid hx;have hsz:=HB3.out.size;have hbel3:=HB3.out;clear h1 h3 hov ho hsx hx HO HBS HSR HB;go_wp2_with (at_builtin;go_must (refine app1 _ _ h2 hbel3 (Nat.le_refl _) hsz under_nd info_nd rfl (by decide) rfl (one8 _ _ _ _ _ _ _ _ _ _) (by omega) (by omega) rfl rfl rfl rfl ?_))
   intro g' cap' w9 ho9 hb9 hg9 hor9
   have O9:=Lib.hid (nd_snoc (h:=l) (s:=x) (u:=.slice A3 x.l.length c3) HU.out.1 h2 HU.out.2 HOV.out ho9 hg9);have B9:=Lib.hid hb9;have BS9:=Lib.hid (BS3.out.grown hg9 (own_blk_ne h2 BS3.out (by decide)));have SR9:=Lib.hid (SR3.out.grown hg9 (SR3.out.own_ne h2 (by decide)) (fun j hj=>(h2.lt j hj).1));clear ho9 hb9 hg9 hor9 h2 hsz hbel3;go_wp2;go_roundw
   case rel=>exact ⟨k - 1,l ++ [x],r3,by go_num,by have:=HLK.out;rw[List.length_append];simp;omega,okSnoc HOK.out HX.out,O9.out,BS9.out,SR9.out,B9.out⟩
   case measure=>simp[intOf];omega

def RowGen (cs:List Col) (l:List Vl):Prop:=∀ (j:Nat) (c:Col) (v:Vl),cs[j]?=some c→l[j]?=some v→ValOk c.ty c.nu v.nu v.n v.s
theorem RowGen.snoc {cs:List Col} {l:List Vl} {c:Col} {v:Vl} (h:RowGen cs l) (hc:cs[l.length]?=some c) (hv:ValOk c.ty c.nu v.nu v.n v.s):RowGen cs (l ++ [v]):=by
 intro j d x hd hx
 by_cases hj:j<l.length
 ·rw[List.getElem?_append_left hj]at hx;exact h j d x hd hx
 ·by_cases e:j=l.length
  ·subst e;rw[List.getElem?_append_right (Nat.le_refl _),Nat.sub_self]at hx;have hx:=Option.some.inj hx;rw[hc]at hd;have hd:=Option.some.inj hd;subst hd hx;exact hv
  ·rw[List.getElem?_eq_none (by simp;omega)]at hx;cases hx
def RetGRow (w:World) (B g:Nat) (cs:List Col) (e:Ending) (w':World):Prop :=
 ∃ (o:Value) (l:List Vl) (rest:List Int),e=.returned o∧l.length=cs.length∧RowGen cs l∧w'.ownsRow w.heap.size 64 3 o l.length (vls l)∧Only g w w'∧Src w' B 97 g rest
set_option maxRecDepth 100000 in
set_option maxHeartbeats 8000000 in
theorem krow_any (B g:Nat) (v:Value) (key:Int) (cs:List Col) (rest:List Int) (w:World) (hsrc:Src w B 97 g rest) (w0:World) (hs:Sl w0 4 v cs.length (cols cs)) (hb0:Below w0.heap.size w0 w) (hB0:w0.heap.size≤B) (hm:cs.length≤1000) (hcv:∀ c ∈ cs,1≤c.ty∧c.ty≤5) :
  Calls Tryz.prog 38 #[.pointer (some ⟨g,0,none⟩),.agg #[v,.int .i64 key]] w (RetGRow w B g cs):=by
 obtain ⟨A,cA,rfl,hc1,hc2⟩:=hs.form;have hgw:=hsrc.lt;have hBg:=hsrc.ge;obtain ⟨W,hW⟩:∃ W,W=w.alloc (.cells #[.slice A cs.length cA,.int .i64 key] 28):=⟨_,rfl⟩
 have SRW:=Lib.hid (show Src W B 97 g rest by rw[hW];exact hsrc.alloc _);have ONW:=Lib.hid (show Only g w W by rw[hW];exact (Only.refl g w).alloc _);have BSW:=Lib.hid (show Blk W w.heap.size 28 #[.slice A cs.length cA,.int .i64 key] by rw[hW];exact Blk.new _ _ _);have HSL:=Lib.hid hs;have HB0:=Lib.hid hb0;have HCV:=Lib.hid hcv;clear hs hb0 hsrc hcv;go_enter Tryz.func38,Tryz.ntmps38
 go_upto_region 1 with (fail)
 rw[←hW];clear hW;have bb:=BSW.out;have s0:=bb.cell 0;have s1:=bb.cell 1;simp only[jA,jZ,jS]at s0 s1;clear bb;go_wp2_with fail
 go_loopw [5,11] (fun o i wr=>∃ (k:Nat) (l:List Vl) (r:List Int),k≤cs.length∧i=.int .i64 (k:Int)∧l.length=k∧Hid (RowGen cs l)∧wr.ownsRow w.heap.size 64 3 o l.length (vls l)∧Src wr B 97 g r∧Only g w wr∧Blk wr w.heap.size 28 #[.slice A cs.length cA,.int .i64 key]) (fun _ i _=>cs.length - (intOf i).toNat)
 case atStart=>exact ⟨0,[],rest,by omega,rfl,rfl,Lib.hid (fun j c v _ h=>by simp at h),World.ownsRow_nil _ _ _ _,SRW.out,ONW.out,BSW.out⟩
 case round =>
  clear s0 s1;obtain ⟨k,l,r,hk',rfl,hlk,hgen,hown,hsr,hon,bS⟩:=hrel;by_cases hlt:k<cs.length
  ·obtain ⟨A2,c2,rfl,_,_⟩:=(Sl.of_own hown).form;obtain ⟨ad,c,pc,rfl,hc,hpc,hE⟩:=(HSL.out.below (below_only HB0.out hon (by omega) HB0.out.size)).col_load rfl hlt;obtain ⟨_,d0,d1,d2,d3⟩:=hE;have HT:=Lib.hid (HCV.out c (List.mem_of_getElem? hc));have HCC:=Lib.hid (show cs[l.length]?=some c by rw[hlk];exact hc);have HLK:=Lib.hid hlk;have hl1:l.length≤1000:=by omega
   obtain ⟨N5,hN5⟩:∃ N,wr.heap.size=N:=⟨_,rfl⟩
   obtain ⟨V,hV⟩:∃ V,V=wr.alloc (.cells #[.string c.nm,.int .i64 c.ty,.int .i64 c.sc,.bool c.nu] 56):=⟨_,rfl⟩
   have VE:=Lib.hid (show Blk V N5 56 #[.string c.nm,.int .i64 c.ty,.int .i64 c.sc,.bool c.nu] by rw[hV,←hN5];exact Blk.new _ _ _);have VO:=Lib.hid (show V.ownsRow w.heap.size 64 3 (.slice A2 l.length c2) l.length (vls l) by rw[hV];exact hown.alloc _);have VR:=Lib.hid (show Src V B 97 g r by rw[hV];exact hsr.alloc _);have VN:=Lib.hid (show Only g w V by rw[hV];exact hon.alloc _);have VS:=Lib.hid (show Blk V w.heap.size 28 #[.slice (some ad) cs.length cA,.int .i64 key] by rw[hV];exact bS.alloc _);clear hown hsr hon bS hc hlk;go_upto_region 5 with (fail)
   rw[←hV];try simp only[hN5]
   clear hV hN5 d0 d1 d2 d3 hpc;have bb:=VE.out;have n0:=bb.cell 0;have n1:=bb.cell 1;have n2:=bb.cell 2;have n3:=bb.cell 3;simp only[jA,jZ,jS]at n0 n1 n2 n3;clear bb;go_wp2_with fail
   refine (value_any B g c.nm c.ty c.sc c.nu r V VR.out HT.out.1 HT.out.2).mono ?_;rintro _ w4 ⟨b4,n4,s4,r4,rfl,hok4,ho4,hs4⟩;have O4:=own_only VO.out VR.out (by decide) ho4;have S4:=Lib.hid (VS.out.grown ho4 (by intro e;injection e with e;omega));have N4:=Lib.hid (VN.out.trans ho4);have R4:=Lib.hid hs4;have G4:=Lib.hid (hgen.out.snoc (v:=⟨b4,n4,s4⟩) HCC.out hok4);have hsz:w.heap.size≤w4.heap.size:=N4.out.size;clear n0 n1 n2 n3 hok4 ho4 hs4 VO VR VS VN VE hgen;go_wp2_with (at_builtin;go_must (refine app1 _ _ O4 (Below.refl w.heap.size w4) (Nat.le_refl _) hsz under_vl info_vl rfl (by decide) rfl (one_val3 _ _ _) (by omega) (by omega) rfl rfl rfl rfl ?_))
   intro g' cap' w7 ho7 hb7' hg7 hor7
   have O9:=Lib.hid (show w7.ownsRow w.heap.size 64 3 (.slice (some ⟨g',0,none⟩) (l.length+1) cap') (l ++ [(⟨b4,n4,s4⟩:Vl)]).length (vls (l ++ [⟨b4,n4,s4⟩])) by rw[List.length_append,vls_snoc];exact ho7);have S9:=Lib.hid (S4.out.grown hg7 (fun e=>own_blk_ne O4 S4.out (by decide) e));have N9:=Lib.hid (N4.out.grown hg7 (fun k hk=>.inl (O4.lt k hk).1));have R9:=Lib.hid (R4.out.grown hg7 (R4.out.own_ne O4 (by decide)) (fun b hb2=>by have:=(O4.lt b hb2).1;omega));clear O4 S4 N4 R4 ho7 hb7' hg7 hor7;go_wp2;go_roundw
   case rel=>exact ⟨k+1,l ++ [⟨b4,n4,s4⟩],r4,by omega,by go_num,by rw[List.length_append,HLK.out];rfl,G4,O9.out,R9.out,N9.out,S9.out⟩
   case measure=>simp[intOf];omega
  ·have HF:=fun o ho=>Lib.hid (show RetGRow w B g cs (.returned o) wr from ⟨o,l,r,rfl,by omega,hgen.out,ho,hon,hsr⟩)
   have HF:=HF _ hown;clear hown hon hsr bS hlk hgen;go_wp2;go_ret;exact HF.out
def OwnRs (w:World) (base:Nat) (v:Value) (L:List (List Vl)):Prop :=
 ∃ us:List Value,us.length=L.length∧w.ownsRow base 46 1 v L.length us∧∀ (k:Nat) (l:List Vl) (u:Value),L[k]?=some l→us[k]?=some u→w.ownsRow base 64 3 u l.length (vls l)
theorem OwnRs.nil (w:World) (base:Nat):OwnRs w base (.slice none 0 0) []:=⟨[],rfl,World.ownsRow_nil _ _ _ _,fun k s u h=>by simp at h⟩
theorem OwnRs.only {w w':World} {B g base:Nat} {v:Value} {l:List (List Vl)} {rest:List Int} (h:OwnRs w base v l) (hs:Src w B 97 g rest) (ho:Only g w w'):OwnRs w' base v l:=by
 obtain ⟨us,h1,h2,h3⟩:=h;exact ⟨us,h1,own_only h2 hs (by decide) ho,fun k s u hk hu=>own_only (h3 k s u hk hu) hs (by decide) ho⟩
theorem OwnRs.below {w w':World} {base:Nat} {v:Value} {h:List (List Vl)} (ho:OwnRs w base v h) (hb:Below w.heap.size w w'):OwnRs w' base v h:=by
 obtain ⟨us,h1,h2,h3⟩:=ho;exact ⟨us,h1,own_below h2 hb,fun k s u hk hu=>own_below (h3 k s u hk hu) hb⟩
theorem OwnRs.mono' {w:World} {base base':Nat} {v:Value} {h:List (List Vl)} (ho:OwnRs w base v h) (hb:base'≤base):OwnRs w base' v h:=by
 obtain ⟨us,h1,h2,h3⟩:=ho;exact ⟨us,h1,own_mono h2 hb,fun k s u hk hu=>own_mono (h3 k s u hk hu) hb⟩
theorem info_rw:(Tryz.prog.info? 46).map (fun i=>(i.zero,i.size,i.bytes))=some (some (.slice none 0 0),1,24):=by kernel_rfl
theorem under_rw:Tryz.prog.underlying 44=some (.slice 46):=Tryz.underlying44
theorem one_sl (A:Option Addr) (n k:Nat):∀ u ∈ (#[Value.slice A n k]:Array Value).toList,u.oneCell'=true:=by
 intro u hu
 simp only[List.mem_cons,List.not_mem_nil,or_false]at hu;subst hu;rfl
theorem rs_snoc {w w':World} {base:Nat} {v v':Value} {h:List (List Vl)} {us:List Value} {s:List Vl} {u:Value} (h1:us.length=h.length) (h2:w.ownsRow base 46 1 v h.length us)
  (h3:∀ (k:Nat) (s:List Vl) (u:Value),h[k]?=some s→us[k]?=some u→w.ownsRow base 64 3 u s.length (vls s)) (hu:w.ownsRow base 64 3 u s.length (vls s))
  (hn:w'.ownsRow base 46 1 v' (h.length+1) (us ++ [u])) (hg:w.grownBy w' v.ownBlock):OwnRs w' base v' (h ++ [s]):=by
 refine ⟨us ++ [u],by simp[h1],by rw[List.length_append];exact hn,fun k t x hk hx=>?_⟩
 have key:∀ {t:List Vl} {x:Value},w.ownsRow base 64 3 x t.length (vls t)→w'.ownsRow base 64 3 x t.length (vls t):=fun ho=>own_grown ho hg (fun b hb e=>own_ne ho h2 (by decide) b hb e)
 by_cases hlt:k<h.length
 ·rw[List.getElem?_append_left hlt]at hk;rw[List.getElem?_append_left (by omega)]at hx;exact key (h3 k t x hk hx)
 ·rw[List.getElem?_append_right (by omega)]at hk;rw[List.getElem?_append_right (by omega),h1]at hx;rcases hkk:k - h.length with _|m
  ·rw[hkk]at hk hx;simp at hk hx;subst hk hx;exact key hu
  ·rw[hkk]at hk;simp at hk
structure RGood (cs:List Col) (l:List Vl):Prop where
 len:l.length=cs.length
 gen:RowGen cs l
theorem goodSnoc {cs:List Col} {l:List (List Vl)} {x:List Vl} (h:∀ (k:Nat) (x:List Vl),l[k]?=some x→RGood cs x) (hx:RGood cs x):∀ (k:Nat) (y:List Vl),(l ++ [x])[k]?=some y→RGood cs y:=by
 intro k y hy
 by_cases hk:k<l.length
 ·rw[List.getElem?_append_left hk]at hy;exact h k y hy
 ·rw[List.getElem?_append_right (by omega)]at hy;rcases hm:k - l.length with _|m
  ·rw[hm]at hy;simp at hy;subst hy;exact hx
  ·rw[hm]at hy;simp at hy
def RetRows (w:World) (cs:List Col) (e:Ending) (w':World):Prop :=
 ∃ (v:Value) (L:List (List Vl)),e=.returned v∧L.length≤6∧(∀ (k:Nat) (l:List Vl),L[k]?=some l→RGood cs l)∧OwnRs w' w.heap.size v L∧Below w.heap.size w w'
set_option maxRecDepth 100000 in
set_option maxHeartbeats 8000000 in
theorem krows_any (sv v:Value) (key:Int) (cs:List Col) (zs:List Int) (w:World) (hS:Sl w 4 sv cs.length (cols cs)) (hm:cs.length≤1000) (hcv:∀ c ∈ cs,1≤c.ty∧c.ty≤5) (hs:Sl w 1 v zs.length (ints zs)) (hl:zs.length≤9223372036854775807) (hr:∀ x ∈ zs,-9223372036854775808≤x∧x≤9223372036854775807) :
  Calls Tryz.prog 20 #[.agg #[sv,.int .i64 key],v,.int .i64 6] w (RetRows w cs):=by
 obtain ⟨A,cA,rfl,_,_⟩:=hs.form;obtain ⟨AS,cS,rfl,_,_⟩:=hS.form;have HCV:=Lib.hid hcv;obtain ⟨W,hW⟩:∃ W,W=w.alloc (.cells #[.slice AS cs.length cS,.int .i64 key] 28):=⟨_,rfl⟩
 have hb0:Below w.heap.size w W:=by rw[hW];exact below_new _ _
 have BSW:=Lib.hid (show Blk W w.heap.size 28 #[.slice AS cs.length cS,.int .i64 key] by rw[hW];exact Blk.new _ _ _);have HSW:=Lib.hid (hS.below hb0);have HF:=Lib.hid (from_any _ zs W (hs.below hb0) hl hr);have HBW:=Lib.hid hb0;have hzW:w.heap.size<W.heap.size:=by rw[hW];simp
 clear hs hS hl hr hcv hb0;go_enter Tryz.func20,Tryz.ntmps20
 go_wp2_with fail
 rw[←hW];clear hW;refine HF.out.mono ?_;rintro _ w1 ⟨g,rfl,hb1,hsr⟩;have hge:=hsr.ge;have BS1:=Lib.hid (BSW.out.below hb1 BSW.out.lt);have HB1:=Lib.hid hb1;clear hb1 HF;go_wp2_with fail
 refine (next_any _ g 7 _ w1 hsr (by omega) (by omega)).mono ?_;rintro _ w2 ⟨rfl,ho,hsx⟩;have y1:=nxt_lo 7 zs (by omega);have y2:=nxt_hi 7 zs (by omega);obtain ⟨K,hK⟩:∃ K:Nat,nxt 7 zs=K:=⟨(nxt 7 zs).toNat,by omega⟩
 rw[hK]at y1 y2 ⊢;have BS2:=Lib.hid (BS1.out.grown ho (by intro e;injection e with e;omega));have HB2:=Lib.hid (below_only HB1.out ho hge HB1.out.size);have SR2:=Lib.hid hsx;have hK7:K≤6:=by omega
 clear ho hsx hsr hK y1 y2 BS1 HB1;go_wp2_with fail
 go_loopw [8,9] (fun pl n wr=>∃ (k:Nat) (l:List (List Vl)) (r:List Int),n=.int .i64 k∧l.length+k=K∧(∀ (k:Nat) (x:List Vl),l[k]?=some x→RGood cs x)∧OwnRs wr W.heap.size pl l∧Blk wr w.heap.size 28 #[.slice AS cs.length cS,.int .i64 key]∧Src wr W.heap.size 97 g r∧Below W.heap.size W wr) (fun _ n _=>(intOf n).toNat)
 case atStart=>exact ⟨K,[],_,rfl,by simp,nofun,OwnRs.nil _ _,BS2.out,SR2.out,HB2.out⟩
 case round =>
  clear BS2 SR2 HB2;obtain ⟨k,l,r,rfl,hlk,hok,ho,hbs,hsr,hb⟩:=hrel;have HLK:=Lib.hid hlk;have hk7:k≤6:=by omega
  have hl7:l.length≤6:=by omega
  have HOK:=Lib.hid hok;have HO:=Lib.hid ho;obtain ⟨us0,z1,z2,z3⟩:=ho;obtain ⟨A2,c2,rfl,hl1,hl2⟩:=(Sl.of_own z2).form;clear z1 z2 z3;have HB:=Lib.hid hb;have hWr:=hb.size;have gwr:=hsr.lt;have s0:=hbs.cell 0;have s1:=hbs.cell 1;simp only[jA,jZ,jS]at s0 s1;have HBS:=Lib.hid hbs;have HSR:=Lib.hid hsr;clear hlk hok hb hbs hsr;by_cases hlt:0<k
  case neg =>
   obtain rfl:k=0:=by omega
   go_wp2;go_ret;exact ⟨_,l,rfl,hl7,HOK.out,HO.out.mono' (Nat.le_of_lt hzW),bst HBW.out HB.out⟩
  case pos =>
   have hkw:IntKind.i64.wrap ((k:Int) - 1)=(k:Int) - 1:=IntWalk.i64_in _ (by omega);go_wp2_with fail
   clear s0 s1;with_reducible refine (krow_any W.heap.size g _ key cs r wr HSR.out W HSW.out HB.out (Nat.le_refl _) hm HCV.out).mono ?_
   rintro _ w3 ⟨lu,x,r3,rfl,hxl,hxg,hov,ho,hsx⟩;obtain ⟨A3,c3,rfl,_,_⟩:=(Sl.of_own hov).form;obtain ⟨us,h1,h2,h3⟩:=HO.out.only HSR.out ho;have HU:=Lib.hid (⟨h1,h3⟩:_∧_);have HOV:=Lib.hid (own_mono hov hWr);have BS3:=Lib.hid (HBS.out.grown ho (by intro e;injection e with e;have:=HBS.out.lt;omega));have HB3:=Lib.hid (below_only HB.out ho hge HB.out.size);have SR3:=Lib.hid hsx;have HX:=Lib.hid (RGood.mk hxl hxg);have hsz:=HB3.out.size;have hbel3:=HB3.out;clear h1 h3 hov ho hsx hxl hxg HO HBS HSR HB;go_wp2_with (at_builtin;go_must (refine app1 _ _ h2 hbel3 (Nat.le_refl _) hsz under_rw info_rw rfl (by decide) rfl (one_sl _ _ _) (by omega) (by omega) rfl rfl rfl rfl ?_))
   intro g' cap' w9 ho9 hb9 hg9 hor9
   have O9:=Lib.hid (rs_snoc (h:=l) (s:=x) (u:=.slice A3 x.length c3) HU.out.1 h2 HU.out.2 HOV.out ho9 hg9);have B9:=Lib.hid hb9;have BS9:=Lib.hid (BS3.out.grown hg9 (own_blk_ne h2 BS3.out (by decide)));have SR9:=Lib.hid (SR3.out.grown hg9 (SR3.out.own_ne h2 (by decide)) (fun j hj=>(h2.lt j hj).1));clear ho9 hb9 hg9 hor9 h2 hsz hbel3;go_wp2;go_roundw
   case rel=>exact ⟨k - 1,l ++ [x],r3,by go_num,by have:=HLK.out;rw[List.length_append];simp;omega,goodSnoc HOK.out HX.out,O9.out,BS9.out,SR9.out,B9.out⟩
   case measure=>simp[intOf];omega
end Go.Proofs.YtjnamjkdjcndiaaGreatDoor
