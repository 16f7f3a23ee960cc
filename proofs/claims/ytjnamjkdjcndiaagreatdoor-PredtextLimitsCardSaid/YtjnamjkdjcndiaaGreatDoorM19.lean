/-
  Words, plain laws and contracts on which the walks lean, in one text.
-/
import Derived.Test.YtjnamjkdjcndiaaGreatDoorPar5
import Derived.Test.YtjnamjkdjcndiaaGreatDoorPLeaf
import Derived.Test.YtjnamjkdjcndiaaGreatDoorM17
import Derived.Test.YtjnamjkdjcndiaaGreatDoorM13
import Derived.Test.YtjnamjkdjcndiaaGreatDoorRVPar
namespace Go.Proofs.YtjnamjkdjcndiaaGreatDoor
open Go.RowKit Go.Sort

theorem find_succ {P:Nat→Bool} {k:Nat} (h:∀ j,j<k→P j=false) (hk:P k=true) {n:Nat} (hn:k<n):(List.range n).find? P=some k:=by
 rw[List.find?_eq_some_iff_append]
 refine ⟨hk,List.range k,(List.range' (k+1) (n - (k+1))),?_,fun a ha=>by rw[h a (List.mem_range.1 ha)];rfl⟩
 rw[List.range_eq_range',List.range_eq_range',show n=k+(1+(n - (k+1))) by omega,←List.range'_append_1,←List.range'_append_1]
 simp;omega
theorem opW_at {l:List UInt8} {k:Nat} (h:∀ j:Nat,j<k→wordP ((j:Int)+1)≠l) (hk:wordP ((k:Int)+1)=l) (h11:k<11):opW l=k+1:=by
 unfold opW
 rw[find_succ (k:=k) (fun j hj=>by simpa using h j hj) (by simpa using hk) h11]
 rfl
theorem opW_none {l:List UInt8} (h:∀ j:Nat,j<11→wordP ((j:Int)+1)≠l):opW l=0:=by
 unfold opW
 have:(List.range 11).find? (fun k:Nat=>wordP ((k:Int)+1)==l)=none:=by
  rw[List.find?_eq_none]
  intro k hk
  simpa using h k (List.mem_range.1 hk)
 rw[this];rfl
theorem opW_le (l:List UInt8):opW l≤11:=by
 unfold opW
 cases h:(List.range 11).find? (fun k:Nat=>wordP ((k:Int)+1)==l) with
 | none=>simp
 | some k =>
  have:=List.mem_range.1 (List.mem_of_find?_eq_some h)
  show k+1≤11
  omega
set_option maxRecDepth 100000 in
set_option maxHeartbeats 8000000 in
theorem pidx_any (q:Nat) (W:ByteArray) (w:World) (hB:Blk w q 9 #[.string { data:=#[101,113] },.string { data:=#[110,101] },.string { data:=#[108,116] },.string { data:=#[108,101] },.string { data:=#[103,116] },.string { data:=#[103,101] },.string { data:=#[105,110] },.string { data:=#[110,117,108,108] },.string { data:=#[97,110,100] },.string { data:=#[111,114] },.string { data:=#[110,111,116] }]) :
  Calls Tryz.prog 45 #[.slice (some ⟨q,0,none⟩) 11 11,.string W] w fun e w'=>e=.returned (.int .i64 ((opW W.data.toList:Int) - 1))∧Below w.heap.size w w':=by
 have HB:=Lib.hid hB
 clear hB
 go_enter Tryz.func45,Tryz.ntmps45
 go_wp2_with fail
 go_loopw [8] (fun n wr=>∃ k:Nat,k≤11∧n=.int .i64 (k:Int)∧Hid (∀ j:Nat,j<k→wordP ((j:Int)+1)≠W.data.toList)∧Below w.heap.size w wr) (fun n _=>11 - (intOf n).toNat)
 case atStart=>exact ⟨0,by omega,rfl,Lib.hid (fun j hj=>by omega),Below.refl _ _⟩
 case round =>
  obtain ⟨k,hk,rfl,hno,hbel⟩:=hrel
  have HB2:=Lib.hid (HB.out.below hbel HB.out.lt)
  have HBE:=Lib.hid hbel
  clear hbel
  by_cases hlt:k<11
  ·obtain ⟨J,B,hJ,hJ11,hBJ,hBW⟩:=word_at (op:=(k:Int)+1) (by omega) (by omega)
   obtain rfl:J=k:=by omega
   have cc:=HB2.out.cell J
   rw[hBJ]at cc
   rw[←hJ]at hBW
   have qJ:decide (J<11)=true:=decide_eq_true hlt
   have pJ:((J:Int)<11)=True:=eq_true (by omega)
   have wJ:IntKind.i64.wrap ((J:Int)+1)=(J:Int)+1:=IntWalk.i64_in _ (by omega)
   by_cases he:W.data.toList=B.data.toList
   ·have q1:(W.toList==B.toList)=true:=by rw[Go.ByteArray.toList_eq,Go.ByteArray.toList_eq,he];exact beq_self_eq_true _
    have HR:=Lib.hid (opW_at hno.out (by rw[he,hBW]) hlt)
    clear he hBW hBJ hno hJ
    go_wp2
    go_ret
    rw[HR.out]
    exact ⟨by rw[show (((J+1:Nat):Int) - 1)=(J:Int) by omega];rfl,HBE.out⟩
   ·have q1:(W.toList==B.toList)=false:=by rw[Go.ByteArray.toList_eq,Go.ByteArray.toList_eq];simpa using he
    have HN:=Lib.hid (show ∀ j:Nat,j<J+1→wordP ((j:Int)+1)≠W.data.toList by
     intro j hj
     by_cases e:j=J
     ·subst e;rw[hJ]at *;intro h;exact he (by rw[←h,hBW])
     ·exact hno.out j (by omega))
    clear he hBW hBJ hno hJ
    go_wp2
    go_roundw
    case rel=>exact ⟨J+1,by omega,by rw[show ((J+1:Nat):Int)=(J:Int)+1 by omega],HN,HBE.out⟩
    case measure=>simp[intOf];omega
  ·obtain rfl:k=11:=by omega
   have HR:=Lib.hid (opW_none hno.out)
   clear hno
   go_wp2
   go_ret
   rw[HR.out]
   exact ⟨rfl,HBE.out⟩
def RetNodeP (w:World) (g:Nat) (sv:Value) (key wh e0:Int) (S:ByteArray) (base:Nat) (nv:Value) (r:Except (Nat×Int) (Nat×List Nd)) (e:Ending) (w':World):Prop :=
 Kp (fun i=>i=g∨nv.ownBlock=some i) w w'∧match r with
 | .ok (j,l)=>e=.returned (.bool true)∧j≤S.size∧1≤l.length∧l.length≤64∧∃ nv',Blk w' g 54 #[sv,.int .i64 key,.string S,.int .i64 j,nv',.int .i64 wh,.int .i64 e0]∧OwnNd w' base nv' l∧(∀ b,nv'.ownBlock=some b→nv.ownBlock=some b∨w.heap.size≤b)
 | .error (k,er)=>e=.returned (.bool false)∧∃ (i n c:Nat) (A:Option Addr),n≤64∧Blk w' g 54 #[sv,.int .i64 key,.string S,.int .i64 i,.slice A n c,.int .i64 k,.int .i64 er]
def HNode (w0:World) (g:Nat) (sv:Value) (key wh e0:Int) (S:ByteArray) (cs:List Col) (base f:Nat):Prop :=
 ∀ (i:Nat) (nv:Value) (l:List Nd) (w:World),Blk w g 54 #[sv,.int .i64 key,.string S,.int .i64 i,nv,.int .i64 wh,.int .i64 e0]→i≤S.size→S.size<i+f→OwnNd w base nv l→l.length≤64→Below w0.heap.size w0 w→base≤w.heap.size →
  Calls Tryz.prog 23 #[.pointer (some ⟨g,0,none⟩)] w (RetNodeP w g sv key wh e0 S base nv (parN cs S.data.toList f i l))
def RetChildP (w:World) (g N o:Nat) (sv:Value) (key wh e0:Int) (S:ByteArray) (base:Nat) (Z:Array Value) (nv:Value) (r:Except (Nat×Int) (Nat×List Nd)) (e:Ending) (w':World):Prop :=
 Kp (fun i=>i=g∨i=N∨nv.ownBlock=some i) w w'∧match r with
 | .ok (j,l)=>e=.returned (.bool true)∧j≤S.size∧1≤l.length∧l.length≤64∧∃ nv',Blk w' g 54 #[sv,.int .i64 key,.string S,.int .i64 j,nv',.int .i64 wh,.int .i64 e0]∧OwnNd w' base nv' l∧(∀ b,nv'.ownBlock=some b→nv.ownBlock=some b∨w.heap.size≤b)∧Blk w' N 66 (Z.setIfInBounds o (.int .i64 ((l.length:Int) - 1)))
 | .error (k,er)=>e=.returned (.bool false)∧∃ (i n c:Nat) (A:Option Addr),n≤64∧Blk w' g 54 #[sv,.int .i64 key,.string S,.int .i64 i,.slice A n c,.int .i64 k,.int .i64 er]
theorem OwnNd.turn {w w':World} {base b:Nat} {v:Value} {l:List Nd} (h:OwnNd w base v l) (k:w.grownBy w' (some b)) (hv:v.ownBlock≠some b) {cs:Array Value} {t:TypeId} (hb:Blk w b t cs) (ht:64≠t):OwnNd w' base v l:=by
 obtain ⟨us,h1,h2,h3⟩:=h
 exact ⟨us,h1,own_grown h2 k (fun g hg e=>hv (by rw[hg,e])),fun j s u hk hu=>own_grown (h3 j s u hk hu) k (fun g hg e=>own_blk_ne (h3 j s u hk hu) hb ht (by rw[hg,e]))⟩
theorem OwnNd.ne {w:World} {base b:Nat} {v:Value} {l:List Nd} (h:OwnNd w base v l) {cs:Array Value} {t:TypeId} (hb:Blk w b t cs) (ht:66≠t):v.ownBlock≠some b:=by
 obtain ⟨us,h1,h2,h3⟩:=h
 exact own_blk_ne h2 hb ht
set_option maxRecDepth 100000 in
set_option maxHeartbeats 8000000 in
theorem pchild_any (w0:World) (g N i f o base:Nat) (sv nv:Value) (l:List Nd) (key wh e0 z:Int) (S:ByteArray) (cs:List Col) (Z:Array Value) (w:World) (hrec:HNode w0 g sv key wh e0 S cs base f)
  (hB:Blk w g 54 #[sv,.int .i64 key,.string S,.int .i64 i,nv,.int .i64 wh,.int .i64 e0]) (hi:i≤S.size) (hf:S.size<i+f) (ho:OwnNd w base nv l) (hl:l.length≤64) (hb0:Below w0.heap.size w0 w) (hbase:base≤w.heap.size) (hN:Blk w N 66 Z) (hZ:Z[o]?=some (.int .i64 z)) (hgN:g≠N) (hnv:nv.ownBlock≠some N) :
  Calls Tryz.prog 69 #[.pointer (some ⟨g,0,none⟩),.pointer (some ⟨N,o,none⟩)] w (RetChildP w g N o sv key wh e0 S base Z nv (parN cs S.data.toList f i l)):=by
 have HC:=Lib.hid (hrec i nv l w hB hi hf ho hl hb0 hbase)
 obtain ⟨r,hr⟩:∃ r,parN cs S.data.toList f i l=r:=⟨_,rfl⟩
 rw[hr]at HC ⊢
 have HN:=Lib.hid hN
 have HZ:=Lib.hid hZ
 clear hr hrec hB hf ho hb0 hN hZ
 go_enter Tryz.func69,Tryz.ntmps69
 go_wp2_with fail
 refine HC.out.mono ?_
 rintro e w1 hret
 clear HC
 cases r with
 | ok r =>
  obtain ⟨j,l1⟩:=r
  obtain ⟨hk,rfl,hj,hl1,hl2,nv',hB,hO,hob⟩:=hret
  obtain ⟨A,cA,rfl,hc1,hc2⟩:=hO.form
  have HK:=Lib.hid hk
  have HB:=Lib.hid hB
  have HO:=Lib.hid hO
  have HOB:=Lib.hid hob
  have hNn:¬ (fun i=>i=g∨nv.ownBlock=some i) N:=by rintro (h | h);exact hgN h.symm;exact hnv h
  have hN1:=HN.out.kp hk hNn
  have HN1:=Lib.hid hN1
  have c4:=hB.cell 4
  simp only[jA,jZ,jS]at c4
  have co:=hN1.cell o
  rw[HZ.out]at co
  have fo:=hN1.frozen o
  have wl:IntKind.i64.wrap ((l1.length:Int) - 1)=(l1.length:Int) - 1:=IntWalk.i64_in _ (by omega)
  have hlN:=hN1.lt
  clear hk hB hO hob hN1
  go_wp2
  go_ret
  have kg:=grownBy_set w1 ⟨N,o,none⟩ (.int .i64 ((l1.length:Int) - 1))
  have hvN:(Value.slice A l1.length cA).ownBlock≠some N:=by
   intro h
   rcases HOB.out N h with h|h
   ·exact hnv h
   ·have:=HN.out.lt;omega
  refine ⟨(HK.out.mono (S':=fun i=>i=g∨i=N∨nv.ownBlock=some i) (fun i _ h=>by rcases h with h | h;exact .inl h;exact .inr (.inr h))).set (p:=⟨N,o,none⟩) (.inl (.inr (.inl rfl))) _,rfl,hj,hl1,hl2,_,HB.out.row kg hgN,HO.out.turn kg hvN HN1.out (by decide),HOB.out,HN1.out.set_ o _⟩
 | error r =>
  obtain ⟨k,er⟩:=r
  obtain ⟨hk,rfl,j,n,c,A,hn,hB⟩:=hret
  have HK:=Lib.hid hk
  have HB:=Lib.hid hB
  have hNn:¬ (fun i=>i=g∨nv.ownBlock=some i) N:=by rintro (h | h);exact hgN h.symm;exact hnv h
  have hN1:=HN.out.kp hk hNn
  have c4:=hB.cell 4
  simp only[jA,jZ,jS]at c4
  have co:=hN1.cell o
  rw[HZ.out]at co
  have fo:=hN1.frozen o
  have wl:IntKind.i64.wrap ((n:Int) - 1)=(n:Int) - 1:=IntWalk.i64_in _ (by omega)
  have hlN:=hN1.lt
  clear hk hB hN1
  go_wp2
  go_ret
  have kg:=grownBy_set w1 ⟨N,o,none⟩ (.int .i64 ((n:Int) - 1))
  exact ⟨(HK.out.mono (S':=fun i=>i=g∨i=N∨nv.ownBlock=some i) (fun i _ h=>by rcases h with h | h;exact .inl h;exact .inr (.inr h))).set (p:=⟨N,o,none⟩) (.inl (.inr (.inl rfl))) _,rfl,j,n,c,A,hn,HB.out.row kg hgN⟩

theorem we_eq {T:List UInt8} {k:Nat}:we T k=k ↔ wd T k=[]:=by
 unfold we
 constructor
 ·intro h;exact List.length_eq_zero_iff.1 (by omega)
 ·intro h;rw[h];rfl
def RetRNext (w:World) (g:Nat) (sv nv:Value) (key wh:Int) (S:ByteArray) (T:List UInt8) (k m:Nat) (e:Ending) (w':World):Prop :=
 ∃ W:ByteArray,W.data.toList=T∧e=.returned (.tuple #[.string W,.int .i64 (k:Nat)])∧Only g w w'∧(T=[]→Blk w' g 106 #[sv,.int .i64 key,.string S,.int .i64 (m:Nat),nv,.int .i64 2,.int .i64 (k:Nat)])∧(T≠[]→Blk w' g 106 #[sv,.int .i64 key,.string S,.int .i64 (m:Nat),nv,.int .i64 0,.int .i64 wh])
set_option maxRecDepth 100000 in
set_option maxHeartbeats 8000000 in
theorem rnext_any (g i:Nat) (sv nv:Value) (key wh:Int) (S:ByteArray) (w:World) (hB:Blk w g 106 #[sv,.int .i64 key,.string S,.int .i64 i,nv,.int .i64 0,.int .i64 wh]) (hi:i≤S.size) (hS:S.size≤65536) :
  Calls Tryz.prog 85 #[.pointer (some ⟨g,0,none⟩)] w (RetRNext w g sv nv key wh S (wd S.data.toList (sk S.data.toList i)) (sk S.data.toList i) (we S.data.toList (sk S.data.toList i))):=by
 have HSK:=Lib.hid (rspace_any g i sv nv key wh 0 S w hB hi hS)
 have hk:=sk_le (T:=S.data.toList) (by rw[size_data];exact hi)
 rw[size_data]at hk
 obtain ⟨k,hkk⟩:∃ k,sk S.data.toList i=k:=⟨_,rfl⟩
 rw[hkk]at HSK hk ⊢
 clear hB hkk
 go_enter Tryz.func85,Tryz.ntmps85
 go_wp2_with fail
 refine HSK.out.mono ?_
 rintro _ w1 ⟨rfl,hB,ho⟩
 have HB:=Lib.hid hB
 have HO:=Lib.hid ho
 have c3:=hB.cell 3
 simp only[jA,jZ,jS]at c3
 clear hB ho HSK
 go_wp2_with fail
 clear c3
 go_loopg [] (S.size - k) (fun n wr=>∃ j:Nat,k≤j∧j≤S.size∧n=S.size - j∧Blk wr g 106 #[sv,.int .i64 key,.string S,.int .i64 j,nv,.int .i64 0,.int .i64 wh]∧Hid (we S.data.toList j=we S.data.toList k)∧Only g w wr)
 case atStart=>exact ⟨k,Nat.le_refl _,hk,rfl,HB.out,Lib.hid rfl,HO.out⟩
 case round =>
  clear HB HO
  obtain ⟨j,hkj,hj,hn,hb,hwe,ho⟩:=hrel
  have HN:=Lib.hid hn
  have HBJ:=Lib.hid hb
  have HO:=Lib.hid ho
  clear hn ho
  have c2:=hb.cell 2
  have c3:=hb.cell 3
  have f3:=hb.frozen 3
  simp only[jA,jZ,jS]at c2 c3
  clear hb
  by_cases hlt:j<S.size
  ·by_cases hw:wdB S[j]=true
   ·have hne:=wdB_ne hw
    have q1:((S[j].toNat:Int) != 32)=true:=by rw[bne_iff_ne];intro h;exact hne.1 (UInt8.toNat_inj.1 (by show S[j].toNat=32;omega))
    have q2:((S[j].toNat:Int) != 40)=true:=by rw[bne_iff_ne];intro h;exact hne.2 (.inl (UInt8.toNat_inj.1 (by show S[j].toNat=40;omega)))
    have q3:((S[j].toNat:Int) != 41)=true:=by rw[bne_iff_ne];intro h;exact hne.2 (.inr (UInt8.toNat_inj.1 (by show S[j].toNat=41;omega)))
    have HWE:=Lib.hid (show we S.data.toList (j+1)=we S.data.toList k by rw[←hwe.out];exact (we_go (get_data S j hlt) hw).symm)
    have q5:IntKind.i64.wrap ((j:Int)+1)=(j:Int)+1:=IntWalk.i64_in _ (by omega)
    clear hw hwe hne
    go_wp2_with fail
    go_quiet (fail)
    go_wp2
    have kb:=(HBJ.out.drewN nq).set_ 3 (.int .i64 ((j:Int)+1))
    simp only[jI,jY,jT]at kb
    have ko:=(HO.out.drewN nq).set_ 3 (.int .i64 ((j:Int)+1))
    go_roundg (S.size - (j+1))
    case rel=>exact ⟨j+1,by omega,by omega,rfl,by rw[show ((j+1:Nat):Int)=(j:Int)+1 by omega];exact kb,Lib.hid HWE.out,ko⟩
    case measure=>have:=HN.out;omega
   ·have hwf:wdB S[j]=false:=by simpa using hw
    have HWE:=Lib.hid (show we S.data.toList k=j by rw[←hwe.out];exact we_stop (wd_stop (get_data S j hlt) hwf))
    rcases wdB_not hwf with h|h|h
    ·have q1:((S[j].toNat:Int) != 32)=false:=by rw[h];rfl
     clear h hw hwe hwf
     go_wp2_with fail
     go_quiet (fail)
     have HBX:=Lib.hid (HBJ.out.drewN nq)
     have HOX:=Lib.hid (HO.out.drewN nq)
     clear HBJ HO
     have c2:=HBX.out.cell 2
     have c3:=HBX.out.cell 3
     simp only[jA,jZ,jS]at c2 c3
     have hjk:(k:Int)≤(j:Int):=by omega
     have hjs:(j:Int)≤(S.size:Int):=by omega
     by_cases hjk0:j=k
     ·have q9:((j:Int)==(k:Int))=true:=by rw[beq_iff_eq];omega
      have hT:=Lib.hid (show wd S.data.toList k=[] from we_eq.1 (by rw[HWE.out];exact hjk0))
      go_wp2_with fail
      refine (rfail_first g j sv nv key wh _ _ S _ HBX.out).mono ?_
      rintro _ w2 ⟨rfl,hB2,ho2⟩
      have HB2:=Lib.hid hB2
      have HO2:=Lib.hid (HOX.out.trans ho2)
      clear hB2 ho2 c2 c3 hjk0
      have c2:=HB2.out.cell 2
      have c3:=HB2.out.cell 3
      simp only[jA,jZ,jS]at c2 c3
      go_wp2_with fail
      go_quiet (fail)
      go_wp2
      exact bodyPost_ret (results_tmp2 Tryz.results85 _ _ _) rfl (by
       unfold RetRNext
       rw[HWE.out]
       exact ⟨_,by rw[ext_list,←HWE.out];exact wd_slice _ _,rfl,HO2.out.drewN _,fun _=>HB2.out.drewN _,fun h=>absurd hT.out h⟩)
     ·have q9:((j:Int)==(k:Int))=false:=by rw[beq_eq_false_iff_ne];omega
      have hT:=Lib.hid (show wd S.data.toList k≠[] from fun h=>hjk0 (by rw[←HWE.out];exact we_eq.2 h))
      clear hjk0
      go_wp2_with fail
      go_quiet (fail)
      go_wp2
      exact bodyPost_ret (results_tmp2 Tryz.results85 _ _ _) rfl (by
       unfold RetRNext
       rw[HWE.out]
       exact ⟨_,by rw[ext_list,←HWE.out];exact wd_slice _ _,rfl,HOX.out.drewN _,fun h=>absurd h hT.out,fun _=>HBX.out.drewN _⟩)
    ·have q1:((S[j].toNat:Int) != 32)=true:=by rw[h];rfl
     have q2:((S[j].toNat:Int) != 40)=false:=by rw[h];rfl
     clear h hw hwe hwf
     go_wp2_with fail
     go_quiet (fail)
     have HBX:=Lib.hid (HBJ.out.drewN nq)
     have HOX:=Lib.hid (HO.out.drewN nq)
     clear HBJ HO
     have c2:=HBX.out.cell 2
     have c3:=HBX.out.cell 3
     simp only[jA,jZ,jS]at c2 c3
     have hjk:(k:Int)≤(j:Int):=by omega
     have hjs:(j:Int)≤(S.size:Int):=by omega
     by_cases hjk0:j=k
     ·have q9:((j:Int)==(k:Int))=true:=by rw[beq_iff_eq];omega
      have hT:=Lib.hid (show wd S.data.toList k=[] from we_eq.1 (by rw[HWE.out];exact hjk0))
      go_wp2_with fail
      refine (rfail_first g j sv nv key wh _ _ S _ HBX.out).mono ?_
      rintro _ w2 ⟨rfl,hB2,ho2⟩
      have HB2:=Lib.hid hB2
      have HO2:=Lib.hid (HOX.out.trans ho2)
      clear hB2 ho2 c2 c3 hjk0
      have c2:=HB2.out.cell 2
      have c3:=HB2.out.cell 3
      simp only[jA,jZ,jS]at c2 c3
      go_wp2_with fail
      go_quiet (fail)
      go_wp2
      exact bodyPost_ret (results_tmp2 Tryz.results85 _ _ _) rfl (by
       unfold RetRNext
       rw[HWE.out]
       exact ⟨_,by rw[ext_list,←HWE.out];exact wd_slice _ _,rfl,HO2.out.drewN _,fun _=>HB2.out.drewN _,fun h=>absurd hT.out h⟩)
     ·have q9:((j:Int)==(k:Int))=false:=by rw[beq_eq_false_iff_ne];omega
      have hT:=Lib.hid (show wd S.data.toList k≠[] from fun h=>hjk0 (by rw[←HWE.out];exact we_eq.2 h))
      clear hjk0
      go_wp2_with fail
      go_quiet (fail)
      go_wp2
      exact bodyPost_ret (results_tmp2 Tryz.results85 _ _ _) rfl (by
       unfold RetRNext
       rw[HWE.out]
       exact ⟨_,by rw[ext_list,←HWE.out];exact wd_slice _ _,rfl,HOX.out.drewN _,fun h=>absurd h hT.out,fun _=>HBX.out.drewN _⟩)
    ·have q1:((S[j].toNat:Int) != 32)=true:=by rw[h];rfl
     have q2:((S[j].toNat:Int) != 40)=true:=by rw[h];rfl
     have q3:((S[j].toNat:Int) != 41)=false:=by rw[h];rfl
     clear h hw hwe hwf
     go_wp2_with fail
     go_quiet (fail)
     have HBX:=Lib.hid (HBJ.out.drewN nq)
     have HOX:=Lib.hid (HO.out.drewN nq)
     clear HBJ HO
     have c2:=HBX.out.cell 2
     have c3:=HBX.out.cell 3
     simp only[jA,jZ,jS]at c2 c3
     have hjk:(k:Int)≤(j:Int):=by omega
     have hjs:(j:Int)≤(S.size:Int):=by omega
     by_cases hjk0:j=k
     ·have q9:((j:Int)==(k:Int))=true:=by rw[beq_iff_eq];omega
      have hT:=Lib.hid (show wd S.data.toList k=[] from we_eq.1 (by rw[HWE.out];exact hjk0))
      go_wp2_with fail
      refine (rfail_first g j sv nv key wh _ _ S _ HBX.out).mono ?_
      rintro _ w2 ⟨rfl,hB2,ho2⟩
      have HB2:=Lib.hid hB2
      have HO2:=Lib.hid (HOX.out.trans ho2)
      clear hB2 ho2 c2 c3 hjk0
      have c2:=HB2.out.cell 2
      have c3:=HB2.out.cell 3
      simp only[jA,jZ,jS]at c2 c3
      go_wp2_with fail
      go_quiet (fail)
      go_wp2
      exact bodyPost_ret (results_tmp2 Tryz.results85 _ _ _) rfl (by
       unfold RetRNext
       rw[HWE.out]
       exact ⟨_,by rw[ext_list,←HWE.out];exact wd_slice _ _,rfl,HO2.out.drewN _,fun _=>HB2.out.drewN _,fun h=>absurd hT.out h⟩)
     ·have q9:((j:Int)==(k:Int))=false:=by rw[beq_eq_false_iff_ne];omega
      have hT:=Lib.hid (show wd S.data.toList k≠[] from fun h=>hjk0 (by rw[←HWE.out];exact we_eq.2 h))
      clear hjk0
      go_wp2_with fail
      go_quiet (fail)
      go_wp2
      exact bodyPost_ret (results_tmp2 Tryz.results85 _ _ _) rfl (by
       unfold RetRNext
       rw[HWE.out]
       exact ⟨_,by rw[ext_list,←HWE.out];exact wd_slice _ _,rfl,HOX.out.drewN _,fun h=>absurd h hT.out,fun _=>HBX.out.drewN _⟩)
  ·have HWE:=Lib.hid (show we S.data.toList k=j by rw[←hwe.out];exact we_stop (wd_end (by rw[size_data];omega)))
   clear hwe
   go_wp2_with fail
   go_quiet (fail)
   have HBX:=Lib.hid (HBJ.out.drewN nq)
   have HOX:=Lib.hid (HO.out.drewN nq)
   clear HBJ HO
   have c2:=HBX.out.cell 2
   have c3:=HBX.out.cell 3
   simp only[jA,jZ,jS]at c2 c3
   have hjk:(k:Int)≤(j:Int):=by omega
   have hjs:(j:Int)≤(S.size:Int):=by omega
   by_cases hjk0:j=k
   ·have q9:((j:Int)==(k:Int))=true:=by rw[beq_iff_eq];omega
    have hT:=Lib.hid (show wd S.data.toList k=[] from we_eq.1 (by rw[HWE.out];exact hjk0))
    go_wp2_with fail
    refine (rfail_first g j sv nv key wh _ _ S _ HBX.out).mono ?_
    rintro _ w2 ⟨rfl,hB2,ho2⟩
    have HB2:=Lib.hid hB2
    have HO2:=Lib.hid (HOX.out.trans ho2)
    clear hB2 ho2 c2 c3 hjk0
    have c2:=HB2.out.cell 2
    have c3:=HB2.out.cell 3
    simp only[jA,jZ,jS]at c2 c3
    go_wp2_with fail
    go_quiet (fail)
    go_wp2
    exact bodyPost_ret (results_tmp2 Tryz.results85 _ _ _) rfl (by
     unfold RetRNext
     rw[HWE.out]
     exact ⟨_,by rw[ext_list,←HWE.out];exact wd_slice _ _,rfl,HO2.out.drewN _,fun _=>HB2.out.drewN _,fun h=>absurd hT.out h⟩)
   ·have q9:((j:Int)==(k:Int))=false:=by rw[beq_eq_false_iff_ne];omega
    have hT:=Lib.hid (show wd S.data.toList k≠[] from fun h=>hjk0 (by rw[←HWE.out];exact we_eq.2 h))
    clear hjk0
    go_wp2_with fail
    go_quiet (fail)
    go_wp2
    exact bodyPost_ret (results_tmp2 Tryz.results85 _ _ _) rfl (by
     unfold RetRNext
     rw[HWE.out]
     exact ⟨_,by rw[ext_list,←HWE.out];exact wd_slice _ _,rfl,HOX.out.drewN _,fun h=>absurd h hT.out,fun _=>HBX.out.drewN _⟩)
set_option maxRecDepth 100000 in
set_option maxHeartbeats 8000000 in
theorem roper_any (W:ByteArray) (w:World):Calls Tryz.prog 86 #[.string W] w fun e w'=>e=.returned (.int .i64 (opW W.data.toList:Nat))∧Below w.heap.size w w':=by
 go_enter Tryz.func86,Tryz.ntmps86
 go_wp2_with fail
 go_loopw [3] (fun n wr=>∃ k:Nat,k≤11∧n=.int .i64 ((k:Int)+1)∧Hid (∀ j:Nat,j<k→wordP ((j:Int)+1)≠W.data.toList)∧Below w.heap.size w wr) (fun n _=>12 - (intOf n).toNat)
 case atStart=>exact ⟨0,by omega,rfl,Lib.hid (fun j hj=>by omega),Below.refl _ _⟩
 case round =>
  obtain ⟨k,hk,rfl,hno,hbel⟩:=hrel
  have HBE:=Lib.hid hbel
  clear hbel
  by_cases hlt:k<11
  ·have ql:decide ((k:Int)+1≤11)=true:=decide_eq_true (by omega)
   have wJ:IntKind.i64.wrap ((k:Int)+1+1)=(k:Int)+1+1:=IntWalk.i64_in _ (by omega)
   by_cases he:W.data.toList=wordP ((k:Int)+1)
   ·have q1:(wordP ((k:Int)+1)==W.toList)=true:=by rw[Go.ByteArray.toList_eq,he];exact beq_self_eq_true _
    have HR:=Lib.hid (opW_at hno.out he.symm hlt)
    clear he hno
    go_wp2_with fail
    refine (rword_any _ (by omega) (by omega) wr).mono ?_
    rintro _ _ ⟨rfl,rfl⟩
    go_wp2
    go_ret
    rw[HR.out]
    exact ⟨by rw[show ((k+1:Nat):Int)=(k:Int)+1 by omega];rfl,HBE.out⟩
   ·have q1:(wordP ((k:Int)+1)==W.toList)=false:=by rw[Go.ByteArray.toList_eq];simpa using fun h=>he h.symm
    have HN:=Lib.hid (show ∀ j:Nat,j<k+1→wordP ((j:Int)+1)≠W.data.toList by
     intro j hj
     by_cases e:j=k
     ·subst e;exact fun h=>he h.symm
     ·exact hno.out j (by omega))
    clear he hno
    go_wp2_with fail
    refine (rword_any _ (by omega) (by omega) wr).mono ?_
    rintro _ _ ⟨rfl,rfl⟩
    go_wp2
    go_roundw
    case rel=>exact ⟨k+1,by omega,by rw[show ((k+1:Nat):Int)=(k:Int)+1 by omega],HN,HBE.out⟩
    case measure=>simp[intOf];omega
  ·have ql:decide ((k:Int)+1≤11)=false:=decide_eq_false (by omega)
   obtain rfl:k=11:=by omega
   have HR:=Lib.hid (opW_none hno.out)
   clear hno
   go_wp2
   go_ret
   rw[HR.out]
   exact ⟨rfl,HBE.out⟩
def valZ (c:Col) (cn:Bool) (T:List UInt8) (i:Nat):Except (Nat×Int) (Nat×Vl) :=
 if wd T (sk T i)=[] then .error (sk T i,2)
 else if (vparV c.ty c.sc cn (wd T (sk T i))).2≠0 then .error (sk T i,(vparV c.ty c.sc cn (wd T (sk T i))).2)
 else .ok (we T (sk T i),vlP (vparV c.ty c.sc cn (wd T (sk T i))).1)
theorem valZ_emp {c:Col} {cn:Bool} {T:List UInt8} {i:Nat} (h:wd T (sk T i)=[]):valZ c cn T i=.error (sk T i,2):=if_pos h
theorem valZ_bad {c:Col} {cn:Bool} {T:List UInt8} {i:Nat} (h:wd T (sk T i)≠[]) (hf:(vparV c.ty c.sc cn (wd T (sk T i))).2≠0):valZ c cn T i=.error (sk T i,(vparV c.ty c.sc cn (wd T (sk T i))).2):=by unfold valZ;rw[if_neg h,if_pos hf]
theorem valZ_ok {c:Col} {cn:Bool} {T:List UInt8} {i:Nat} (h:wd T (sk T i)≠[]) (hf:(vparV c.ty c.sc cn (wd T (sk T i))).2=0):valZ c cn T i=.ok (we T (sk T i),vlP (vparV c.ty c.sc cn (wd T (sk T i))).1):=by unfold valZ;rw[if_neg h,if_neg (by rw[hf];simp)]
def RetRVal (w:World) (g:Nat) (sv nv:Value) (key wh:Int) (S:ByteArray) (r:Except (Nat×Int) (Nat×Vl)) (e:Ending) (w':World):Prop :=
 ∃ v:Vl,e=.returned (.agg #[.bool v.nu,.int .i64 v.n,.string v.s])∧Kp (fun i=>i=g) w w'∧match r with
 | .ok (j,y)=>v=y∧Blk w' g 106 #[sv,.int .i64 key,.string S,.int .i64 j,nv,.int .i64 0,.int .i64 wh]
 | .error (k,er)=>er≠0∧∃ i:Nat,i≤S.size∧Blk w' g 106 #[sv,.int .i64 key,.string S,.int .i64 i,nv,.int .i64 er,.int .i64 k]
set_option maxRecDepth 100000 in
set_option maxHeartbeats 8000000 in
theorem rval_any (w0:World) (g i:Nat) (sv nv:Value) (key wh:Int) (S:ByteArray) (c:Col) (cn:Bool) (w:World) (hB:Blk w g 106 #[sv,.int .i64 key,.string S,.int .i64 i,nv,.int .i64 0,.int .i64 wh]) (hi:i≤S.size) (hS:S.size≤65536) (hE:Env w0) (hb0:Below w0.heap.size w0 w) (hg:w0.heap.size≤g) :
  Calls Tryz.prog 107 #[.pointer (some ⟨g,0,none⟩),.agg #[.string c.nm,.int .i64 c.ty,.int .i64 c.sc,.bool cn]] w (RetRVal w g sv nv key wh S (valZ c cn S.data.toList i)):=by
 obtain ⟨W0,hW0⟩:∃ W0,W0=(w.alloc (.cells #[.string c.nm,.int .i64 c.ty,.int .i64 c.sc,.bool cn] 56)).alloc (.cells #[.bool false,.int .i64 0,.string { data:=#[] }] 64):=⟨_,rfl⟩
 have hbw:Below w.heap.size w W0:=by rw[hW0];exact abelS _ _ _
 obtain ⟨C,hC⟩:∃ C,w.heap.size=C:=⟨_,rfl⟩
 have HC:=Lib.hid (show Blk W0 C 56 #[.string c.nm,.int .i64 c.ty,.int .i64 c.sc,.bool cn] by rw[hW0,←hC];exact (Blk.new _ _ _).alloc _)
 have HR:=Lib.hid (show Blk W0 (C+1) 64 #[.bool false,.int .i64 0,.string { data:=#[] }] by rw[hW0,←hC];have h:=Blk.new (w.alloc (.cells #[.string c.nm,.int .i64 c.ty,.int .i64 c.sc,.bool cn] 56)) 64 #[.bool false,.int .i64 0,.string { data:=#[] }];simpa using h)
 have hgC:g<C:=by rw[←hC];exact hB.lt
 have hwC:w.heap.size=C:=hC
 have HK0:=Lib.hid (Kp.below (S:=fun i=>i=g) Kp.refl hbw)
 have HNX:=Lib.hid (rnext_any g i sv nv key wh S W0 (hB.below hbw hB.lt) hi hS)
 have HBE:=Lib.hid (show Below w0.heap.size w0 W0 from hb0.trans (hbw.mono hb0.size))
 obtain ⟨k,hk⟩:∃ k,sk S.data.toList i=k:=⟨_,rfl⟩
 obtain ⟨T,hT⟩:∃ T,wd S.data.toList k=T:=⟨_,rfl⟩
 obtain ⟨m,hm⟩:∃ m,we S.data.toList k=m:=⟨_,rfl⟩
 have hkS:k≤S.size:=by rw[←hk,←size_data];exact sk_le (by rw[size_data];exact hi)
 have hmS:m≤S.size:=by rw[←hm,←size_data];exact we_le (by rw[size_data];exact hkS)
 have hTl:T.length≤65536:=by have h:=hmS;rw[←hm]at h;unfold we at h;rw[hT]at h;omega
 have H1:=Lib.hid (valZ_emp (c:=c) (cn:=cn) (T:=S.data.toList) (i:=i))
 have H2:=Lib.hid (valZ_bad (c:=c) (cn:=cn) (T:=S.data.toList) (i:=i))
 have H3:=Lib.hid (valZ_ok (c:=c) (cn:=cn) (T:=S.data.toList) (i:=i))
 rw[hk,hT,hm]at HNX
 rw[hk,hT]at H1 H2 H3
 rw[hm]at H3
 clear hk hT hm hbw
 go_enter Tryz.func107,Tryz.ntmps107
 go_upto_region 1 with (fail)
 rw[←hW0]
 try simp only[hC]
 clear hW0
 go_wp2_with fail
 refine HNX.out.mono ?_
 rintro _ w1 ⟨W,hW,rfl,ho,hBe,hBn⟩
 have HK1:=Lib.hid (HK0.out.only ho (.inl rfl))
 have HC1:=Lib.hid (HC.out.row ho (by omega))
 have HR1:=Lib.hid (HR.out.row ho (by omega))
 have HBE1:=Lib.hid (below_only HBE.out ho hg HBE.out.size)
 clear ho HNX HC HR HK0 HBE
 by_cases hTe:T=[]
 ·have HB1:=Lib.hid (hBe hTe)
  have c5:=(hBe hTe).cell 5
  have r0:=HR1.out.cell 0
  have r1:=HR1.out.cell 1
  have r2:=HR1.out.cell 2
  have f0:=HR1.out.frozen 0
  have f1:=HR1.out.frozen 1
  have f2:=HR1.out.frozen 2
  simp only[jA,jZ,jS]at c5 r0 r1 r2
  have HQ:=Lib.hid (H1.out hTe)
  have hlt:=HR1.out.lt
  clear hBe hBn H1 H2 H3 hTe
  go_wp2
  have kb:=((HR1.out.set_ 0 (.bool false)).set_ 1 (.int .i64 0)).set_ 2 (.string { data:=#[] })
  simp only[jI,jY,jT]at kb
  have r0':=kb.cell 0
  have r1':=kb.cell 1
  have r2':=kb.cell 2
  simp only[jA,jZ,jS]at r0' r1' r2'
  rw[HQ.out]
  exact bodyPost_ret (v:=.agg #[.bool false,.int .i64 0,.string { data:=#[] }]) (by simp[results,Tryz.results107,go_sem,r0',r1',r2']) rfl
   ⟨⟨false,0,{ data:=#[] }⟩,rfl,((HK1.out.set (p:=⟨C+1,0,none⟩) (.inr (by show w.heap.size≤C+1;omega)) _).set (p:=⟨C+1,1,none⟩) (.inr (by show w.heap.size≤C+1;omega)) _).set (p:=⟨C+1,2,none⟩) (.inr (by show w.heap.size≤C+1;omega)) _,
    by decide,m,hmS,((HB1.out.row (grownBy_set _ ⟨C+1,0,none⟩ _) (show g≠C+1 by omega)).row (grownBy_set _ ⟨C+1,1,none⟩ _) (show g≠C+1 by omega)).row (grownBy_set _ ⟨C+1,2,none⟩ _) (show g≠C+1 by omega)⟩
 ·have HB1:=Lib.hid (hBn hTe)
  have c5:=(hBn hTe).cell 5
  simp only[jA,jZ,jS]at c5
  have hWs:W.size≤65536:=by rw[←size_data,hW];exact hTl
  have hq:vparV c.ty c.sc cn T=vparV c.ty c.sc cn W.data.toList:=by rw[hW]
  obtain ⟨vb,hb⟩:∃ b,(vparV c.ty c.sc cn W.data.toList).1.1=b:=⟨_,rfl⟩
  obtain ⟨vn,hn⟩:∃ n,(vparV c.ty c.sc cn W.data.toList).1.2.1=n:=⟨_,rfl⟩
  obtain ⟨vs,hs⟩:∃ s,(⟨(vparV c.ty c.sc cn W.data.toList).1.2.2.toArray⟩:ByteArray)=s:=⟨_,rfl⟩
  obtain ⟨er,hf⟩:∃ f,(vparV c.ty c.sc cn W.data.toList).2=f:=⟨_,rfl⟩
  have HV:=Lib.hid (vbV_of hb hn hs hf (rvpar_any c.nm c.ty c.sc cn W w1 (hE.below HBE1.out) (by omega)))
  have HVL:=Lib.hid (show vlP (vparV c.ty c.sc cn T).1=⟨vb,vn,vs⟩ by rw[hq,←hb,←hn,←hs];rfl)
  have HVE:=Lib.hid (show (vparV c.ty c.sc cn T).2=er by rw[hq];exact hf)
  have H2':=Lib.hid (H2.out hTe)
  have H3':=Lib.hid (H3.out hTe)
  clear hTe hW H1 H2 H3 hq hb hn hs hf hBe hBn
  have bb:=HC1.out
  have z0:=bb.cell 0
  have z1:=bb.cell 1
  have z2:=bb.cell 2
  have z3:=bb.cell 3
  simp only[jA,jZ,jS]at z0 z1 z2 z3
  clear bb
  go_wp2_with fail
  refine HV.out.mono ?_
  rintro _ w2 ⟨rfl,hb2⟩
  have HK2:=Lib.hid (HK1.out.below hb2)
  have HB2:=Lib.hid (HB1.out.below hb2 HB1.out.lt)
  have HR2:=Lib.hid (HR1.out.below hb2 HR1.out.lt)
  clear hb2 HV HK1 HB1 HR1 HC1 c5 z0 z1 z2 z3
  obtain ⟨A,hA⟩:∃ A,w2.heap.size=A:=⟨_,rfl⟩
  obtain ⟨X,hX⟩:∃ X,X=w2.alloc (.cells #[.bool vb,.int .i64 vn,.string vs] 64):=⟨_,rfl⟩
  have HKX:=Lib.hid (show Kp (fun i=>i=g) w X by rw[hX];exact HK2.out.alloc _)
  have HBX:=Lib.hid (show Blk X g 106 #[sv,.int .i64 key,.string S,.int .i64 m,nv,.int .i64 0,.int .i64 wh] by rw[hX];exact HB2.out.alloc _)
  have HRX:=Lib.hid (show Blk X (C+1) 64 #[.bool false,.int .i64 0,.string { data:=#[] }] by rw[hX];exact HR2.out.alloc _)
  have HAX:=Lib.hid (show Blk X A 64 #[.bool vb,.int .i64 vn,.string vs] by rw[hX,←hA];exact Blk.new _ _ _)
  have hCA:C+1<A:=by rw[←hA];exact HR2.out.lt
  go_upto_region 5 with (fail)
  rw[←hX]
  try simp only[hA]
  clear hX hA HK2 HB2 HR2
  by_cases her:er=0
  ·subst her
   have HQ:=Lib.hid (H3'.out HVE.out)
   rw[HVL.out]at HQ
   clear H2' H3'
   have a0:=HAX.out.cell 0
   have a1:=HAX.out.cell 1
   have a2:=HAX.out.cell 2
   have r0:=HRX.out.cell 0
   have r1:=HRX.out.cell 1
   have r2:=HRX.out.cell 2
   have f0:=HRX.out.frozen 0
   have f1:=HRX.out.frozen 1
   have f2:=HRX.out.frozen 2
   simp only[jA,jZ,jS]at a0 a1 a2 r0 r1 r2
   have hlt:=HRX.out.lt
   go_wp2
   have kb:=((HRX.out.set_ 0 (.bool vb)).set_ 1 (.int .i64 vn)).set_ 2 (.string vs)
   simp only[jI,jY,jT]at kb
   have r0':=kb.cell 0
   have r1':=kb.cell 1
   have r2':=kb.cell 2
   simp only[jA,jZ,jS]at r0' r1' r2'
   rw[HQ.out]
   exact bodyPost_ret (v:=.agg #[.bool vb,.int .i64 vn,.string vs]) (by simp[results,Tryz.results107,go_sem,r0',r1',r2']) rfl
    ⟨⟨vb,vn,vs⟩,rfl,((HKX.out.set (p:=⟨C+1,0,none⟩) (.inr (by show w.heap.size≤C+1;omega)) _).set (p:=⟨C+1,1,none⟩) (.inr (by show w.heap.size≤C+1;omega)) _).set (p:=⟨C+1,2,none⟩) (.inr (by show w.heap.size≤C+1;omega)) _,rfl,((HBX.out.row (grownBy_set _ ⟨C+1,0,none⟩ _) (show g≠C+1 by omega)).row (grownBy_set _ ⟨C+1,1,none⟩ _) (show g≠C+1 by omega)).row (grownBy_set _ ⟨C+1,2,none⟩ _) (show g≠C+1 by omega)⟩
  ·have q7:(er != 0)=true:=by simpa using her
   have HQ:=Lib.hid (H2'.out (by rw[HVE.out];exact her))
   have HER:=Lib.hid her
   clear H2' H3' her
   go_wp2_with fail
   refine (rfail_first g m sv nv key wh _ _ S X HBX.out).mono ?_
   rintro _ X3 ⟨rfl,hB,ho⟩
   have HKX:=Lib.hid (HKX.out.only ho (.inl rfl))
   have HRX:=Lib.hid (HRX.out.row ho (by omega))
   have HAX:=Lib.hid (HAX.out.row ho (by omega))
   have HBX:=Lib.hid hB
   clear hB ho
   have a0:=HAX.out.cell 0
   have a1:=HAX.out.cell 1
   have a2:=HAX.out.cell 2
   have r0:=HRX.out.cell 0
   have r1:=HRX.out.cell 1
   have r2:=HRX.out.cell 2
   have f0:=HRX.out.frozen 0
   have f1:=HRX.out.frozen 1
   have f2:=HRX.out.frozen 2
   simp only[jA,jZ,jS]at a0 a1 a2 r0 r1 r2
   have hlt:=HRX.out.lt
   go_wp2
   have kb:=((HRX.out.set_ 0 (.bool vb)).set_ 1 (.int .i64 vn)).set_ 2 (.string vs)
   simp only[jI,jY,jT]at kb
   have r0':=kb.cell 0
   have r1':=kb.cell 1
   have r2':=kb.cell 2
   simp only[jA,jZ,jS]at r0' r1' r2'
   rw[HQ.out,HVE.out]
   exact bodyPost_ret (v:=.agg #[.bool vb,.int .i64 vn,.string vs]) (by simp[results,Tryz.results107,go_sem,r0',r1',r2']) rfl
    ⟨⟨vb,vn,vs⟩,rfl,((HKX.out.set (p:=⟨C+1,0,none⟩) (.inr (by show w.heap.size≤C+1;omega)) _).set (p:=⟨C+1,1,none⟩) (.inr (by show w.heap.size≤C+1;omega)) _).set (p:=⟨C+1,2,none⟩) (.inr (by show w.heap.size≤C+1;omega)) _,HER.out,m,hmS,((HBX.out.row (grownBy_set _ ⟨C+1,0,none⟩ _) (show g≠C+1 by omega)).row (grownBy_set _ ⟨C+1,1,none⟩ _) (show g≠C+1 by omega)).row (grownBy_set _ ⟨C+1,2,none⟩ _) (show g≠C+1 by omega)⟩
set_option linter.unusedVariables false
def Pos {α:Type} (i:Nat):Except (Nat×Int) (Nat×α)→Prop
 | .ok (j,_)=>i≤j
 | .error (j,e)=>e=7→i≤j
theorem col_pos (cs:List Col) (T:List UInt8) (i:Nat):Pos i (colP cs T i):=by
 have h1:=sk_ge T i
 have h2:=we_ge T (sk T i)
 unfold colP
 split
 ·exact fun _=>h1
 ·split
  ·exact fun _=>h1
  ·show i≤we T (sk T i);omega
theorem val_pos (c:Col) (T:List UInt8) (i:Nat):Pos i (valC c T i):=by
 have h1:=sk_ge T i
 have h2:=we_ge T (sk T i)
 unfold valC
 split
 ·exact fun _=>h1
 ·split
  ·exact fun _=>h1
  ·show i≤we T (sk T i);omega
theorem lst_pos (c:Col) (T:List UInt8):∀ (f i:Nat) (l:List Vl),Pos i (lstP c T f i l)
 | 0,i,_=>fun h=>by cases h
 | f+1,i,l=>by
  have h1:=sk_ge T i
  have h2:=we_ge T (sk T i)
  unfold lstP
  split
  ·split
   ·exact fun _=>h1
   ·exact h1
  ·split
   ·exact fun _=>h1
   ·split
    ·exact fun _=>h1
    ·have h3:=lst_pos c T f (we T (sk T i)) (l ++ [vlP (vparV c.ty c.sc true (wd T (sk T i))).1])
     revert h3
     generalize lstP c T f (we T (sk T i)) (l ++ [vlP (vparV c.ty c.sc true (wd T (sk T i))).1])=R
     intro h3
     cases R with
     | ok r=>exact Nat.le_trans (by omega) h3
     | error r=>exact fun e=>Nat.le_trans (by omega) (h3 e)
theorem leaf_pos (cs:List Col) (T:List UInt8) (op i:Nat):Pos i (leafR cs T op i):=by
 have h1:=col_pos cs T i
 unfold leafR
 revert h1
 cases colP cs T i with
 | error r=>exact fun h=>h
 | ok r =>
  obtain ⟨i2,K⟩:=r
  intro h1
  show Pos i (if op=8 then _ else _)
  split
  ·exact h1
  ·cases cs[K]? with
   | none=>exact fun h=>by cases h
   | some c =>
    show Pos i (if op=7 then _ else _)
    split
    ·have h2:=lst_pos c T 17 i2 []
     revert h2
     cases lstP c T 17 i2 [] with
     | error r=>exact fun h e=>Nat.le_trans h1 (h e)
     | ok r=>exact fun h=>Nat.le_trans h1 h
    ·have h2:=val_pos c T i2
     revert h2
     cases valC c T i2 with
     | error r=>exact fun h e=>Nat.le_trans h1 (h e)
     | ok r=>exact fun h=>Nat.le_trans h1 h
theorem arg_pos (cs:List Col) (T:List UInt8) {rec:Nat→List Nd→Except (Nat×Int) (Nat×List Nd)} (hr:∀ i acc,Pos i (rec i acc)) (op i:Nat) (acc:List Nd):Pos i (argP cs T rec op i acc):=by
 unfold argP
 split
 ·have h1:=hr i acc
  revert h1
  cases rec i acc with
  | error r=>exact fun h=>h
  | ok r =>
   obtain ⟨i2,a2⟩:=r
   intro h1
   show Pos i (match rec i2 a2 with | .error e=>_ | .ok (i3,a3)=>_)
   have h2:=hr i2 a2
   revert h2
   cases rec i2 a2 with
   | error r=>exact fun h e=>Nat.le_trans h1 (h e)
   | ok r=>exact fun h=>Nat.le_trans h1 h
 ·split
  ·have h1:=hr i acc
   revert h1
   cases rec i acc with
   | error r=>exact fun h=>h
   | ok r=>exact fun h=>h
  ·have h1:=leaf_pos cs T op i
   revert h1
   cases leafR cs T op i with
   | error r=>exact fun h=>h
   | ok r=>exact fun h=>h
theorem par_pos (cs:List Col) (T:List UInt8):∀ (f i:Nat) (acc:List Nd),Pos (i+1) (parN cs T f i acc)
 | 0,_,_=>fun h=>by cases h
 | f+1,i,acc=>by
  unfold parN
  cases h1:expP T 40 i with
  | error e =>
   unfold expP at h1
   split at h1
   ·cases h1
   ·injection h1 with h1;subst h1;exact fun h=>by cases h
  | ok i1 =>
   obtain ⟨_,_,k1,_⟩:=expP_ok h1
   show Pos (i+1) (if opW (wd T (sk T i1))=0 then _ else _)
   split
   ·exact fun h=>by cases h
   ·have h2:=arg_pos cs T (rec:=parN cs T f) (fun i acc=>by
     have:=par_pos cs T f i acc
     revert this
     cases parN cs T f i acc with
     | error r=>exact fun h e=>Nat.le_trans (Nat.le_succ i) (h e)
     | ok r=>exact fun h=>Nat.le_trans (Nat.le_succ i) h) (opW (wd T (sk T i1))) (we T (sk T i1)) acc
    have g1:=sk_ge T i1
    have g2:=we_ge T (sk T i1)
    revert h2
    cases argP cs T (parN cs T f) (opW (wd T (sk T i1))) (we T (sk T i1)) acc with
    | error r=>exact fun h e=>Nat.le_trans (by omega) (h e)
    | ok r =>
     obtain ⟨i2,x,a2⟩:=r
     intro h2
     have h2:we T (sk T i1)≤i2:=h2
     show Pos (i+1) (match expP T 41 i2 with | .error e=>_ | .ok i3=>_)
     cases h3:expP T 41 i2 with
     | error e =>
      unfold expP at h3
      split at h3
      ·cases h3
      ·injection h3 with h3;subst h3;exact fun h=>by cases h
     | ok i3 =>
      obtain ⟨_,_,k3,_⟩:=expP_ok h3
      show Pos (i+1) (if a2.length=64 then _ else _)
      split
      ·intro _;show i+1≤i3 - 1;omega
      ·show i+1≤i3;omega
/-! Within the text. -/
def Upt {α:Type} (n:Nat):Except (Nat×Int) (Nat×α)→Prop
 | .ok (j,_)=>j≤n
 | .error _=>True
theorem col_upt {cs:List Col} {T:List UInt8} {i:Nat} (h:i≤T.length):Upt T.length (colP cs T i):=by
 unfold colP
 split
 ·trivial
 ·split
  ·trivial
  ·exact we_le (sk_le h)
theorem val_upt {c:Col} {T:List UInt8} {i:Nat} (h:i≤T.length):Upt T.length (valC c T i):=by
 unfold valC
 split
 ·trivial
 ·split
  ·trivial
  ·exact we_le (sk_le h)
theorem lst_upt {c:Col} {T:List UInt8}:∀ (f i:Nat) (l:List Vl),i≤T.length→Upt T.length (lstP c T f i l)
 | 0,_,_,_=>trivial
 | f+1,i,l,h=>by
  unfold lstP
  split
  ·split
   ·trivial
   ·exact sk_le h
  ·split
   ·trivial
   ·split
    ·trivial
    ·exact lst_upt f _ _ (we_le (sk_le h))
theorem findC_some {l:List Col} {x:ByteArray} (h:¬ findC l x<0):∃ c,l[(findC l x).toNat]?=some c:=by
 revert h
 unfold findC
 cases e:l.findIdx? (fun c=>decide (c.nm=x)) with
 | none=>intro h;exact absurd (by decide) h
 | some k =>
  intro _
  have hk:=(List.findIdx?_eq_some_iff_getElem.1 e).1
  exact ⟨l[k],by show l[((k:Nat):Int).toNat]?=_;rw[Int.toNat_natCast];exact List.getElem?_eq_getElem hk⟩
theorem col_has {cs:List Col} {T:List UInt8} {i j K:Nat} (h:colP cs T i=.ok (j,K)):∃ c,cs[K]?=some c:=by
 unfold colP at h
 split at h
 ·cases h
 ·split at h
  ·cases h
  ·rename_i hf
   injection h with h
   injection h with _ h
   subst h
   exact findC_some hf
end Go.Proofs.YtjnamjkdjcndiaaGreatDoor
