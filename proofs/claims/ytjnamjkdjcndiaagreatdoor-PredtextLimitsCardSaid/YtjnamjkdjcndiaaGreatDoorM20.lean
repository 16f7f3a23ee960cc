/-
  Words, plain laws and contracts on which the walks lean, in one text.
-/
import Derived.Test.YtjnamjkdjcndiaaGreatDoorPar8
import Derived.Test.YtjnamjkdjcndiaaGreatDoorRd4
import Derived.Test.YtjnamjkdjcndiaaGreatDoorM21
import Derived.Test.YtjnamjkdjcndiaaGreatDoorM17
import Derived.Test.YtjnamjkdjcndiaaGreatDoorM11
import Derived.Test.YtjnamjkdjcndiaaGreatDoorM12
import Derived.Test.YtjnamjkdjcndiaaGreatDoorM15
namespace Go.Proofs.YtjnamjkdjcndiaaGreatDoor
open Go.RowKit Go.Sort

def RetPar (w:World) (r:List Nd×Nat×Int) (e:Ending) (w':World):Prop :=
 ∃ nv:Value,e=.returned (.tuple #[nv,.int .i64 (r.2.1:Nat),.int .i64 r.2.2])∧OwnNd w' w.heap.size nv r.1∧Below w.heap.size w w'
theorem RetPar.mk_ {w w':World} {r:List Nd×Nat×Int} {l:List Nd} {k:Nat} {x y:Int} {nv:Value} (h:r=(l,k,x)) (hy:y=(k:Int)) (ho:OwnNd w' w.heap.size nv l) (hb:Below w.heap.size w w'):RetPar w r (.returned (.tuple #[nv,.int .i64 y,.int .i64 x])) w':=by subst h hy;exact ⟨nv,rfl,ho,hb⟩
section
variable {cs:List Col} {key:Int} {T:List UInt8} {j:Nat} {e:Int} {l:List Nd} {i:Nat}
theorem pp_sch (h:schkV cs key≠0):parP cs key T=([],0,schkV cs key):=by unfold parP;rw[if_pos h]
theorem pp_big (h:schkV cs key=0) (h1:65536<T.length):parP cs key T=([],0,7):=by unfold parP;rw[if_neg (by rw[h];simp),if_pos h1]
theorem pp_nil (h:schkV cs key=0) (h1:T.length=0):parP cs key T=([],0,0):=by unfold parP;rw[if_neg (by rw[h];simp),if_neg (by omega),if_pos h1]
theorem pp_go (h:schkV cs key=0) (h1:¬ 65536<T.length) (h2:T.length≠0):parP cs key T=match parN cs T (T.length+1) 0 [] with
  | .error (j,e)=>([],j,e)
  | .ok (i,l)=>if sk T i<T.length then ([],sk T i,2) else (l,0,0):=by unfold parP;rw[if_neg (by rw[h];simp),if_neg h1,if_neg h2];rfl
theorem pp_err (h:schkV cs key=0) (h1:¬ 65536<T.length) (h2:T.length≠0) (h3:parN cs T (T.length+1) 0 []=.error (j,e)):parP cs key T=([],j,e):=by rw[pp_go h h1 h2,h3]
theorem pp_more (h:schkV cs key=0) (h1:¬ 65536<T.length) (h2:T.length≠0) (h3:parN cs T (T.length+1) 0 []=.ok (i,l)) (h4:sk T i<T.length):parP cs key T=([],sk T i,2):=by
 rw[pp_go h h1 h2,h3]
 show (if sk T i<T.length then _ else _)=_
 rw[if_pos h4]
theorem pp_ok (h:schkV cs key=0) (h1:¬ 65536<T.length) (h2:T.length≠0) (h3:parN cs T (T.length+1) 0 []=.ok (i,l)) (h4:¬ sk T i<T.length):parP cs key T=(l,0,0):=by
 rw[pp_go h h1 h2,h3]
 show (if sk T i<T.length then _ else _)=_
 rw[if_neg h4]
end
set_option maxRecDepth 100000 in
set_option maxHeartbeats 8000000 in
theorem pparse_any (v:Value) (key:Int) (cs:List Col) (S:ByteArray) (w:World) (hE:Env w) (hs:Sl w 4 v cs.length (cols cs)) (hcl:cs.length≤9223372036854775807) (hnm:∀ c ∈ cs,c.nm.size≤9223372036854775807) (hS:S.size≤9223372036854775807) :
  Calls Tryz.prog 8 #[.agg #[v,.int .i64 key],.string S] w (RetPar w (parP cs key S.data.toList)):=by
 obtain ⟨A,cA,rfl,hc1,hc2⟩:=hs.form
 obtain ⟨N0,hN0⟩:∃ N,w.heap.size=N:=⟨_,rfl⟩
 obtain ⟨W,hW⟩:∃ W,W=w.alloc (.cells #[.slice A cs.length cA,.int .i64 key] 28):=⟨_,rfl⟩
 have hb0:Below w.heap.size w W:=by rw[hW];exact (Below.refl _ _).alloc (Nat.le_refl _) _
 have BS:=Lib.hid (show Blk W N0 28 #[.slice A cs.length cA,.int .i64 key] by rw[hW,←hN0];exact Blk.new _ _ _)
 have HB0:=Lib.hid hb0
 have HC:=Lib.hid (schk_any (.slice A cs.length cA) cs key W (hs.below hb0) hcl hnm)
 have HE:=Lib.hid hE
 have HS:=Lib.hid hs
 have hT:=size_data S
 have HP0:=Lib.hid (pp_sch (cs:=cs) (key:=key) (T:=S.data.toList))
 have HP1:=Lib.hid (pp_big (cs:=cs) (key:=key) (T:=S.data.toList))
 have HP2:=Lib.hid (pp_nil (cs:=cs) (key:=key) (T:=S.data.toList))
 have HP3:=Lib.hid (fun j e=>pp_err (cs:=cs) (key:=key) (T:=S.data.toList) (j:=j) (e:=e))
 have HP4:=Lib.hid (fun i l=>pp_more (cs:=cs) (key:=key) (T:=S.data.toList) (i:=i) (l:=l))
 have HP5:=Lib.hid (fun i l=>pp_ok (cs:=cs) (key:=key) (T:=S.data.toList) (i:=i) (l:=l))
 have HV:=Lib.hid (fun h=>schk_valid (l:=cs) (key:=key) h)
 rw[hT]at HP1 HP2 HP3 HP4 HP5
 obtain ⟨E,hE⟩:∃ E,schkV cs key=E:=⟨_,rfl⟩
 rw[hE]at HC HP0 HP1 HP2 HP3 HP4 HP5 HV
 clear hs hE hb0 hT
 go_enter Tryz.func8,Tryz.ntmps8
 go_upto_region 1 with (fail)
 rw[←hW]
 try simp only[hN0]
 clear hW
 have bb:=BS.out
 have s0:=bb.cell 0
 have s1:=bb.cell 1
 simp only[jA,jZ,jS]at s0 s1
 clear bb
 go_wp2_with fail
 refine HC.out.mono ?_
 rintro _ w2 ⟨rfl,hb2⟩
 have HB2:=Lib.hid (bst HB0.out hb2)
 have BS2:=Lib.hid (BS.out.below hb2 BS.out.lt)
 clear hb2 HC s0 s1
 by_cases hE:E=0
 case neg =>
  have q1:(E != 0)=true:=by simpa using hE
  have HR:=Lib.hid (HP0.out hE)
  clear hE HP0 HP1 HP2 HP3 HP4 HP5 HV
  go_wp2
  go_ret3
  exact RetPar.mk_ HR.out rfl (OwnNd.nil _ _) HB2.out
 case pos =>
 subst hE
 have HV:=Lib.hid (HV.out rfl)
 by_cases hbig:65536<S.size
 ·have q2:decide (65536<S.size)=true:=decide_eq_true hbig
  have q2':decide ((65536:Int)<(S.size:Int))=true:=decide_eq_true (by omega)
  have HR:=Lib.hid (HP1.out rfl hbig)
  clear hbig HP0 HP1 HP2 HP3 HP4 HP5 HV
  go_wp2
  go_ret3
  exact RetPar.mk_ HR.out rfl (OwnNd.nil _ _) HB2.out
 have q2:decide (65536<S.size)=false:=decide_eq_false hbig
 have q2':decide ((65536:Int)<(S.size:Int))=false:=decide_eq_false (by omega)
 by_cases h0:S.size=0
 ·obtain ⟨e1,e2⟩:=empty_of (W:=S) (l:=[]) (by have:=size_data S;rw[h0]at this;exact List.length_eq_zero_iff.1 this) rfl
  have HR:=Lib.hid (HP2.out rfl h0)
  clear h0 hbig HP0 HP1 HP2 HP3 HP4 HP5 HV
  go_wp2
  go_ret3
  exact RetPar.mk_ HR.out rfl (OwnNd.nil _ _) HB2.out
 have e1:=full_of (W:=S) (l:=S.data.toList) rfl (by intro h;have:=size_data S;rw[h]at this;exact h0 this.symm)
 have hS6:S.size≤65536:=by omega
 have HP3':=Lib.hid (fun j e=>HP3.out j e rfl hbig h0)
 have HP4':=Lib.hid (fun i l=>HP4.out i l rfl hbig h0)
 have HP5':=Lib.hid (fun i l=>HP5.out i l rfl hbig h0)
 have bb:=BS2.out
 have s0:=bb.cell 0
 have s1:=bb.cell 1
 simp only[jA,jZ,jS]at s0 s1
 clear bb HP0 HP1 HP2 HP3 HP4 HP5 hbig h0
 obtain ⟨g,hg⟩:∃ g,w2.heap.size=g:=⟨_,rfl⟩
 obtain ⟨X,hX⟩:∃ X,X=w2.alloc (.cells #[.slice A cs.length cA,.int .i64 key,.string S,.int .i64 0,.slice none 0 0,.int .i64 0,.int .i64 0] 54):=⟨_,rfl⟩
 have hwg:w.heap.size≤g:=by rw[←hg];exact HB2.out.size
 have XB:=Lib.hid (show Blk X g 54 #[.slice A cs.length cA,.int .i64 key,.string S,.int .i64 ((0:Nat):Int),.slice none 0 0,.int .i64 0,.int .i64 0] by rw[hX,←hg];exact Blk.new _ _ _)
 have XK:=Lib.hid (show Below w.heap.size w X by rw[hX];exact bst HB2.out (below_new _ _))
 have hx:PCtx w g (.slice A cs.length cA) S cs w.heap.size:=⟨hS6,HS.out,HE.out,by have:=HV.out.2.1;omega,hwg,Nat.le_refl _⟩
 have HN:=Lib.hid (pnodeT_any w g w.heap.size (.slice A cs.length cA) key 0 0 S cs hx (S.size+1) 0 (.slice none 0 0) [] X XB.out (Nat.zero_le _) (by omega) (OwnNd.nil _ _) (by simp) XK.out XK.out.size)
 clear hx HV HS
 go_upto_region 9 with (fail)
 rw[←hX]
 try simp only[hg]
 clear hX hg s0 s1
 go_wp2_with fail
 refine HN.out.mono ?_
 rintro e w3 hret
 cases h:parN cs S.data.toList (S.size+1) 0 [] with
 | error r =>
  obtain ⟨k,er⟩:=r
  rw[h]at hret
  have HR:=Lib.hid (HP3'.out k er h)
  obtain ⟨hk,rfl,i0,n0,c0,A0,hn,hB⟩:=hret
  have HB3:=Lib.hid hB
  have HK3:=Lib.hid (below_kp XK.out hk (fun q h=>by
   rcases h with h|h
   ·omega
   ·cases h) XK.out.size)
  clear hk hB h HP3' HP4' HP5' HN
  have bb:=HB3.out
  have c5:=bb.cell 5
  have c6:=bb.cell 6
  simp only[jA,jZ,jS]at c5 c6
  clear bb
  go_wp2_with fail
  go_quiet (fail)
  go_wp2
  go_ret3
  exact RetPar.mk_ HR.out rfl (OwnNd.nil _ _) (below_drewN HK3.out _)
 | ok r =>
  obtain ⟨i,l⟩:=r
  rw[h]at hret
  obtain ⟨hk,rfl,hi,hl1,hl2,nv,hB,hO,hob⟩:=hret
  have HB3:=Lib.hid hB
  have HO3:=Lib.hid hO
  have HK3:=Lib.hid (below_kp XK.out hk (fun q h=>by
   rcases h with h|h
   ·omega
   ·cases h) XK.out.size)
  have HP4:=Lib.hid (HP4'.out i l h)
  have HP5:=Lib.hid (HP5'.out i l h)
  obtain ⟨AN,cN,rfl,_,_⟩:=hO.form
  clear hk hB hO hob h HP3' HP4' HP5' HN
  go_wp2_with fail
  refine (pskip_any g i _ _ key 0 0 S w3 HB3.out hi hS6).mono ?_
  rintro _ w4 ⟨rfl,hB,ho⟩
  have HB4:=Lib.hid hB
  have HO4:=Lib.hid (HO3.out.onlyP HB3.out ho)
  have HK4:=Lib.hid (below_only HK3.out ho hwg HK3.out.size)
  clear hB ho
  obtain ⟨m,hm⟩:∃ m,sk S.data.toList i=m:=⟨_,rfl⟩
  rw[hm]at HB4 HP4 HP5
  clear hm
  have bb:=HB4.out
  have c3:=bb.cell 3
  have c4:=bb.cell 4
  simp only[jA,jZ,jS]at c3 c4
  clear bb
  by_cases hlt:m<S.size
  ·have q3:decide (m<S.size)=true:=decide_eq_true hlt
   have q3':decide ((m:Int)<(S.size:Int))=true:=decide_eq_true (by omega)
   have HR:=Lib.hid (HP4.out hlt)
   clear hlt HP4 HP5
   go_wp2_with fail
   go_quiet (fail)
   go_wp2
   go_ret3
   exact RetPar.mk_ HR.out rfl (OwnNd.nil _ _) (below_drewN HK4.out _)
  ·have q3:decide (m<S.size)=false:=decide_eq_false hlt
   have q3':decide ((m:Int)<(S.size:Int))=false:=decide_eq_false (by omega)
   have HR:=Lib.hid (HP5.out hlt)
   clear hlt HP4 HP5
   go_wp2
   go_ret3
   exact RetPar.mk_ HR.out rfl HO4.out HK4.out
open Go.RowKit Go.Sort

set_option maxRecDepth 100000 in
set_option maxHeartbeats 8000000 in
theorem rparse_any (v:Value) (key:Int) (cs:List Col) (S:ByteArray) (w:World) (hE:Env w) (hs:Sl w 4 v cs.length (cols cs)) (hcl:cs.length≤9223372036854775807) (hnm:∀ c ∈ cs,c.nm.size≤9223372036854775807) (hS:S.size≤9223372036854775807) :
  Calls Tryz.prog 37 #[.agg #[v,.int .i64 key],.string S] w (RetPar w (parP cs key S.data.toList)):=by
 obtain ⟨A,cA,rfl,hc1,hc2⟩:=hs.form
 obtain ⟨N0,hN0⟩:∃ N,w.heap.size=N:=⟨_,rfl⟩
 obtain ⟨W,hW⟩:∃ W,W=w.alloc (.cells #[.slice A cs.length cA,.int .i64 key] 28):=⟨_,rfl⟩
 have hb0:Below w.heap.size w W:=by rw[hW];exact (Below.refl _ _).alloc (Nat.le_refl _) _
 have BS:=Lib.hid (show Blk W N0 28 #[.slice A cs.length cA,.int .i64 key] by rw[hW,←hN0];exact Blk.new _ _ _)
 have HB0:=Lib.hid hb0
 have HC:=Lib.hid (rschk_any (.slice A cs.length cA) cs key W (hs.below hb0) hcl hnm)
 have HE:=Lib.hid hE
 have HS:=Lib.hid hs
 have hT:=size_data S
 have HP0:=Lib.hid (pp_sch (cs:=cs) (key:=key) (T:=S.data.toList))
 have HP1:=Lib.hid (pp_big (cs:=cs) (key:=key) (T:=S.data.toList))
 have HP2:=Lib.hid (pp_nil (cs:=cs) (key:=key) (T:=S.data.toList))
 have HP3:=Lib.hid (fun j e=>pp_err (cs:=cs) (key:=key) (T:=S.data.toList) (j:=j) (e:=e))
 have HP4:=Lib.hid (fun i l=>pp_more (cs:=cs) (key:=key) (T:=S.data.toList) (i:=i) (l:=l))
 have HP5:=Lib.hid (fun i l=>pp_ok (cs:=cs) (key:=key) (T:=S.data.toList) (i:=i) (l:=l))
 have HV:=Lib.hid (fun h=>schk_valid (l:=cs) (key:=key) h)
 rw[hT]at HP1 HP2 HP3 HP4 HP5
 obtain ⟨E,hE⟩:∃ E,schkV cs key=E:=⟨_,rfl⟩
 rw[hE]at HC HP0 HP1 HP2 HP3 HP4 HP5 HV
 clear hs hE hb0 hT
 go_enter Tryz.func37,Tryz.ntmps37
 go_upto_region 1 with (fail)
 rw[←hW]
 try simp only[hN0]
 clear hW
 have bb:=BS.out
 have s0:=bb.cell 0
 have s1:=bb.cell 1
 simp only[jA,jZ,jS]at s0 s1
 clear bb
 go_wp2_with fail
 refine HC.out.mono ?_
 rintro _ w2 ⟨rfl,hb2⟩
 have HB2:=Lib.hid (bst HB0.out hb2)
 have BS2:=Lib.hid (BS.out.below hb2 BS.out.lt)
 clear hb2 HC s0 s1
 by_cases hE:E=0
 case neg =>
  have q1:(E != 0)=true:=by simpa using hE
  have HR:=Lib.hid (HP0.out hE)
  clear hE HP0 HP1 HP2 HP3 HP4 HP5 HV
  go_wp2
  go_ret3
  exact RetPar.mk_ HR.out rfl (OwnNd.nil _ _) HB2.out
 case pos =>
 subst hE
 have HV:=Lib.hid (HV.out rfl)
 by_cases hbig:65536<S.size
 ·have q2:decide (65536<S.size)=true:=decide_eq_true hbig
  have q2':decide ((65536:Int)<(S.size:Int))=true:=decide_eq_true (by omega)
  have HR:=Lib.hid (HP1.out rfl hbig)
  clear hbig HP0 HP1 HP2 HP3 HP4 HP5 HV
  go_wp2
  go_ret3
  exact RetPar.mk_ HR.out rfl (OwnNd.nil _ _) HB2.out
 have q2:decide (65536<S.size)=false:=decide_eq_false hbig
 have q2':decide ((65536:Int)<(S.size:Int))=false:=decide_eq_false (by omega)
 by_cases h0:S.size=0
 ·obtain ⟨e1,e2⟩:=empty_of (W:=S) (l:=[]) (by have:=size_data S;rw[h0]at this;exact List.length_eq_zero_iff.1 this) rfl
  have HR:=Lib.hid (HP2.out rfl h0)
  clear h0 hbig HP0 HP1 HP2 HP3 HP4 HP5 HV
  go_wp2
  go_ret3
  exact RetPar.mk_ HR.out rfl (OwnNd.nil _ _) HB2.out
 have e1:=full_of (W:=S) (l:=S.data.toList) rfl (by intro h;have:=size_data S;rw[h]at this;exact h0 this.symm)
 have hS6:S.size≤65536:=by omega
 have HP3':=Lib.hid (fun j e=>HP3.out j e rfl hbig h0)
 have HP4':=Lib.hid (fun i l=>HP4.out i l rfl hbig h0)
 have HP5':=Lib.hid (fun i l=>HP5.out i l rfl hbig h0)
 have bb:=BS2.out
 have s0:=bb.cell 0
 have s1:=bb.cell 1
 simp only[jA,jZ,jS]at s0 s1
 clear bb HP0 HP1 HP2 HP3 HP4 HP5 hbig h0
 obtain ⟨g,hg⟩:∃ g,w2.heap.size=g:=⟨_,rfl⟩
 obtain ⟨X,hX⟩:∃ X,X=w2.alloc (.cells #[.slice A cs.length cA,.int .i64 key,.string S,.int .i64 0,.slice none 0 0,.int .i64 0,.int .i64 0] 106):=⟨_,rfl⟩
 have hwg:w.heap.size≤g:=by rw[←hg];exact HB2.out.size
 have XB:=Lib.hid (show Blk X g 106 #[.slice A cs.length cA,.int .i64 key,.string S,.int .i64 ((0:Nat):Int),.slice none 0 0,.int .i64 0,.int .i64 0] by rw[hX,←hg];exact Blk.new _ _ _)
 have XK:=Lib.hid (show Below w.heap.size w X by rw[hX];exact bst HB2.out (below_new _ _))
 have hx:PCtx w g (.slice A cs.length cA) S cs w.heap.size:=⟨hS6,HS.out,HE.out,by have:=HV.out.2.1;omega,hwg,Nat.le_refl _⟩
 have HN:=Lib.hid (rnode_any_ w g w.heap.size (.slice A cs.length cA) key 0 S cs hx (S.size+1) 0 (.slice none 0 0) [] X XB.out (Nat.zero_le _) (by omega) (OwnNd.nil _ _) (by simp) XK.out XK.out.size)
 clear hx HV HS
 go_upto_region 9 with (fail)
 rw[←hX]
 try simp only[hg]
 clear hX hg s0 s1
 go_wp2_with fail
 refine HN.out.mono ?_
 rintro e w3 hret
 cases h:parN cs S.data.toList (S.size+1) 0 [] with
 | error r =>
  obtain ⟨k,er⟩:=r
  rw[h]at hret
  have HR:=Lib.hid (HP3'.out k er h)
  obtain ⟨hk,rfl,her,i0,nv0,hi0,hB⟩:=hret
  have HB3:=Lib.hid hB
  have HER:=Lib.hid her
  have q6:(er != 0)=true:=by simpa using her
  have q7:(er==0)=false:=by simpa using her
  have HK3:=Lib.hid (below_kp XK.out hk (fun q h=>by
   rcases h with h|h
   ·omega
   ·cases h) XK.out.size)
  clear hk hB her h HP3' HP4' HP5' HN
  go_wp2_with fail
  refine (rspace_any g i0 _ nv0 key k er S w3 HB3.out hi0 hS6).mono ?_
  rintro _ w4 ⟨rfl,hB,ho⟩
  have HB4:=Lib.hid hB
  have HK4:=Lib.hid (below_only HK3.out ho hwg HK3.out.size)
  clear hB ho
  obtain ⟨m,hm⟩:∃ m,sk S.data.toList i0=m:=⟨_,rfl⟩
  rw[hm]at HB4
  clear hm
  have bb:=HB4.out
  have c3:=bb.cell 3
  simp only[jA,jZ,jS]at c3
  clear bb
  by_cases hlt:m<S.size
  ·have q3:decide (m<S.size)=true:=decide_eq_true hlt
   have q3':decide ((m:Int)<(S.size:Int))=true:=decide_eq_true (by omega)
   clear hlt
   go_wp2_with fail
   refine (rfail_later g m _ nv0 key k er _ _ S w4 HB4.out q7).mono ?_
   rintro _ w5 ⟨rfl,hB,ho⟩
   have HB5:=Lib.hid hB
   have HK5:=Lib.hid (below_only HK4.out ho hwg HK4.out.size)
   clear hB ho c3
   have bb:=HB5.out
   have c5:=bb.cell 5
   have c6:=bb.cell 6
   simp only[jA,jZ,jS]at c5 c6
   clear bb
   go_wp2_with fail
   go_quiet (fail)
   go_wp2
   go_ret3
   exact RetPar.mk_ HR.out rfl (OwnNd.nil _ _) (below_drewN HK5.out _)
  ·have q3:decide (m<S.size)=false:=decide_eq_false hlt
   have q3':decide ((m:Int)<(S.size:Int))=false:=decide_eq_false (by omega)
   clear hlt
   have bb:=HB4.out
   have c5:=bb.cell 5
   have c6:=bb.cell 6
   simp only[jA,jZ,jS]at c5 c6
   clear bb
   go_wp2_with fail
   go_quiet (fail)
   go_wp2
   go_ret3
   exact RetPar.mk_ HR.out rfl (OwnNd.nil _ _) (below_drewN HK4.out _)
 | ok r =>
  obtain ⟨i,l⟩:=r
  rw[h]at hret
  obtain ⟨hk,rfl,hi,hl1,hl2,nv,hB,hO,hob⟩:=hret
  have HB3:=Lib.hid hB
  have HO3:=Lib.hid hO
  have HK3:=Lib.hid (below_kp XK.out hk (fun q h=>by
   rcases h with h|h
   ·omega
   ·cases h) XK.out.size)
  have HP4:=Lib.hid (HP4'.out i l h)
  have HP5:=Lib.hid (HP5'.out i l h)
  obtain ⟨AN,cN,rfl,_,_⟩:=hO.form
  clear hk hB hO hob h HP3' HP4' HP5' HN
  go_wp2_with fail
  refine (rspace_any g i _ _ key 0 0 S w3 HB3.out hi hS6).mono ?_
  rintro _ w4 ⟨rfl,hB,ho⟩
  have HB4:=Lib.hid hB
  have HO4:=Lib.hid (HO3.out.onlyR HB3.out ho)
  have HK4:=Lib.hid (below_only HK3.out ho hwg HK3.out.size)
  clear hB ho
  obtain ⟨m,hm⟩:∃ m,sk S.data.toList i=m:=⟨_,rfl⟩
  rw[hm]at HB4 HP4 HP5
  clear hm
  have bb:=HB4.out
  have c3:=bb.cell 3
  simp only[jA,jZ,jS]at c3
  clear bb
  by_cases hlt:m<S.size
  ·have q3:decide (m<S.size)=true:=decide_eq_true hlt
   have q3':decide ((m:Int)<(S.size:Int))=true:=decide_eq_true (by omega)
   have HR:=Lib.hid (HP4.out hlt)
   clear hlt HP4 HP5
   go_wp2_with fail
   refine (rfail_first g m _ _ key 0 _ _ S w4 HB4.out).mono ?_
   rintro _ w5 ⟨rfl,hB,ho⟩
   have HB5:=Lib.hid hB
   have HK5:=Lib.hid (below_only HK4.out ho hwg HK4.out.size)
   clear hB ho c3
   have bb:=HB5.out
   have c5:=bb.cell 5
   have c6:=bb.cell 6
   simp only[jA,jZ,jS]at c5 c6
   clear bb
   go_wp2_with fail
   go_quiet (fail)
   go_wp2
   go_ret3
   exact RetPar.mk_ HR.out rfl (OwnNd.nil _ _) (below_drewN HK5.out _)
  ·have q3:decide (m<S.size)=false:=decide_eq_false hlt
   have q3':decide ((m:Int)<(S.size:Int))=false:=decide_eq_false (by omega)
   have HR:=Lib.hid (HP5.out hlt)
   clear hlt HP4 HP5
   have bb:=HB4.out
   have c4:=bb.cell 4
   have c5:=bb.cell 5
   simp only[jA,jZ,jS]at c4 c5
   clear bb
   go_wp2
   go_ret3
   exact RetPar.mk_ HR.out rfl HO4.out HK4.out
set_option maxRecDepth 100000 in
set_option maxHeartbeats 8000000 in
theorem parses22_any (v:Value) (key:Int) (cs:List Col) (S:ByteArray) (w:World) (hE:Env w) (hs:Sl w 4 v cs.length (cols cs)) (hcl:cs.length≤9223372036854775807) (hnm:∀ c ∈ cs,c.nm.size≤9223372036854775807) (hS:S.size≤9223372036854775807) :
  Calls Tryz.prog 18 #[.agg #[v,.int .i64 key],.string S] w fun e w'=>e=.returned (.bool true)∧Below w.heap.size w w':=by
 obtain ⟨A,cA,rfl,hc1,hc2⟩:=hs.form
 have HE:=Lib.hid hE
 have HS:=Lib.hid hs
 obtain ⟨R,hR⟩:∃ R,parP cs key S.data.toList=R:=⟨_,rfl⟩
 obtain ⟨l,at_,er⟩:=R
 have HP:=Lib.hid (fun X (hX:Below w.heap.size w X)=>show Calls Tryz.prog 8 #[.agg #[.slice A cs.length cA,.int .i64 key],.string S] X (RetPar X (l,at_,er)) by
  have h:=pparse_any _ key cs S X (hE.below hX) (hs.below hX) hcl hnm hS
  rw[hR]at h;exact h)
 have HQ:=Lib.hid (fun X (hX:Below w.heap.size w X)=>show Calls Tryz.prog 37 #[.agg #[.slice A cs.length cA,.int .i64 key],.string S] X (RetPar X (l,at_,er)) by
  have h:=rparse_any _ key cs S X (hE.below hX) (hs.below hX) hcl hnm hS
  rw[hR]at h;exact h)
 obtain ⟨N0,hN0⟩:∃ N,w.heap.size=N:=⟨_,rfl⟩
 obtain ⟨W,hW⟩:∃ W,W=w.alloc (.cells #[.slice A cs.length cA,.int .i64 key] 28):=⟨_,rfl⟩
 have hb0:Below w.heap.size w W:=by rw[hW];exact (Below.refl _ _).alloc (Nat.le_refl _) _
 have BS:=Lib.hid (show Blk W N0 28 #[.slice A cs.length cA,.int .i64 key] by rw[hW,←hN0];exact Blk.new _ _ _)
 have HB0:=Lib.hid hb0
 clear hE hs hR hb0
 go_enter Tryz.func18,Tryz.ntmps18
 go_upto_region 1 with (fail)
 rw[←hW]
 try simp only[hN0]
 clear hW
 have s0:=BS.out.cell 0
 have s1:=BS.out.cell 1
 simp only[jA,jZ,jS]at s0 s1
 go_wp2_with fail
 refine (HP.out _ HB0.out).mono ?_
 rintro _ w1 ⟨nv,rfl,ho,hb1⟩
 have B1:=Lib.hid (bst HB0.out hb1)
 have BS1:=Lib.hid (BS.out.below hb1 BS.out.lt)
 have HO1:=Lib.hid ho
 obtain ⟨A1,c1,rfl,_,_⟩:=ho.form
 clear hb1 s0 s1 ho
 have s0:=BS1.out.cell 0
 have s1:=BS1.out.cell 1
 simp only[jA,jZ,jS]at s0 s1
 go_wp2_with fail
 refine (HQ.out _ B1.out).mono ?_
 rintro _ w2 ⟨nv2,rfl,ho,hb2⟩
 have B2:=Lib.hid (bst B1.out hb2)
 have HSM:=Lib.hid (samend_eq _ nv2 l w2 (HO1.out.sl.below hb2) ho.sl)
 obtain ⟨A2,c2,rfl,_,_⟩:=ho.form
 clear hb2 s0 s1 ho HO1
 go_wp2_with fail
 refine HSM.out.mono ?_
 rintro _ w3 ⟨rfl,hb3⟩
 have B3:=Lib.hid (bst B2.out hb3)
 clear hb3 HSM
 go_wp2
 go_ret
 exact ⟨rfl,B3.out⟩
set_option linter.unusedVariables false
def okW (l:List UInt8):Prop:=∀ b ∈ l,wdB b=true
theorem okW.app {a b:List UInt8} (h:okW a) (k:okW b):okW (a++b):=fun x hx=>by
 rcases List.mem_append.1 hx with hx|hx
 ·exact h x hx
 ·exact k x hx
theorem okW.cons {c:UInt8} {b:List UInt8} (h:wdB c=true) (k:okW b):okW (c::b):=fun x hx=>by
 rcases List.mem_cons.1 hx with rfl|hx
 ·exact h
 ·exact k x hx
theorem okW.nil:okW []:=fun x hx=>by simp at hx
theorem okW.rep (n:Nat) {c:UInt8} (h:wdB c=true):okW (List.replicate n c):=fun x hx=>by rw[(List.mem_replicate.1 hx).2];exact h
theorem okW.take {a:List UInt8} (h:okW a) (n:Nat):okW (a.take n):=fun x hx=>h x (List.mem_of_mem_take hx)
theorem okW.drop {a:List UInt8} (h:okW a) (n:Nat):okW (a.drop n):=fun x hx=>h x (List.mem_of_mem_drop hx)
theorem okW_dig (c:Nat) (h:c<10):wdB (UInt8.ofNat (48+c))=true:=by
 have:∀ k:Fin 10,wdB (UInt8.ofNat (48+k.val))=true:=by decide
 exact this ⟨c,h⟩
theorem okW_dd:∀ (n m:Nat),m≤n→okW (Lib.decDigits m)
 | n,m,h=>by
  rw[Lib.decDigits.eq_def]
  by_cases h10:m<10
  ·rw[dif_pos h10];exact okW.cons (okW_dig m h10) okW.nil
  ·rw[dif_neg h10]
   cases n with
   | zero=>omega
   | succ n=>exact (okW_dd n (m / 10) (by omega)).app (okW.cons (okW_dig _ (Nat.mod_lt _ (by decide))) okW.nil)
theorem okW_itoa (n:Int):okW (Lib.itoa n):=by
 by_cases h:0≤n
 ·obtain ⟨k,rfl⟩:∃ k:Nat,n=k:=⟨n.toNat,by omega⟩
  rw[Lib.itoa_nonneg];exact okW_dd _ k (Nat.le_refl _)
 ·obtain ⟨k,rfl,hk⟩:∃ k:Nat,n=-(k:Int)∧1≤k:=⟨n.natAbs,by omega,by omega⟩
  rw[Lib.itoa_neg _ hk];exact okW.cons (by decide) (okW_dd _ k (Nat.le_refl _))
theorem itoa_ne (n:Int):Lib.itoa n≠[]:=by
 by_cases h:0≤n
 ·obtain ⟨k,rfl⟩:∃ k:Nat,n=k:=⟨n.toNat,by omega⟩
  intro e;have:=itoa_pos k;rw[e]at this;simp at this
 ·obtain ⟨k,rfl,hk⟩:∃ k:Nat,n=-(k:Int)∧1≤k:=⟨n.natAbs,by omega,by omega⟩
  rw[Lib.itoa_neg _ hk];simp
theorem okW_digL (n k:Nat):okW (digL n k):=by
 unfold digL
 refine (okW.rep _ (by decide)).app ?_
 split
 ·exact okW.nil
 ·exact okW_dd _ n (Nat.le_refl _)
theorem okW_date (Y M D:Nat):okW (dateL Y M D):=by
 unfold dateL
 exact ((((okW_digL Y 4).app (okW.cons (by decide) okW.nil)).app (okW_digL M 2)).app (okW.cons (by decide) okW.nil)).app (okW_digL D 2)
theorem okW_dec (neg:Bool) (m k:Nat):okW (decStr neg m k):=by
 have hp:okW (padL m k):=by unfold padL;exact (okW.rep _ (by decide)).app (okW_itoa _)
 unfold decStr
 refine okW.app ?_ ?_
 ·split
  ·exact okW.cons (by decide) okW.nil
  ·exact okW.nil
 ·split
  ·exact hp
  ·exact ((hp.take _).app (okW.cons (by decide) okW.nil)).app (hp.drop _)
theorem dec_ne (neg:Bool) (m k:Nat):decStr neg m k≠[]:=by
 have hp:=padL_len m k
 unfold decStr
 intro h
 have h2:=(List.append_eq_nil_iff.1 h).2
 split at h2
 ·rw[h2]at hp;simp at hp
 ·simp at h2
theorem okW_hexC (n:Nat) (h:n<16):wdB (hexC n)=true:=by
 have:∀ k:Fin 16,wdB (hexC k.val)=true:=by decide
 exact this ⟨n,h⟩
theorem okW_hexL (l:List UInt8):okW (hexL l):=by
 intro x hx
 unfold hexL at hx
 obtain ⟨c,_,hc⟩:=List.mem_flatMap.1 hx
 have hlt:=c.toNat_lt
 rcases List.mem_cons.1 hc with rfl|hc
 ·exact okW_hexC _ (by omega)
 ·rcases List.mem_cons.1 hc with rfl | hc
  ·exact okW_hexC _ (by omega)
  ·simp at hc
theorem chk_val {t n:Int} {cn b:Bool} {s:ByteArray} (h:checkV t cn b n s=0):(1≤t∧t≤5)∧(b=true→cn=true∧n=0∧s.size=0)∧(b=false→(t=3→n=0∧s.size≤64)∧(t≠3→s.size=0)∧(t=2→n=0∨n=1)∧(t=4→-719162≤n∧n≤2932896)∧(t=5→-999999999999999999≤n∧n≤999999999999999999)):=by
 unfold checkV at h
 by_cases h1:t<1∨5<t
 ·rw[if_pos h1]at h;cases h
 rw[if_neg h1]at h
 by_cases h2:(b=true∨t≠3)∧s.size≠0
 ·rw[if_pos h2]at h;cases h
 rw[if_neg h2]at h
 by_cases h3:(b=true∨t=3)∧n≠0
 ·rw[if_pos h3]at h;cases h
 rw[if_neg h3]at h
 by_cases h4:b=true∧cn=false
 ·rw[if_pos h4]at h;cases h
 rw[if_neg h4]at h
 by_cases h5:b=false∧permB t n s=false
 ·rw[if_pos h5]at h;cases h
 refine ⟨by omega,fun hb=>⟨?_,?_,?_⟩,fun hb=>?_⟩
 ·cases hc:cn with
  | true=>rfl
  | false=>exact absurd ⟨hb,hc⟩ h4
 ·by_cases hn:n=0
  ·exact hn
  ·exact absurd ⟨.inl hb,hn⟩ h3
 ·by_cases hn:s.size=0
  ·exact hn
  ·exact absurd ⟨.inl hb,hn⟩ h2
 ·have hp:permB t n s=true:=by
   cases hq:permB t n s with
   | true=>rfl
   | false=>exact absurd ⟨hb,hq⟩ h5
  unfold permB at hp
  refine ⟨fun e=>⟨?_,?_⟩,fun e=>?_,fun e=>?_,fun e=>?_,fun e=>?_⟩
  ·by_cases hn:n=0
   ·exact hn
   ·exact absurd ⟨.inr e,hn⟩ h3
  ·rw[if_neg (by omega),if_neg (by omega),if_neg (by omega),if_pos e]at hp;simpa using hp
  ·by_cases hn:s.size=0
   ·exact hn
   ·exact absurd ⟨.inr e,hn⟩ h2
  ·rw[if_pos e]at hp;simpa using hp
  ·rw[if_neg (by omega),if_pos e]at hp;simpa using hp
  ·rw[if_neg (by omega),if_neg (by omega),if_pos e]at hp;simpa using hp
theorem len_ne_null {l:List UInt8} (h:l.length≠4):l≠[110,117,108,108]:=by rintro rfl;exact h rfl
theorem readV_nul:readV [110,117,108,108]=(0,2):=by decide +kernel
theorem decP_nul (k:Int):(decP [110,117,108,108] k).2≠0:=by
 unfold decP
 split
 ·decide
 ·rw[if_pos (by decide)];decide
theorem size_nil {s:ByteArray} (h:s.size=0):s.data.toList=[]:=by
 have:=sizeD s
 rw[h]at this;exact List.length_eq_zero_iff.1 this
theorem text_ok {T K n:Int} {cn b:Bool} {S:ByteArray} (hk:0≤K∧K≤18) (hv:checkV T cn b n S=0) (hn:-9223372036854775808≤n∧n≤9223372036854775807) :
  ∃ L:List UInt8,fmtV T K cn b n S=(L,0)∧L≠[]∧okW L∧vparV T K cn L=((b,n,S.data.toList),0):=by
 obtain ⟨⟨t1,t2⟩,v1,v2⟩:=chk_val hv
 obtain ⟨k0,k1⟩:=hk
 obtain ⟨v3,v4⟩:=hn
 have hsca:scaB K=true:=by unfold scaB;simp;omega
 have hbad:¬((T<1∨5<T)∨(T=5∧scaB K=false)):=by rw[hsca];rintro (h | ⟨_,h⟩);omega;cases h
 have hrange:¬(T=5∧(K<0∨18<K)):=by omega
 cases b with
 | true =>
  obtain ⟨rfl,rfl,hs⟩:=v1 rfl
  refine ⟨[110,117,108,108],?_,by simp,?_,?_⟩
  ·unfold fmtV;rw[if_neg hrange,hv,if_neg (by decide),if_pos rfl]
  ·intro x hx
   simp at hx
   rcases hx with rfl|rfl|rfl <;> decide
  ·rw[vpar_null hbad rfl,if_pos rfl,size_nil hs]
 | false =>
  obtain ⟨p1,p2,p3,p4,p5⟩:=v2 rfl
  have hf:fmtV T K cn false n S=if T=2 then (if n=1 then [116,114,117,101] else [102,97,108,115,101],0) else if T=4 then dateV n else if T=5 then decV n K else if T=3 then (34::(hexL S.data.toList ++ [34]),0) else (Lib.itoa n,0):=by
   unfold fmtV;rw[if_neg hrange,hv,if_neg (by decide),if_neg (by decide)]
  rw[hf]
  obtain rfl|rfl|rfl|rfl|rfl:T=1∨T=2∨T=3∨T=4∨T=5:=by omega
  ·rw[if_neg (by decide),if_neg (by decide),if_neg (by decide),if_neg (by decide)]
   have hr:=readV_itoa n v3 v4
   refine ⟨Lib.itoa n,rfl,itoa_ne n,okW_itoa n,?_⟩
   rw[vpar_rest hbad ?_,if_pos rfl,hr,outN_ok,size_nil (p2 (by decide))]
   intro h;rw[h,readV_nul]at hr;cases hr
  ·rw[if_pos rfl]
   rcases p3 rfl with rfl|rfl
   ·refine ⟨[102,97,108,115,101],by rw[if_neg (by decide)],by simp,?_,?_⟩
    ·intro x hx
     simp at hx
     rcases hx with rfl|rfl|rfl|rfl|rfl <;> decide
    ·rw[vpar_rest hbad (by decide),if_neg (by decide),if_pos rfl,size_nil (p2 (by decide))];rfl
   ·refine ⟨[116,114,117,101],by rw[if_pos rfl],by simp,?_,?_⟩
    ·intro x hx
     simp at hx
     rcases hx with rfl|rfl|rfl|rfl <;> decide
    ·rw[vpar_rest hbad (by decide),if_neg (by decide),if_pos rfl,size_nil (p2 (by decide))];rfl
  ·rw[if_neg (by decide),if_neg (by decide),if_neg (by decide),if_pos rfl]
   obtain ⟨rfl,hs⟩:=p1 rfl
   have hl:=sizeD S
   have hb:=byt_back (l:=S.data.toList) (by omega)
   refine ⟨hexT S.data.toList,rfl,by unfold hexT;simp,?_,?_⟩
   ·unfold hexT;exact okW.cons (by decide) ((okW_hexL _).app (okW.cons (by decide) okW.nil))
   ·rw[vpar_rest hbad ?_,if_neg (by decide),if_neg (by decide),if_pos rfl,vbyt_eq hb]
    unfold hexT;intro h;cases h
  ·rw[if_neg (by decide),if_pos rfl]
   have hn:=p4 rfl
   obtain ⟨y,m,d,hd⟩:=fl_civ (n:=n) (by omega) (by omega)
   obtain ⟨Y,M,D,rfl,rfl,rfl,h1,h2,h3⟩:=civ_nat hd
   have hl:=fl_date h1 h2 h3
   refine ⟨dateL Y M D,?_,by intro e;rw[e]at hl;simp at hl,okW_date Y M D,?_⟩
   ·rw[dateV_in (by omega) (by omega) hd];rfl
   ·rw[vpar_rest hbad (len_ne_null (by omega)),if_neg (by decide),if_neg (by decide),if_neg (by decide),if_pos rfl,date_back hd rfl rfl rfl h1 h2 h3,outN_ok,size_nil (p2 (by decide))]
  ·rw[if_neg (by decide),if_neg (by decide),if_pos rfl]
   have hn:=p5 rfl
   obtain ⟨j,rfl⟩:∃ j:Nat,K=j:=⟨K.toNat,by omega⟩
   have hw:(withB n&&scaB (j:Int))=true:=by rw[hsca,Bool.and_true];unfold withB;simp;omega
   have hP:decP (decStr (decide (n<0)) n.natAbs j) (j:Int)=(n,0):=by
    rw[decP_str (decide (n<0)) n.natAbs j j (by omega) (Nat.le_refl _) (fun h=>by rw[decide_eq_true_eq]at h;omega),Nat.sub_self,outP_up n 0 hn.1 hn.2];rfl
   refine ⟨decStr (decide (n<0)) n.natAbs j,?_,dec_ne _ _ _,okW_dec _ _ _,?_⟩
   ·unfold decV;rw[if_pos hw,Int.toNat_natCast]
   ·rw[vpar_rest hbad ?_,if_neg (by decide),if_neg (by decide),if_neg (by decide),if_neg (by decide),hP,outN_ok,size_nil (p2 (by decide))]
    intro h
    have:=decP_nul (j:Int)
    rw[←h,hP]at this;exact this rfl
set_option linter.unusedVariables false
structure GoodP (cs:List Col) (p:List Nd):Prop where
 col:∀ (k:Nat) (c:Col),cs[k]?=some c→ColGood c∧findC cs c.nm=k
 ok:PredOk cs p
 rv:∀ x ∈ p,-9223372036854775808≤x.v.n∧x.v.n≤9223372036854775807
 rl:∀ x ∈ p,∀ v ∈ x.l,-9223372036854775808≤v.n∧v.n≤9223372036854775807
theorem vtxt_ok {c:Col} {v:Vl} (hc:ColGood c) (h:checkV c.ty true v.nu v.n v.s=0) (hr:-9223372036854775808≤v.n∧v.n≤9223372036854775807) :
  vtxt c v≠[]∧okW (vtxt c v)∧vparV c.ty c.sc true (vtxt c v)=((v.nu,v.n,v.s.data.toList),0)∧(v.nu=false→vparV c.ty c.sc false (vtxt c v)=((v.nu,v.n,v.s.data.toList),0)):=by
 obtain ⟨L,h1,h2,h3,h4⟩:=text_ok hc.sc h hr
 unfold vtxt
 rw[h1]
 refine ⟨h2,h3,h4,fun hn=>?_⟩
 by_cases hl:L=[110,117,108,108]
 ·have hty:=(chk_val h).1
  have hsc:=hc.sc
  have hsca:scaB c.sc=true:=by unfold scaB;simp;omega
  have hbad:¬((c.ty<1∨5<c.ty)∨(c.ty=5∧scaB c.sc=false)):=by rw[hsca];rintro (h | ⟨_,h⟩);omega;cases h
  rw[vpar_null hbad hl,if_pos rfl,hn]at h4
  cases h4
 ·rw[←(vpar_rest_null hl).2];exact h4
section
variable {cs:List Col} {p:List Nd}
theorem GoodP.leaf (h:GoodP cs p) {i:Nat} {x:Nd} (hx:p[i]?=some x) (h9:x.op<9):∃ c,cs[x.col.toNat]?=some c∧ColGood c∧findC cs c.nm=x.col∧1≤x.op∧(valsP x).length≤16∧(x.op<7→x.v.nu=false)∧(x.op=7→x.l≠[]) ∧
  ∀ v ∈ valsP x,vtxt c v≠[]∧okW (vtxt c v)∧vparV c.ty c.sc true (vtxt c v)=((v.nu,v.n,v.s.data.toList),0)∧(v.nu=false→vparV c.ty c.sc false (vtxt c v)=((v.nu,v.n,v.s.data.toList),0)):=by
 have hn:=h.ok.node i x hx
 obtain ⟨c0,c1,c,hc⟩:=node_col hn h9
 obtain ⟨g1,g2⟩:=h.col _ c hc
 obtain ⟨k1,k2,k3⟩:=node_vals hn h9 hc
 have hm:=List.mem_of_getElem? hx
 refine ⟨c,hc,g1,by omega,(node_op hn).1,k2,k3,fun h7 e=>?_,fun v hv=>vtxt_ok g1 (k1 v hv) ?_⟩
 ·rw[nv_leaf (K:=x.col.toNat) (by have:=node_op hn;omega) (by omega) (by omega) hc,if_neg (by omega),if_neg (by omega),e]at hn
  simp at hn
 ·unfold valsP at hv
  by_cases h7:x.op<7
  ·rw[if_pos h7]at hv;simp at hv;subst hv;exact h.rv x hm
  ·rw[if_neg h7]at hv
   by_cases h8:x.op=8
   ·rw[if_pos h8]at hv;simp at hv
   ·rw[if_neg h8]at hv;exact h.rl x hm v hv
section
variable {cs:List Col} {rec:List (List UInt8)→List Nd→Except Int (List (List UInt8)×List Nd)} {op f:Nat} {ts t1 t2 t3:List (List UInt8)} {acc a2 a3:List Nd} {e:Int} {x:Nd}
end
end
set_option linter.unusedVariables false
/-! Truth values. -/
open Go.RowKit Go.Sort
theorem two_nm:∀ c ∈ twoC,c.nm.size≤9223372036854775807:=fun c hc=>by simp[twoC]at hc;rcases hc with rfl | rfl <;> decide
end Go.Proofs.YtjnamjkdjcndiaaGreatDoor
