/-
 The walk of PredtextLimits.
-/
import Derived.Test.YtjnamjkdjcndiaaGreatDoorM20
import Derived.Test.YtjnamjkdjcndiaaGreatDoorM15
import Derived.Test.YtjnamjkdjcndiaaGreatDoorM4
namespace Go.Proofs.YtjnamjkdjcndiaaGreatDoor
open Go.RowKit Go.Sort

theorem made_bytes (n:Nat):(madeCells (Value.int IntKind.u8 0).cells (n * 1)).toList=ints8 (List.replicate n 0):=by
 unfold madeCells ints8
 rw[Array.toList_map,Array.toList_range,Nat.mul_one,List.map_replicate]
 apply List.ext_getElem
 ·simp
 ·intro i h1 h2
  simp[Value.cells,Nat.mod_one]
theorem own_set8 {w:World} {base g n cap j:Nat} {zs:List Int} {z:Int} (h:w.ownsRow base 5 1 (.slice (some ⟨g,0,none⟩) n cap) n (ints8 zs)) :
  (w.setCell ⟨g,j,none⟩ (.int .u8 z)).ownsRow base 5 1 (.slice (some ⟨g,0,none⟩) n cap) n (ints8 (zs.set j z)):=by
 rw[show ints8 (zs.set j z)=(ints8 zs).set j (.int .u8 z) by unfold ints8;rw[List.map_set]]
 obtain ⟨h1,h2⟩:=h
 rcases h2 with ⟨h2,_⟩|⟨g',cap',cur,e0,hb,hg,hn2,hc,hcs,ht⟩
 ·cases h2
 injection e0 with e1 _ e3
 injection e1 with e1
 injection e1 with e1
 subst e1 e3
 refine ⟨by rw[List.length_set,h1],.inr ⟨g,cap,_,rfl,hb,Go.heap_setCell_same w g j cur 5 (.int .u8 z) hg,hn2,hc,by simpa using hcs,?_⟩⟩
 rw[Array.toList_setIfInBounds,←ht,List.take_set]
theorem own_cell8 {w:World} {base g n cap j:Nat} {zs:List Int} {z:Int} (h:w.ownsRow base 5 1 (.slice (some ⟨g,0,none⟩) n cap) n (ints8 zs)) (hj:zs[j]?=some z):w.cell? ⟨g,j,none⟩=some (.int .u8 z):=by
 have h:=World.ownsRow.cells h (g:=g) rfl j (.int .u8 z) (by unfold ints8;rw[List.getElem?_map,hj];rfl)
 rw[Addr.add_lit,Nat.zero_add]at h
 exact h
theorem strOf_size (xs:List Int):(strOfNums xs).size=xs.length:=by rw[←size_data,strOf_byt];unfold byt;rw[List.length_map]
set_option maxRecDepth 100000 in
set_option maxHeartbeats 8000000 in
theorem predtextLimits_walk (n m:Int) (w:World) (hE:Env w):Calls Tryz.prog 5 #[.int .i64 n,.int .i64 m] w fun e w'=>e=.returned (.bool true)∧Below w.heap.size w w':=by
 have HE:=Lib.hid hE
 have p1:=pick_lo n 3 (by omega)
 have p2:=pick_hi n 3 (by omega)
 have HP1:=Lib.hid (fun X=>pick_any n 3 X (by omega) (by omega))
 obtain ⟨k1,hk1⟩:∃ k:Nat,pick n 3=k:=⟨(pick n 3).toNat,by omega⟩
 rw[hk1]at p1 p2 HP1
 have p3:=pick_lo m 3 (by omega)
 have p4:=pick_hi m 3 (by omega)
 have HP2:=Lib.hid (fun X=>pick_any m 3 X (by omega) (by omega))
 obtain ⟨k2,hk2⟩:∃ k:Nat,pick m 3=k:=⟨(pick m 3).toNat,by omega⟩
 rw[hk2]at p3 p4 HP2
 have p5:=pick_lo n 2 (by omega)
 have p6:=pick_hi n 2 (by omega)
 have HP3:=Lib.hid (fun X=>pick_any n 2 X (by omega) (by omega))
 obtain ⟨k3,hk3⟩:∃ k:Nat,pick n 2=k:=⟨(pick n 2).toNat,by omega⟩
 rw[hk3]at p5 p6 HP3
 obtain ⟨K1,hK1⟩:∃ K:Nat,62+k1=K:=⟨_,rfl⟩
 obtain ⟨K2,hK2⟩:∃ K:Nat,15+k2=K:=⟨_,rfl⟩
 obtain ⟨K3,hK3⟩:∃ K:Nat,65536+k3=K:=⟨_,rfl⟩
 have hK1b:K1≤64:=by omega
 have hK2b:K2≤17:=by omega
 have hK3b:K3≤65537:=by omega
 have w1:IntKind.i64.wrap (62+(k1:Int))=(K1:Int):=by rw[show 62+(k1:Int)=(K1:Int) by omega];exact IntWalk.i64_in _ (by omega)
 have w2:IntKind.i64.wrap (15+(k2:Int))=(K2:Int):=by rw[show 15+(k2:Int)=(K2:Int) by omega];exact IntWalk.i64_in _ (by omega)
 have w3:IntKind.i64.wrap (65536+(k3:Int))=(K3:Int):=by rw[show 65536+(k3:Int)=(K3:Int) by omega];exact IntWalk.i64_in _ (by omega)
 have w1':IntKind.i64.wrap ((k1:Int)+62)=(K1:Int):=by rw[show (k1:Int)+62=(K1:Int) by omega];exact IntWalk.i64_in _ (by omega)
 have w2':IntKind.i64.wrap ((k2:Int)+15)=(K2:Int):=by rw[show (k2:Int)+15=(K2:Int) by omega];exact IntWalk.i64_in _ (by omega)
 have w3':IntKind.i64.wrap ((k3:Int)+65536)=(K3:Int):=by rw[show (k3:Int)+65536=(K3:Int) by omega];exact IntWalk.i64_in _ (by omega)
 clear hK1 hK2 hK3 p1 p2 p3 p4 p5 p6 hk1 hk2 hk3 hE
 go_enter Tryz.func5,Tryz.ntmps5
 go_wp2_with fail
 refine (HP1.out _).mono ?_
 rintro _ _ ⟨rfl,rfl⟩
 go_wp2_with fail
 clear w1 w1' HP1
 go_loopw [5,6] (fun s i wr=>∃ (k:Nat) (U:ByteArray),k≤64∧i=.int .i64 (k:Int)∧s=.string U∧U.size+6 * k≤400∧Below w.heap.size w wr) (fun _ i _=>(intOf i).toNat)
 case atStart=>exact ⟨K1,{ data:=#[40,110,117,108,108,32,112,114,105,99,101,41] },hK1b,rfl,rfl,by have:ByteArray.size { data:=#[40,110,117,108,108,32,112,114,105,99,101,41] }=12:=rfl;omega,Below.refl _ _⟩
 case round =>
  obtain ⟨k,U,hk,rfl,rfl,hUs,hbel⟩:=hrel
  have HBL:=Lib.hid hbel
  clear hbel
  by_cases hk0:0<k
  ·have q0:decide ((0:Int)<(k:Int))=true:=decide_eq_true (by omega)
   have q0':decide (0<k)=true:=decide_eq_true hk0
   have wk:IntKind.i64.wrap ((k:Int) - 1)=((k - 1:Nat):Int):=by rw[show ((k - 1:Nat):Int)=(k:Int) - 1 by omega];exact IntWalk.i64_in _ (by omega)
   have m1:¬9223372036854775807<5+U.size:=by omega
   have m2:¬9223372036854775807<5+U.size+1:=by omega
   go_wp2
   go_roundw
   case rel=>exact ⟨k - 1,_,by omega,rfl,rfl,by simp only[ByteArray.size_append];have:ByteArray.size { data:=#[40,110,111,116,32] }=5:=rfl;have:ByteArray.size { data:=#[41] }=1:=rfl;omega,HBL.out⟩
   case measure=>simp[intOf];omega
  ·have q0:decide ((0:Int)<(k:Int))=false:=decide_eq_false (by omega)
   have q0':decide (0<k)=false:=decide_eq_false hk0
   go_wp2_with fail
   refine (HP2.out _).mono ?_
   rintro _ _ ⟨rfl,rfl⟩
   have hUb:U.size≤400:=by omega
   clear hUs hk0 q0 q0' hk
   go_wp2_with fail
   clear w2 w2' HP2
   go_loopw [7,8] (fun s i wx=>∃ (k:Nat) (V:ByteArray),k≤17∧i=.int .i64 (k:Int)∧s=.string V∧V.size+2 * k≤60∧Below w.heap.size w wx) (fun _ i _=>(intOf i).toNat)
   case atStart=>exact ⟨K2,{ data:=#[40,105,110,32,105,100] },hK2b,rfl,rfl,by have:ByteArray.size { data:=#[40,105,110,32,105,100] }=6:=rfl;omega,HBL.out⟩
   case round =>
    clear HBL
    obtain ⟨kb,V,hk,rfl,rfl,hVs,hbel⟩:=hrel
    have HBL:=Lib.hid hbel
    clear hbel
    by_cases hk0:0<kb
    ·have q0:decide ((0:Int)<(kb:Int))=true:=decide_eq_true (by omega)
     have q0':decide (0<kb)=true:=decide_eq_true hk0
     have wk:IntKind.i64.wrap ((kb:Int) - 1)=((kb - 1:Nat):Int):=by rw[show ((kb - 1:Nat):Int)=(kb:Int) - 1 by omega];exact IntWalk.i64_in _ (by omega)
     have m1:¬9223372036854775807<V.size+2:=by omega
     go_wp2
     go_roundw
     case rel=>exact ⟨kb - 1,_,by omega,rfl,rfl,by simp only[ByteArray.size_append];have:ByteArray.size { data:=#[32,55] }=2:=rfl;omega,HBL.out⟩
     case measure=>simp[intOf];omega
    ·have q0:decide ((0:Int)<(kb:Int))=false:=decide_eq_false (by omega)
     have q0':decide (0<kb)=false:=decide_eq_false hk0
     have m1:¬9223372036854775807<V.size+1:=by omega
     obtain ⟨V1,hV1⟩:∃ V1,V ++ { data:=#[41] }=V1:=⟨_,rfl⟩
     have hV1s:V1.size≤61:=by rw[←hV1,ByteArray.size_append];have:ByteArray.size { data:=#[41] }=1:=rfl;omega
     obtain ⟨i0,hi,hz0,hz1,hz2⟩:=info_parts info_u8
     obtain ⟨W2,hrun,r1,r2⟩:=run_make_full (P:=Tryz.prog) wr wr.heap.size 41 5 i0 (.int .u8 0) 1 Tryz.underlying41 hi hz0 hz1 .i64 .i64 K3 (by rw[hz2];omega) (by unfold maxLen;omega) (Nat.le_refl _)
     have hbw2:Below wr.heap.size wr W2:=⟨r2.os,r2.tape,r2.output,r2.size,fun i hi=>r2.block i hi (by simp)⟩
     rw[made_bytes]at r1
     obtain ⟨G,hG⟩:∃ G,wr.heap.size=G:=⟨_,rfl⟩
     rw[hG]at hrun r1
     have HOW:=Lib.hid (own_mono r1 (show w.heap.size≤G by rw[←hG];exact HBL.out.size))
     have HBW:=Lib.hid (bst HBL.out hbw2)
     have hwG:w.heap.size≤G:=by rw[←hG];exact HBL.out.size
     clear hi hz0 hz1 hz2 r1 r2 hbw2 hVs hk0 hk HBL
     go_wp2_with fail
     try rw[hV1]
     try simp only[hV1]
     refine (HP3.out _).mono ?_
     rintro _ _ ⟨rfl,rfl⟩
     clear hV1
     go_wp2_with fail
     clear w3 w3' HP3 hrun hG q0 q0' m1
     go_loopw [38] (fun i wy=>∃ (j:Nat) (zs:List Int),j≤K3∧i=.int .i64 (j:Int)∧zs.length=K3∧wy.ownsRow w.heap.size 5 1 (.slice (some ⟨G,0,none⟩) K3 K3) K3 (ints8 zs)∧Below w.heap.size w wy) (fun i _=>K3 - (intOf i).toNat)
     case atStart=>exact ⟨0,List.replicate K3 0,by omega,rfl,List.length_replicate ..,HOW.out,HBW.out⟩
     case round =>
      clear HOW HBW
      obtain ⟨j,zs,hj,rfl,hzl,how,hbel⟩:=hrel
      have HOW:=Lib.hid how
      have HBW:=Lib.hid hbel
      have HZL:=Lib.hid hzl
      clear how hbel hzl
      by_cases hjl:j<K3
      ·have qj:decide (j<K3)=true:=decide_eq_true hjl
       have pj:(j<K3)=True:=eq_true hjl
       have wj:IntKind.i64.wrap ((j:Int)+1)=(j:Int)+1:=IntWalk.i64_in _ (by omega)
       obtain ⟨zo,hzo⟩:∃ zo,zs[j]?=some zo:=⟨_,List.getElem?_eq_getElem (by rw[HZL.out];exact hjl)⟩
       have kc:=own_cell8 HOW.out hzo
       have kf:=own_frozI HOW.out j
       have hgb:=(HOW.out.lt G rfl).2
       have HO2:=Lib.hid (own_set8 (j:=j) (z:=32) HOW.out)
       have HB2:=Lib.hid (below_row HBW.out (grownBy_set wr ⟨G,j,none⟩ (.int .u8 32)) (show w.heap.size≤G from hwG) HBW.out.size)
       clear hzo
       go_wp2
       go_roundw
       case rel=>exact ⟨j+1,zs.set j 32,by omega,by rw[show ((j+1:Nat):Int)=(j:Int)+1 by omega],by rw[List.length_set];exact HZL.out,HO2.out,HB2.out⟩
       case measure=>simp[intOf];omega
      ·obtain rfl:K3=j:=by omega
       go_upto_region 18 with (fail)
       refine wp_region_inv (by kernel_rfl) (by kernel_rfl) (fun L a w'=>∃ u45 u46 u47 u48 u49 u50 u51 u52 u53 u54 u55 u56 u57 u58 u59 u60 u61 u4:Value,a=⟨#[.int .i64 n,.int .i64 m,undef,undef,u4,.string U,.int .i64 k,.string V1,.int .i64 kb,.slice (some ⟨G,0,none⟩) K3 K3,u10,.int .i64 n,.int .i64 k1,.int .i64 K1,.int .i64 k,.bool false,u16,u17,u18,u19,u20,.int .i64 m,.int .i64 k2,.int .i64 K2,.int .i64 kb,.bool false,u26,u27,u28,u29,.string V,.string V1,.int .i64 n,.int .i64 k3,.int .i64 K3,.slice (some ⟨G,0,none⟩) K3 K3,.slice (some ⟨G,0,none⟩) K3 K3,.int .i64 K3,.int .i64 K3,.bool false,u40,u41,u42,u43,u44,u45,u46,u47,u48,u49,u50,u51,u52,u53,u54,u55,u56,u57,u58,u59,u60,u61],[]⟩ ∧
         Below wr.heap.size wr w'∧Got (L 0) u45 (.bool true)∧Got (L 1) u46 (.bool true)∧(L 2=true→∃ gg,u47=.agg #[.slice (some ⟨gg,0,none⟩) 2 2,.int .i64 0]∧Sl w' 4 (.slice (some ⟨gg,0,none⟩) 2 2) 2 (cols twoC))∧Got (L 3) u48 (.string U)∧Got (L 4) u49 (.bool true)∧Got (L 5) u50 (.bool true)∧Got (L 6) u51 (.bool true)∧(L 7=true→∃ gg,u52=.agg #[.slice (some ⟨gg,0,none⟩) 2 2,.int .i64 0]∧Sl w' 4 (.slice (some ⟨gg,0,none⟩) 2 2) 2 (cols twoC))∧Got (L 8) u53 (.string V1)∧Got (L 9) u54 (.bool true)∧Got (L 10) u55 (.bool true)∧Got (L 11) u56 (.bool true)∧(L 12=true→∃ gg,u57=.agg #[.slice (some ⟨gg,0,none⟩) 2 2,.int .i64 0]∧Sl w' 4 (.slice (some ⟨gg,0,none⟩) 2 2) 2 (cols twoC))∧Got (L 13) u58 (.slice (some ⟨G,0,none⟩) K3 K3)∧Got (L 14) u59 (.string (strOfNums zs))∧Got (L 15) u60 (.bool true)∧Got (L 16) u61 (.bool true)∧Got (L 17) u4 (.bool true))
        ?_ ?_ ?_
       ·exact ⟨_,_,_,_,_,_,_,_,_,_,_,_,_,_,_,_,_,_,rfl,(Below.refl _ _).drew,nofun,nofun,nofun,nofun,nofun,nofun,nofun,nofun,nofun,nofun,nofun,nofun,nofun,nofun,nofun,nofun,nofun,nofun⟩
       ·refine ⟨?_,?_,?_,?_,?_,?_,?_,?_,?_,?_,?_,?_,?_,?_,?_,?_,?_,?_,trivial⟩
        ·refine fun L a w'=>ex16 fun _ _ _ _ _ _ _ _ _ _ _ _ _ _ _ _=>ex2 fun _ _=>un16 fun ha hb g0 g1 g2 g3 g4 g5 g6 g7 g8 g9 g10 g11 g12 g13=>un2 fun g14 g15=>un1 fun g16 g17 hl hd K hK=>?_;subst ha
         dsimp only at hK ⊢
         go_wp2_with fail
         refine (awake22_any w' (HE.out.below (bst HBW.out hb)).1).mono ?_
         rintro _ w4 ⟨rfl,hb4⟩
         exact hK _ _ ⟨_,_,_,_,_,_,_,_,_,_,_,_,_,_,_,_,_,_,rfl,bst hb hb4,fun _=>rfl,g1,fun h=>(g2 h).elim fun gg h=>⟨gg,h.1,h.2.below hb4⟩,g3,g4,g5,g6,fun h=>(g7 h).elim fun gg h=>⟨gg,h.1,h.2.below hb4⟩,g8,g9,g10,g11,fun h=>(g12 h).elim fun gg h=>⟨gg,h.1,h.2.below hb4⟩,g13,g14,g15,g16,g17⟩
        ·refine fun L a w'=>ex16 fun _ _ _ _ _ _ _ _ _ _ _ _ _ _ _ _=>ex2 fun _ _=>un16 fun ha hb g0 g1 g2 g3 g4 g5 g6 g7 g8 g9 g10 g11 g12 g13=>un2 fun g14 g15=>un1 fun g16 g17 hl hd K hK=>?_;subst ha
         simp[Region.binds]at hd
         dsimp only at hK ⊢
         have e0:=g0 (by simp[hd])
         subst e0
         go_simp
         exact hK _ _ ⟨_,_,_,_,_,_,_,_,_,_,_,_,_,_,_,_,_,_,rfl,hb,g0,fun _=>rfl,g2,g3,g4,g5,g6,g7,g8,g9,g10,g11,g12,g13,g14,g15,g16,g17⟩
        ·refine fun L a w'=>ex16 fun _ _ _ _ _ _ _ _ _ _ _ _ _ _ _ _=>ex2 fun _ _=>un16 fun ha hb g0 g1 g2 g3 g4 g5 g6 g7 g8 g9 g10 g11 g12 g13=>un2 fun g14 g15=>un1 fun g16 g17 hl hd K hK=>?_;subst ha
         simp[Region.binds]at hd
         dsimp only at hK ⊢
         have e1:=g1 (by simp[hd])
         subst e1
         go_wp2_with fail
         refine (two_any w').mono ?_
         rintro _ w4 ⟨gg,rfl,hS4,hb4⟩
         exact hK _ _ ⟨_,_,_,_,_,_,_,_,_,_,_,_,_,_,_,_,_,_,rfl,bst hb hb4,g0,g1,fun _=>⟨gg,rfl,hS4⟩,g3,g4,g5,g6,fun h=>(g7 h).elim fun gg h=>⟨gg,h.1,h.2.below hb4⟩,g8,g9,g10,g11,fun h=>(g12 h).elim fun gg h=>⟨gg,h.1,h.2.below hb4⟩,g13,g14,g15,g16,g17⟩
        ·refine fun L a w'=>ex16 fun _ _ _ _ _ _ _ _ _ _ _ _ _ _ _ _=>ex2 fun _ _=>un16 fun ha hb g0 g1 g2 g3 g4 g5 g6 g7 g8 g9 g10 g11 g12 g13=>un2 fun g14 g15=>un1 fun g16 g17 hl hd K hK=>?_;subst ha
         simp[Region.binds]at hd
         dsimp only at hK ⊢
         have e1:=g1 (by simp[hd])
         subst e1
         go_simp
         exact hK _ _ ⟨_,_,_,_,_,_,_,_,_,_,_,_,_,_,_,_,_,_,rfl,hb,g0,g1,g2,fun _=>rfl,g4,g5,g6,g7,g8,g9,g10,g11,g12,g13,g14,g15,g16,g17⟩
        ·refine fun L a w'=>ex16 fun _ _ _ _ _ _ _ _ _ _ _ _ _ _ _ _=>ex2 fun _ _=>un16 fun ha hb g0 g1 g2 g3 g4 g5 g6 g7 g8 g9 g10 g11 g12 g13=>un2 fun g14 g15=>un1 fun g16 g17 hl hd K hK=>?_;subst ha
         simp[Region.binds]at hd
         dsimp only at hK ⊢
         have e1:=g1 (by simp[hd])
         subst e1
         have e3:=g3 (by simp[hd])
         subst e3
         obtain ⟨gg,egg,hS4⟩:=g2 (by simp[hd])
         subst egg
         go_wp2_with fail
         refine (parses22_any _ 0 twoC U w' (HE.out.below (bst HBW.out hb)) hS4 (by decide) two_nm (by omega)).mono ?_
         rintro _ w4 ⟨rfl,hb4⟩
         exact hK _ _ ⟨_,_,_,_,_,_,_,_,_,_,_,_,_,_,_,_,_,_,rfl,bst hb hb4,g0,g1,fun _=>⟨gg,rfl,hS4.below hb4⟩,g3,fun _=>rfl,g5,g6,fun h=>(g7 h).elim fun gg h=>⟨gg,h.1,h.2.below hb4⟩,g8,g9,g10,g11,fun h=>(g12 h).elim fun gg h=>⟨gg,h.1,h.2.below hb4⟩,g13,g14,g15,g16,g17⟩
        ·refine fun L a w'=>ex16 fun _ _ _ _ _ _ _ _ _ _ _ _ _ _ _ _=>ex2 fun _ _=>un16 fun ha hb g0 g1 g2 g3 g4 g5 g6 g7 g8 g9 g10 g11 g12 g13=>un2 fun g14 g15=>un1 fun g16 g17 hl hd K hK=>?_;subst ha
         simp[Region.binds]at hd
         dsimp only at hK ⊢
         have e1:=g1 (by simp[hd])
         subst e1
         have e4:=g4 (by simp[hd])
         subst e4
         go_simp
         exact hK _ _ ⟨_,_,_,_,_,_,_,_,_,_,_,_,_,_,_,_,_,_,rfl,hb,g0,g1,g2,g3,g4,fun _=>rfl,g6,g7,g8,g9,g10,g11,g12,g13,g14,g15,g16,g17⟩
        ·refine fun L a w'=>ex16 fun _ _ _ _ _ _ _ _ _ _ _ _ _ _ _ _=>ex2 fun _ _=>un16 fun ha hb g0 g1 g2 g3 g4 g5 g6 g7 g8 g9 g10 g11 g12 g13=>un2 fun g14 g15=>un1 fun g16 g17 hl hd K hK=>?_;subst ha
         simp[Region.binds]at hd
         dsimp only at hK ⊢
         have e5:=g5 (by simp[hd])
         subst e5
         go_simp
         exact hK _ _ ⟨_,_,_,_,_,_,_,_,_,_,_,_,_,_,_,_,_,_,rfl,hb,g0,g1,g2,g3,g4,g5,fun _=>rfl,g7,g8,g9,g10,g11,g12,g13,g14,g15,g16,g17⟩
        ·refine fun L a w'=>ex16 fun _ _ _ _ _ _ _ _ _ _ _ _ _ _ _ _=>ex2 fun _ _=>un16 fun ha hb g0 g1 g2 g3 g4 g5 g6 g7 g8 g9 g10 g11 g12 g13=>un2 fun g14 g15=>un1 fun g16 g17 hl hd K hK=>?_;subst ha
         simp[Region.binds]at hd
         dsimp only at hK ⊢
         have e6:=g6 (by simp[hd])
         subst e6
         go_wp2_with fail
         refine (two_any w').mono ?_
         rintro _ w4 ⟨gg,rfl,hS4,hb4⟩
         exact hK _ _ ⟨_,_,_,_,_,_,_,_,_,_,_,_,_,_,_,_,_,_,rfl,bst hb hb4,g0,g1,fun h=>(g2 h).elim fun gg h=>⟨gg,h.1,h.2.below hb4⟩,g3,g4,g5,g6,fun _=>⟨gg,rfl,hS4⟩,g8,g9,g10,g11,fun h=>(g12 h).elim fun gg h=>⟨gg,h.1,h.2.below hb4⟩,g13,g14,g15,g16,g17⟩
        ·refine fun L a w'=>ex16 fun _ _ _ _ _ _ _ _ _ _ _ _ _ _ _ _=>ex2 fun _ _=>un16 fun ha hb g0 g1 g2 g3 g4 g5 g6 g7 g8 g9 g10 g11 g12 g13=>un2 fun g14 g15=>un1 fun g16 g17 hl hd K hK=>?_;subst ha
         simp[Region.binds]at hd
         dsimp only at hK ⊢
         have e6:=g6 (by simp[hd])
         subst e6
         go_simp
         exact hK _ _ ⟨_,_,_,_,_,_,_,_,_,_,_,_,_,_,_,_,_,_,rfl,hb,g0,g1,g2,g3,g4,g5,g6,g7,fun _=>rfl,g9,g10,g11,g12,g13,g14,g15,g16,g17⟩
        ·refine fun L a w'=>ex16 fun _ _ _ _ _ _ _ _ _ _ _ _ _ _ _ _=>ex2 fun _ _=>un16 fun ha hb g0 g1 g2 g3 g4 g5 g6 g7 g8 g9 g10 g11 g12 g13=>un2 fun g14 g15=>un1 fun g16 g17 hl hd K hK=>?_;subst ha
         simp[Region.binds]at hd
         dsimp only at hK ⊢
         have e6:=g6 (by simp[hd])
         subst e6
         have e8:=g8 (by simp[hd])
         subst e8
         obtain ⟨gg,egg,hS4⟩:=g7 (by simp[hd])
         subst egg
         go_wp2_with fail
         refine (parses22_any _ 0 twoC V1 w' (HE.out.below (bst HBW.out hb)) hS4 (by decide) two_nm (by omega)).mono ?_
         rintro _ w4 ⟨rfl,hb4⟩
         exact hK _ _ ⟨_,_,_,_,_,_,_,_,_,_,_,_,_,_,_,_,_,_,rfl,bst hb hb4,g0,g1,fun h=>(g2 h).elim fun gg h=>⟨gg,h.1,h.2.below hb4⟩,g3,g4,g5,g6,fun _=>⟨gg,rfl,hS4.below hb4⟩,g8,fun _=>rfl,g10,g11,fun h=>(g12 h).elim fun gg h=>⟨gg,h.1,h.2.below hb4⟩,g13,g14,g15,g16,g17⟩
        ·refine fun L a w'=>ex16 fun _ _ _ _ _ _ _ _ _ _ _ _ _ _ _ _=>ex2 fun _ _=>un16 fun ha hb g0 g1 g2 g3 g4 g5 g6 g7 g8 g9 g10 g11 g12 g13=>un2 fun g14 g15=>un1 fun g16 g17 hl hd K hK=>?_;subst ha
         simp[Region.binds]at hd
         dsimp only at hK ⊢
         have e6:=g6 (by simp[hd])
         subst e6
         have e9:=g9 (by simp[hd])
         subst e9
         go_simp
         exact hK _ _ ⟨_,_,_,_,_,_,_,_,_,_,_,_,_,_,_,_,_,_,rfl,hb,g0,g1,g2,g3,g4,g5,g6,g7,g8,g9,fun _=>rfl,g11,g12,g13,g14,g15,g16,g17⟩
        ·refine fun L a w'=>ex16 fun _ _ _ _ _ _ _ _ _ _ _ _ _ _ _ _=>ex2 fun _ _=>un16 fun ha hb g0 g1 g2 g3 g4 g5 g6 g7 g8 g9 g10 g11 g12 g13=>un2 fun g14 g15=>un1 fun g16 g17 hl hd K hK=>?_;subst ha
         simp[Region.binds]at hd
         dsimp only at hK ⊢
         have e10:=g10 (by simp[hd])
         subst e10
         go_simp
         exact hK _ _ ⟨_,_,_,_,_,_,_,_,_,_,_,_,_,_,_,_,_,_,rfl,hb,g0,g1,g2,g3,g4,g5,g6,g7,g8,g9,g10,fun _=>rfl,g12,g13,g14,g15,g16,g17⟩
        ·refine fun L a w'=>ex16 fun _ _ _ _ _ _ _ _ _ _ _ _ _ _ _ _=>ex2 fun _ _=>un16 fun ha hb g0 g1 g2 g3 g4 g5 g6 g7 g8 g9 g10 g11 g12 g13=>un2 fun g14 g15=>un1 fun g16 g17 hl hd K hK=>?_;subst ha
         simp[Region.binds]at hd
         dsimp only at hK ⊢
         have e11:=g11 (by simp[hd])
         subst e11
         go_wp2_with fail
         refine (two_any w').mono ?_
         rintro _ w4 ⟨gg,rfl,hS4,hb4⟩
         exact hK _ _ ⟨_,_,_,_,_,_,_,_,_,_,_,_,_,_,_,_,_,_,rfl,bst hb hb4,g0,g1,fun h=>(g2 h).elim fun gg h=>⟨gg,h.1,h.2.below hb4⟩,g3,g4,g5,g6,fun h=>(g7 h).elim fun gg h=>⟨gg,h.1,h.2.below hb4⟩,g8,g9,g10,g11,fun _=>⟨gg,rfl,hS4⟩,g13,g14,g15,g16,g17⟩
        ·refine fun L a w'=>ex16 fun _ _ _ _ _ _ _ _ _ _ _ _ _ _ _ _=>ex2 fun _ _=>un16 fun ha hb g0 g1 g2 g3 g4 g5 g6 g7 g8 g9 g10 g11 g12 g13=>un2 fun g14 g15=>un1 fun g16 g17 hl hd K hK=>?_;subst ha
         simp[Region.binds]at hd
         dsimp only at hK ⊢
         have e11:=g11 (by simp[hd])
         subst e11
         go_simp
         exact hK _ _ ⟨_,_,_,_,_,_,_,_,_,_,_,_,_,_,_,_,_,_,rfl,hb,g0,g1,g2,g3,g4,g5,g6,g7,g8,g9,g10,g11,g12,fun _=>rfl,g14,g15,g16,g17⟩
        ·refine fun L a w'=>ex16 fun _ _ _ _ _ _ _ _ _ _ _ _ _ _ _ _=>ex2 fun _ _=>un16 fun ha hb g0 g1 g2 g3 g4 g5 g6 g7 g8 g9 g10 g11 g12 g13=>un2 fun g14 g15=>un1 fun g16 g17 hl hd K hK=>?_;subst ha
         simp[Region.binds]at hd
         dsimp only at hK ⊢
         have e11:=g11 (by simp[hd])
         subst e11
         have e13:=g13 (by simp[hd])
         subst e13
         have hcv:=conv_own (P:=Tryz.prog) Tryz.underlying41 Tryz.underlying5 (own_below HOW.out hb) 9 Tryz.underlying9
         go_simp
         exact hK _ _ ⟨_,_,_,_,_,_,_,_,_,_,_,_,_,_,_,_,_,_,rfl,hb,g0,g1,g2,g3,g4,g5,g6,g7,g8,g9,g10,g11,g12,g13,fun _=>rfl,g15,g16,g17⟩
        ·refine fun L a w'=>ex16 fun _ _ _ _ _ _ _ _ _ _ _ _ _ _ _ _=>ex2 fun _ _=>un16 fun ha hb g0 g1 g2 g3 g4 g5 g6 g7 g8 g9 g10 g11 g12 g13=>un2 fun g14 g15=>un1 fun g16 g17 hl hd K hK=>?_;subst ha
         simp[Region.binds]at hd
         dsimp only at hK ⊢
         have e11:=g11 (by simp[hd])
         subst e11
         have e14:=g14 (by simp[hd])
         subst e14
         obtain ⟨gg,egg,hS4⟩:=g12 (by simp[hd])
         subst egg
         go_wp2_with fail
         refine (parses22_any _ 0 twoC (strOfNums zs) w' (HE.out.below (bst HBW.out hb)) hS4 (by decide) two_nm (by rw[strOf_size,HZL.out];omega)).mono ?_
         rintro _ w4 ⟨rfl,hb4⟩
         exact hK _ _ ⟨_,_,_,_,_,_,_,_,_,_,_,_,_,_,_,_,_,_,rfl,bst hb hb4,g0,g1,fun h=>(g2 h).elim fun gg h=>⟨gg,h.1,h.2.below hb4⟩,g3,g4,g5,g6,fun h=>(g7 h).elim fun gg h=>⟨gg,h.1,h.2.below hb4⟩,g8,g9,g10,g11,fun _=>⟨gg,rfl,hS4.below hb4⟩,g13,g14,fun _=>rfl,g16,g17⟩
        ·refine fun L a w'=>ex16 fun _ _ _ _ _ _ _ _ _ _ _ _ _ _ _ _=>ex2 fun _ _=>un16 fun ha hb g0 g1 g2 g3 g4 g5 g6 g7 g8 g9 g10 g11 g12 g13=>un2 fun g14 g15=>un1 fun g16 g17 hl hd K hK=>?_;subst ha
         simp[Region.binds]at hd
         dsimp only at hK ⊢
         have e11:=g11 (by simp[hd])
         subst e11
         have e15:=g15 (by simp[hd])
         subst e15
         go_simp
         exact hK _ _ ⟨_,_,_,_,_,_,_,_,_,_,_,_,_,_,_,_,_,_,rfl,hb,g0,g1,g2,g3,g4,g5,g6,g7,g8,g9,g10,g11,g12,g13,g14,g15,fun _=>rfl,g17⟩
        ·refine fun L a w'=>ex16 fun _ _ _ _ _ _ _ _ _ _ _ _ _ _ _ _=>ex2 fun _ _=>un16 fun ha hb g0 g1 g2 g3 g4 g5 g6 g7 g8 g9 g10 g11 g12 g13=>un2 fun g14 g15=>un1 fun g16 g17 hl hd K hK=>?_;subst ha
         simp[Region.binds]at hd
         dsimp only at hK ⊢
         have e16:=g16 (by simp[hd])
         subst e16
         go_simp
         exact hK _ _ ⟨_,_,_,_,_,_,_,_,_,_,_,_,_,_,_,_,_,_,rfl,hb,g0,g1,g2,g3,g4,g5,g6,g7,g8,g9,g10,g11,g12,g13,g14,g15,g16,fun _=>rfl⟩
       intro a w9 hI
       revert hI;refine ex16 fun _ _ _ _ _ _ _ _ _ _ _ _ _ _ _ _=>ex2 fun _ _=>un16 fun ha hb g0 g1 g2 g3 g4 g5 g6 g7 g8 g9 g10 g11 g12 g13=>un2 fun g14 g15=>un1 fun g16 g17=>?_;subst ha
       have e17:=g17 rfl
       subst e17
       have HB9:=Lib.hid (bst HBW.out hb)
       clear g0 g1 g2 g3 g4 g5 g6 g7 g8 g9 g10 g11 g12 g13 g14 g15 g16 hb
       go_wp2
       go_ret
       exact ⟨rfl,HB9.out⟩
end Go.Proofs.YtjnamjkdjcndiaaGreatDoor
