/-
  Words, plain laws and contracts on which the walks lean, in one text.
-/
import Derived.Test.YtjnamjkdjcndiaaGreatDoorM11
import Derived.Test.YtjnamjkdjcndiaaGreatDoorVarPut
import Derived.Test.YtjnamjkdjcndiaaGreatDoorM5
import Derived.Deep.QuietTactic
import Derived.BigQuiet
import Derived.Laws.BytesArg
import Derived.Lib.SmallJoins
import Derived.Test.YtjnamjkdjcndiaaGreatDoorM12
namespace Go.Proofs.YtjnamjkdjcndiaaGreatDoor
open Go.RowKit Go.Sort
set_option linter.unusedVariables false
theorem and15 (x:Nat) (h:x<256):bits .and .u8 (x:Int) 15=((x % 16:Nat):Int):=by
 have:∀ x:Fin 256,bits .and .u8 ((x.val:Nat):Int) 15=((x.val % 16:Nat):Int):=by decide +kernel
 exact this ⟨x,h⟩
abbrev hexS:ByteArray:={ data:=#[48,49,50,51,52,53,54,55,56,57,97,98,99,100,101,102] }
def hexI (l:List UInt8):List Int:=l.flatMap fun c=>[((hexC (c.toNat / 16)).toNat:Int),((hexC (c.toNat % 16)).toNat:Int)]
theorem check_bytes {cn:Bool} {n:Int} {s:ByteArray} (h:checkV 3 cn false n s=0):s.size≤64:=by
 unfold checkV at h
 rw[if_neg (by omega)]at h;split at h
 ·cases h
 ·split at h
  ·cases h
  ·split at h
   ·cases h
   ·split at h
    ·cases h
    ·rename_i hp
     simp[permB]at hp;omega
theorem hexS_at (c:Nat) (h:c<16):(hexS.extract c (c+1)).data.toList=[hexC c]:=by
 have:∀ c:Fin 16,(hexS.extract c.val (c.val+1)).data.toList=[hexC c.val]:=by decide +kernel
 exact this ⟨c,h⟩
theorem hexL_snoc {s:ByteArray} {m:Nat} (h:m<s.size):hexL (s.data.toList.take (m+1))=hexL (s.data.toList.take m) ++ [hexC (s[m].toNat / 16),hexC (s[m].toNat % 16)]:=by
 rw[List.take_add_one,get_data s m h,Option.toList_some];simp[hexL]
set_option maxRecDepth 100000 in
set_option maxHeartbeats 4000000 in
theorem rf_bytes (sc:ByteArray) (k:Int) (cn:Bool) (n:Int) (s:ByteArray) (w:World) (hs:s.size≤9223372036854775807) (hc:checkV 3 cn false n s=0):Calls Tryz.prog 55 #[.agg #[.string sc,.int .i64 3,.int .i64 k,.bool cn],.agg #[.bool false,.int .i64 n,.string s]] w (RetDec w (fmtV 3 k cn false n s)):=by
 have HV:=Lib.hid (show fmtV 3 k cn false n s=(34::(hexL s.data.toList ++ [34]),0) by unfold fmtV;rw[if_neg (by omega),if_neg (by rw[hc];simp),if_neg (by simp),if_neg (by omega),if_neg (by omega),if_neg (by omega),if_pos rfl]);have hs64:=check_bytes hc;have CK:=Lib.hid (fun X=>retN_of hc (rvcheck_any sc 3 k cn false n s X hs));go_enter Tryz.func55,Tryz.ntmps55
 go_wp2_with fail
 rw[show (w.alloc (.cells #[.string sc,.int .i64 3,.int .i64 k,.bool cn] 56)).alloc (.cells #[.bool false,.int .i64 n,.string s] 64)=BoxW w sc 3 k cn false n s from rfl];have hb0:=boxW_below w sc 3 k cn false n s;have bc:=boxW_c w sc 3 k cn false n s;have bv:=boxW_v w sc 3 k cn false n s;obtain ⟨W,hW⟩:∃ W,W=BoxW w sc 3 k cn false n s:=⟨_,rfl⟩
 rw[←hW]at hb0 bc bv ⊢;clear hW;refine (CK.out _).mono ?_;rintro _ w1 ⟨rfl,hb1⟩;have HB:=Lib.hid (bst hb0 hb1);have bc1:=bc.below hb1 bc.lt;have bv1:=bv.below hb1 bv.lt;have c1:w1.cell? ⟨w.heap.size,1,none⟩=some (.int .i64 3):=bc1.cell 1;have v0:w1.cell? ⟨w.heap.size+1,0,none⟩=some (.bool false):=bv1.cell 0;have v2:w1.cell? ⟨w.heap.size+1,2,none⟩=some (.string s):=bv1.cell 2;clear bc bv hb0 hb1 bc1 bv1 hc CK;go_wp2_with fail
 go_loopw [7,8] (fun x i wr=>∃ (m:Nat) (S:ByteArray),m≤s.size∧i=.int .i64 m∧x=.string S∧S.size=1+2 * m∧(∃ d,wr=w1.drewN d)∧Hid (S.data.toList=34::hexL (s.data.toList.take m))) (fun _ i _=>s.size - (intOf i).toNat)
 case atStart=>exact ⟨0,{ data:=#[34] },by omega,rfl,rfl,rfl,⟨0,rfl⟩,Lib.hid rfl⟩
 case round =>
  obtain ⟨m,S,hm,rfl,rfl,hS,⟨d,rfl⟩,hx⟩:=hrel;by_cases hlt:m<s.size
  ·have HN:=Lib.hid (hexL_snoc hlt);obtain ⟨c,hcb⟩:∃ c:Nat,s[m].toNat=c:=⟨_,rfl⟩
   have hc8:c<256:=by have:=s[m].toNat_lt;omega
   rw[hcb]at HN;obtain ⟨h,hh⟩:∃ h:Nat,c / 16=h:=⟨_,rfl⟩
   obtain ⟨l,hl⟩:∃ l:Nat,c % 16=l:=⟨_,rfl⟩
   have hb16:h<16:=by omega
   have lb16:l<16:=by omega
   rw[hh,hl]at HN;have t1:(c:Int) / 16=(h:Int):=by omega
   have t2:(c:Int) % 16=(l:Int):=by omega
   have t3:IntKind.u8.wrap ((h:Int)+1)=((h+1:Nat):Int):=by rw[IntKind.wrap_u8];omega
   have t4:IntKind.u8.wrap ((l:Int)+1)=((l+1:Nat):Int):=by rw[IntKind.wrap_u8];omega
   have t5:(c:Int).tdiv 16=(h:Int):=by rw[Int.tdiv_eq_ediv_of_nonneg (by omega)];exact t1
   have t6:(c:Int).tmod 16=(l:Int):=by rw[Int.tmod_eq_emod_of_nonneg (by omega)];exact t2
   clear hh hl;obtain ⟨H,hH⟩:∃ H:ByteArray,hexS.extract h (h+1)=H:=⟨_,rfl⟩
   obtain ⟨L,hL⟩:∃ L:ByteArray,hexS.extract l (l+1)=L:=⟨_,rfl⟩
   have HH:=Lib.hid (show H.data.toList=[hexC h] by rw[←hH];exact hexS_at h hb16);have HL:=Lib.hid (show L.data.toList=[hexC l] by rw[←hL];exact hexS_at l lb16);have zH:H.size=1:=by rw[←sizeD,HH.out];rfl
   have zL:L.size=1:=by rw[←sizeD,HL.out];rfl
   go_wp2_with fail
   go_quiet (fail)
   go_wp2;trace_state
   go_roundw
   case rel=>exact ⟨m+1,S++(H++L),by omega,by go_num,rfl,by rw[ByteArray.size_append,ByteArray.size_append];omega,⟨_,rfl⟩,Lib.hid (by rw[HN.out,ByteArray.data_append,ByteArray.data_append,Array.toList_append,Array.toList_append,hx.out,HH.out,HL.out];simp)⟩
   case measure=>simp[intOf];omega
  ·have HF:=Lib.hid (show (S ++ { data:=#[34] }:ByteArray).data.toList=34::(hexL s.data.toList ++ [34]) by
    rw[ByteArray.data_append,Array.toList_append,hx.out,List.take_of_length_le (by rw[size_data];omega)];rfl)
   go_wp2;go_ret2
   exact RetDec.mk_ (by rw[HV.out];exact HF.out) (by rw[HV.out]) (below_drewN HB.out d)
set_option linter.unusedVariables false
theorem hexI_snoc {s:ByteArray} {m:Nat} (h:m<s.size):hexI (s.data.toList.take (m+1))=hexI (s.data.toList.take m) ++ [((hexC (s[m].toNat / 16)).toNat:Int),((hexC (s[m].toNat % 16)).toNat:Int)]:=by
 rw[List.take_add_one,get_data s m h,Option.toList_some];simp[hexI]
theorem hexS_get (c:Nat) (h:c<16) (hc:c<hexS.size):((hexS[c]'hc).toNat:Int)=((hexC c).toNat:Int):=by
 have:∀ c:Fin 16,((hexS[c.val]'c.isLt).toNat:Int)=((hexC c.val).toNat:Int):=by decide +kernel
 exact this ⟨c,h⟩
theorem byt_hexI (l:List UInt8):(strOfNums (hexI l)).data.toList=hexL l:=by
 rw[strOfNums_data];unfold hexI hexL
 rw[List.map_flatMap];congr 1;funext c
 simp
theorem own_two {w:World} {base:Nat} {e:TypeId} {v:Value} {l:List Int} {a b:Int} (h:w.ownsRow base e 1 v (l.length+2) (ints8 l ++ [.int .u8 a,.int .u8 b])):w.ownsRow base e 1 v (l ++ [a,b]).length (ints8 (l ++ [a,b])):=by
 have e1:ints8 (l ++ [a,b])=ints8 l ++ [.int .u8 a,.int .u8 b]:=by simp[ints8]
 rw[e1,List.length_append];exact h
def OwnTill (p:Bool) (B:Nat) (T:TypeId) (v:Value) (xs:List Int) (w:World):Prop:=p=false→w.ownsRow B T 1 v xs.length (ints8 xs)
def OwnFrom (p:Bool) (B:Nat) (T:TypeId) (u:Value) (xs:List Int) (w:World):Prop:=p=true→w.ownsRow B T 1 u xs.length (ints8 xs)
def Till (p:Bool) (u v:Value):Prop:=p=false→u=v
set_option maxRecDepth 100000 in
set_option maxHeartbeats 8000000 in
theorem vf_bytes (sc:ByteArray) (k:Int) (cn:Bool) (n:Int) (s:ByteArray) (w:World) (hs:s.size≤9223372036854775807) (hc:checkV 3 cn false n s=0):Calls Tryz.prog 74 #[.agg #[.string sc,.int .i64 3,.int .i64 k,.bool cn],.agg #[.bool false,.int .i64 n,.string s]] w (RetDec w (fmtV 3 k cn false n s)):=by
 have HV:=Lib.hid (show fmtV 3 k cn false n s=(34::(hexL s.data.toList ++ [34]),0) by unfold fmtV;rw[if_neg (by omega),if_neg (by rw[hc];simp),if_neg (by simp),if_neg (by omega),if_neg (by omega),if_neg (by omega),if_pos rfl]);have hs64:=check_bytes hc;have CK:=Lib.hid (fun X=>retN_of hc (vcheck_any sc 3 k cn false n s X hs));go_enter Tryz.func74,Tryz.ntmps74
 go_wp2_with fail
 rw[show (w.alloc (.cells #[.string sc,.int .i64 3,.int .i64 k,.bool cn] 56)).alloc (.cells #[.bool false,.int .i64 n,.string s] 64)=BoxW w sc 3 k cn false n s from rfl];have hb0:=boxW_below w sc 3 k cn false n s;have bc:=boxW_c w sc 3 k cn false n s;have bv:=boxW_v w sc 3 k cn false n s;obtain ⟨W,hW⟩:∃ W,W=BoxW w sc 3 k cn false n s:=⟨_,rfl⟩
 rw[←hW]at hb0 bc bv ⊢;clear hW;refine (CK.out _).mono ?_;rintro _ w1 ⟨rfl,hb1⟩;have HB:=Lib.hid (bst hb0 hb1);have bc1:=bc.below hb1 bc.lt;have bv1:=bv.below hb1 bv.lt;have c1:w1.cell? ⟨w.heap.size,1,none⟩=some (.int .i64 3):=bc1.cell 1;have v0:w1.cell? ⟨w.heap.size+1,0,none⟩=some (.bool false):=bv1.cell 0;have v2:w1.cell? ⟨w.heap.size+1,2,none⟩=some (.string s):=bv1.cell 2;have hz1:w.heap.size+1<w1.heap.size:=bv1.lt;clear bc bv hb0 hb1 bc1 bv1 hc CK;go_wp2_with fail
 have own0:(w1.alloc (.cells #[.int .u8 34] 5)).ownsRow w1.heap.size 5 1 (.slice (some ⟨w1.heap.size,0,none⟩) 1 1) ([34]:List Int).length (ints8 [34]):=World.ownsRow_lit (e:=5) (size:=1) w1 #[.int .u8 34] 1 (Nat.le_refl _) (by simp[maxLen]) rfl;go_loopw [7,60] (fun b i wr=>∃ (m:Nat) (xs:List Int),m≤s.size∧i=.int .i64 m∧wr.ownsRow w1.heap.size 5 1 b xs.length (ints8 xs)∧Below w1.heap.size w1 wr∧xs.length=1+2 * m∧Hid (xs=34::hexI (s.data.toList.take m))) (fun _ i _=>s.size - (intOf i).toNat)
 case atStart=>exact ⟨0,[34],by omega,rfl,own0,Joins.below_alloc1 _ _,by simp,Lib.hid rfl⟩
 case round =>
  obtain ⟨m,xs,hm,rfl,hown,hbel,hlen,hxs⟩:=hrel;obtain ⟨A,cap,rfl,hcap,hcm⟩:=(Sl.of_own hown).form;have HL:=Lib.hid hlen;by_cases hlt:m<s.size
  ·have HN:=Lib.hid (hexI_snoc hlt);obtain ⟨c,hcb⟩:∃ c:Nat,s[m].toNat=c:=⟨_,rfl⟩
   have hc8:c<256:=by have:=s[m].toNat_lt;omega
   rw[hcb]at HN;obtain ⟨h,hh⟩:∃ h:Nat,c / 16=h:=⟨_,rfl⟩
   obtain ⟨l,hl⟩:∃ l:Nat,c % 16=l:=⟨_,rfl⟩
   have hb16:h<16:=by omega
   have lb16:l<16:=by omega
   rw[hh,hl]at HN;have t1:(c:Int) / 16=(h:Int):=by omega
   have t2:bits .and .u8 (c:Int) 15=(l:Int):=by rw[and15 c hc8,hl]
   have i1:(h:Int)<16:=by omega
   have i2:(l:Int)<16:=by omega
   have t5:(c:Int).tdiv 16=(h:Int):=by rw[Int.tdiv_eq_ediv_of_nonneg (by omega)];exact t1
   have g1:=hexS_get h hb16;have g2:=hexS_get l lb16;obtain ⟨X,hX⟩:∃ X:Int,((hexC h).toNat:Int)=X:=⟨_,rfl⟩
   obtain ⟨Y,hY⟩:∃ Y:Int,((hexC l).toNat:Int)=Y:=⟨_,rfl⟩
   rw[hX]at g1 HN;rw[hY]at g2 HN;have HS:=Lib.hid (show xs ++ [X,Y]=34::hexI (s.data.toList.take (m+1)) by rw[HN.out,hxs.out];rfl);clear hh hl hX hY hlen;go_wp2_with fail
   refine wp_region_inv (by kernel_rfl) (by kernel_rfl) (fun L a w'=>∃ u7 u63 u64 u65 u66 u67 u68 u69 u70 u71 u72 u73 u74 u75 u76 u77:Value,
     a=⟨#[.agg #[.string sc,.int .i64 3,.int .i64 k,.bool cn],.agg #[.bool false,.int .i64 n,.string s],.pointer (some ⟨w.heap.size,0,none⟩),.pointer (some ⟨w.heap.size+1,0,none⟩),.string { data:=#[] },.int .i64 0,.int .i64 0,u7,.int .i64 ↑m,.pointer (some ⟨w.heap.size,1,none⟩),.int .i64 3,.bool false,.bool false,undef,undef,undef,undef,undef,undef,undef,undef,.bool false,.agg #[.string sc,.int .i64 3,.int .i64 k,.bool cn],.agg #[.bool false,.int .i64 n,.string s],.int .i64 0,.int .i64 0,.bool false,undef,.pointer (some ⟨w.heap.size+1,0,none⟩),.bool false,.pointer (some ⟨w.heap.size,1,none⟩),.int .i64 3,.bool false,.bool false,undef,undef,undef,undef,.bool false,.bool false,undef,undef,undef,undef,undef,.bool false,.bool false,undef,undef,undef,undef,undef,undef,undef,.bool true,.bool true,.slice (some ⟨w1.heap.size,0,none⟩) 1 1,.pointer (some ⟨w.heap.size+1,2,none⟩),.string s,.int .i64 ↑s.size,.int .i64 ↑m,.bool true,.int .i64 ↑m,u63,u64,u65,u66,u67,u68,u69,u70,u71,u72,u73,u74,u75,u76,u77,u78,undef,undef,undef,undef,undef,undef,undef],[]⟩ ∧
     Below w1.heap.size w1 w' ∧
     Got (L 0) u63 (.slice A xs.length cap)∧Got (L 1) u64 (.pointer (some ⟨w.heap.size+1,2,none⟩))∧Got (L 2) u65 (.string s)∧Got (L 3) u66 (.int .i64 m)∧Got (L 4) u67 (.int .u8 c)∧Got (L 5) u68 (.int .u8 h)∧Got (L 6) u69 (.int .u8 X)∧Got (L 7) u70 (.pointer (some ⟨w.heap.size+1,2,none⟩))∧Got (L 8) u71 (.string s)∧Got (L 9) u72 (.int .i64 m)∧Got (L 10) u73 (.int .u8 c)∧Got (L 11) u74 (.int .u8 l)∧Got (L 12) u75 (.int .u8 Y)∧GotRow (L 13 && !L 14) w1.heap.size u76 2 5 #[.int .u8 X,.int .u8 Y] w'∧OwnTill (L 14) w1.heap.size 5 (.slice A xs.length cap) xs w'∧OwnFrom (L 14) w1.heap.size 5 u77 (xs ++ [X,Y]) w'∧Till (L 0) u7 (.slice A xs.length cap)∧Got (L 15) u7 u77∧(L 15=true→L 14=true))
    ?_ ?_ ?_
   ·exact ⟨.slice A xs.length cap,_,_,_,_,_,_,_,_,_,_,_,_,_,_,_,rfl,hbel.drew,nofun,nofun,nofun,nofun,nofun,nofun,nofun,nofun,nofun,nofun,nofun,nofun,nofun,nofun,fun _=>hown.drew,nofun,fun _=>rfl,nofun,nofun⟩
   ·refine ⟨?_,?_,?_,?_,?_,?_,?_,?_,?_,?_,?_,?_,?_,?_,?_,?_,trivial⟩
    ·rintro L a w' ⟨u7,u63,u64,u65,u66,u67,u68,u69,u70,u71,u72,u73,u74,u75,u76,u77,rfl,hb,g0,g1,g2,g3,g4,g5,g6,g7,g8,g9,g10,g11,g12,gr,ot,of,tl,gf,od⟩ hl hd K hK;dsimp only at hK ⊢;have e:=tl hl;subst e;go_simp;exact hK _ _ ⟨_,_,_,_,_,_,_,_,_,_,_,_,_,_,_,_,rfl,hb,fun _=>rfl,g1,g2,g3,g4,g5,g6,g7,g8,g9,g10,g11,g12,gr,ot,of,fun h=>by simp[upd]at h,gf,od⟩
    ·rintro L a w' ⟨u7,u63,u64,u65,u66,u67,u68,u69,u70,u71,u72,u73,u74,u75,u76,u77,rfl,hb,g0,g1,g2,g3,g4,g5,g6,g7,g8,g9,g10,g11,g12,gr,ot,of,tl,gf,od⟩ hl hd K hK;dsimp only at hK ⊢;go_simp;exact hK _ _ ⟨_,_,_,_,_,_,_,_,_,_,_,_,_,_,_,_,rfl,hb,g0,fun _=>rfl,g2,g3,g4,g5,g6,g7,g8,g9,g10,g11,g12,gr,ot,of,tl,gf,od⟩
    ·rintro L a w' ⟨u7,u63,u64,u65,u66,u67,u68,u69,u70,u71,u72,u73,u74,u75,u76,u77,rfl,hb,g0,g1,g2,g3,g4,g5,g6,g7,g8,g9,g10,g11,g12,gr,ot,of,tl,gf,od⟩ hl hd K hK;simp[Region.binds]at hd;dsimp only at hK ⊢;have b0:=(hb.cell (p:=⟨w.heap.size+1,2,none⟩) hz1).trans v2;have e1:=g1 (by simp[hd]);subst e1;go_simp;exact hK _ _ ⟨_,_,_,_,_,_,_,_,_,_,_,_,_,_,_,_,rfl,hb,g0,g1,fun _=>rfl,g3,g4,g5,g6,g7,g8,g9,g10,g11,g12,gr,ot,of,tl,gf,od⟩
    ·rintro L a w' ⟨u7,u63,u64,u65,u66,u67,u68,u69,u70,u71,u72,u73,u74,u75,u76,u77,rfl,hb,g0,g1,g2,g3,g4,g5,g6,g7,g8,g9,g10,g11,g12,gr,ot,of,tl,gf,od⟩ hl hd K hK;dsimp only at hK ⊢;go_simp;exact hK _ _ ⟨_,_,_,_,_,_,_,_,_,_,_,_,_,_,_,_,rfl,hb,g0,g1,g2,fun _=>rfl,g4,g5,g6,g7,g8,g9,g10,g11,g12,gr,ot,of,tl,gf,od⟩
    ·rintro L a w' ⟨u7,u63,u64,u65,u66,u67,u68,u69,u70,u71,u72,u73,u74,u75,u76,u77,rfl,hb,g0,g1,g2,g3,g4,g5,g6,g7,g8,g9,g10,g11,g12,gr,ot,of,tl,gf,od⟩ hl hd K hK;simp[Region.binds]at hd;dsimp only at hK ⊢;have e2:=g2 (by simp[hd]);subst e2;have e3:=g3 (by simp[hd]);subst e3;go_simp;exact hK _ _ ⟨_,_,_,_,_,_,_,_,_,_,_,_,_,_,_,_,rfl,hb,g0,g1,g2,g3,fun _=>rfl,g5,g6,g7,g8,g9,g10,g11,g12,gr,ot,of,tl,gf,od⟩
    ·rintro L a w' ⟨u7,u63,u64,u65,u66,u67,u68,u69,u70,u71,u72,u73,u74,u75,u76,u77,rfl,hb,g0,g1,g2,g3,g4,g5,g6,g7,g8,g9,g10,g11,g12,gr,ot,of,tl,gf,od⟩ hl hd K hK;simp[Region.binds]at hd;dsimp only at hK ⊢;have e4:=g4 (by simp[hd]);subst e4;go_simp;exact hK _ _ ⟨_,_,_,_,_,_,_,_,_,_,_,_,_,_,_,_,rfl,hb,g0,g1,g2,g3,g4,fun _=>rfl,g6,g7,g8,g9,g10,g11,g12,gr,ot,of,tl,gf,od⟩
    ·rintro L a w' ⟨u7,u63,u64,u65,u66,u67,u68,u69,u70,u71,u72,u73,u74,u75,u76,u77,rfl,hb,g0,g1,g2,g3,g4,g5,g6,g7,g8,g9,g10,g11,g12,gr,ot,of,tl,gf,od⟩ hl hd K hK;simp[Region.binds]at hd;dsimp only at hK ⊢;have e5:=g5 (by simp[hd]);subst e5;go_simp;exact hK _ _ ⟨_,_,_,_,_,_,_,_,_,_,_,_,_,_,_,_,rfl,hb,g0,g1,g2,g3,g4,g5,fun _=>rfl,g7,g8,g9,g10,g11,g12,gr,ot,of,tl,gf,od⟩
    ·rintro L a w' ⟨u7,u63,u64,u65,u66,u67,u68,u69,u70,u71,u72,u73,u74,u75,u76,u77,rfl,hb,g0,g1,g2,g3,g4,g5,g6,g7,g8,g9,g10,g11,g12,gr,ot,of,tl,gf,od⟩ hl hd K hK;dsimp only at hK ⊢;go_simp;exact hK _ _ ⟨_,_,_,_,_,_,_,_,_,_,_,_,_,_,_,_,rfl,hb,g0,g1,g2,g3,g4,g5,g6,fun _=>rfl,g8,g9,g10,g11,g12,gr,ot,of,tl,gf,od⟩
    ·rintro L a w' ⟨u7,u63,u64,u65,u66,u67,u68,u69,u70,u71,u72,u73,u74,u75,u76,u77,rfl,hb,g0,g1,g2,g3,g4,g5,g6,g7,g8,g9,g10,g11,g12,gr,ot,of,tl,gf,od⟩ hl hd K hK;simp[Region.binds]at hd;dsimp only at hK ⊢;have b0:=(hb.cell (p:=⟨w.heap.size+1,2,none⟩) hz1).trans v2;have e7:=g7 (by simp[hd]);subst e7;go_simp;exact hK _ _ ⟨_,_,_,_,_,_,_,_,_,_,_,_,_,_,_,_,rfl,hb,g0,g1,g2,g3,g4,g5,g6,g7,fun _=>rfl,g9,g10,g11,g12,gr,ot,of,tl,gf,od⟩
    ·rintro L a w' ⟨u7,u63,u64,u65,u66,u67,u68,u69,u70,u71,u72,u73,u74,u75,u76,u77,rfl,hb,g0,g1,g2,g3,g4,g5,g6,g7,g8,g9,g10,g11,g12,gr,ot,of,tl,gf,od⟩ hl hd K hK;dsimp only at hK ⊢;go_simp;exact hK _ _ ⟨_,_,_,_,_,_,_,_,_,_,_,_,_,_,_,_,rfl,hb,g0,g1,g2,g3,g4,g5,g6,g7,g8,fun _=>rfl,g10,g11,g12,gr,ot,of,tl,gf,od⟩
    ·rintro L a w' ⟨u7,u63,u64,u65,u66,u67,u68,u69,u70,u71,u72,u73,u74,u75,u76,u77,rfl,hb,g0,g1,g2,g3,g4,g5,g6,g7,g8,g9,g10,g11,g12,gr,ot,of,tl,gf,od⟩ hl hd K hK;simp[Region.binds]at hd;dsimp only at hK ⊢;have e8:=g8 (by simp[hd]);subst e8;have e9:=g9 (by simp[hd]);subst e9;go_simp;exact hK _ _ ⟨_,_,_,_,_,_,_,_,_,_,_,_,_,_,_,_,rfl,hb,g0,g1,g2,g3,g4,g5,g6,g7,g8,g9,fun _=>rfl,g11,g12,gr,ot,of,tl,gf,od⟩
    ·rintro L a w' ⟨u7,u63,u64,u65,u66,u67,u68,u69,u70,u71,u72,u73,u74,u75,u76,u77,rfl,hb,g0,g1,g2,g3,g4,g5,g6,g7,g8,g9,g10,g11,g12,gr,ot,of,tl,gf,od⟩ hl hd K hK;simp[Region.binds]at hd;dsimp only at hK ⊢;have e10:=g10 (by simp[hd]);subst e10;go_simp;exact hK _ _ ⟨_,_,_,_,_,_,_,_,_,_,_,_,_,_,_,_,rfl,hb,g0,g1,g2,g3,g4,g5,g6,g7,g8,g9,g10,fun _=>rfl,g12,gr,ot,of,tl,gf,od⟩
    ·rintro L a w' ⟨u7,u63,u64,u65,u66,u67,u68,u69,u70,u71,u72,u73,u74,u75,u76,u77,rfl,hb,g0,g1,g2,g3,g4,g5,g6,g7,g8,g9,g10,g11,g12,gr,ot,of,tl,gf,od⟩ hl hd K hK;simp[Region.binds]at hd;dsimp only at hK ⊢;have e11:=g11 (by simp[hd]);subst e11;go_simp;exact hK _ _ ⟨_,_,_,_,_,_,_,_,_,_,_,_,_,_,_,_,rfl,hb,g0,g1,g2,g3,g4,g5,g6,g7,g8,g9,g10,g11,fun _=>rfl,gr,ot,of,tl,gf,od⟩
    ·rintro L a w' ⟨u7,u63,u64,u65,u66,u67,u68,u69,u70,u71,u72,u73,u74,u75,u76,u77,rfl,hb,g0,g1,g2,g3,g4,g5,g6,g7,g8,g9,g10,g11,g12,gr,ot,of,tl,gf,od⟩ hl hd K hK;simp[Region.binds]at hd;dsimp only at hK ⊢;have e6:=g6 (by simp[hd]);subst e6;have e12:=g12 (by simp[hd]);subst e12;go_simp;exact hK _ _ ⟨_,_,_,_,_,_,_,_,_,_,_,_,_,_,_,_,rfl,hb.alloc hb.size _,g0,g1,g2,g3,g4,g5,g6,g7,g8,g9,g10,g11,g12,fun _=>⟨_,rfl,hb.size,Blk.new _ _ _⟩,fun h=>(ot h).alloc _,fun h=>(of h).alloc _,tl,gf,od⟩
    ·rintro L a w' ⟨u7,u63,u64,u65,u66,u67,u68,u69,u70,u71,u72,u73,u74,u75,u76,u77,rfl,hb,g0,g1,g2,g3,g4,g5,g6,g7,g8,g9,g10,g11,g12,gr,ot,of,tl,gf,od⟩ hl hd K hK;simp[Region.binds]at hd;dsimp only at hK ⊢;have e0:=g0 (by simp[hd]);subst e0;obtain ⟨A13,e13,hN13,hB13⟩:=gr (by simp[hd,hl]);subst e13;have ho:=ot hl;have hsl:Sl w' 1 (.slice (some ⟨A13,0,none⟩) 2 2) 2 [.int .u8 X,.int .u8 Y]:=⟨some ⟨A13,0,none⟩,2,rfl,Nat.le_refl _,by simp[maxLen],rfl,fun _=>⟨_,rfl,hB13.lt,fun j u hj=>by rw[Go.WideShapes.add_plain,Nat.zero_add,hB13.cell j];simpa using hj⟩⟩
     refine Eq.mpr (if_pos rfl) ?_
     refine wp_app (P:=Tryz.prog) (.tmp 63) (.tmp 76) ho hsl hb.size Tryz.underlying41 info_u8 rfl (by decide) (by simp[Value.oneCell']) (by have:=HL.out;omega) (by have:=HL.out;omega) rfl rfl rfl (fun v' w2 h2 h3 _=>?_)
     exact hK _ _ ⟨_,_,_,_,_,_,_,_,_,_,_,_,_,_,_,_,rfl,hb.grown h3 hb.size (fun q hq=>(ho.lt q hq).1),g0,g1,g2,g3,g4,g5,g6,g7,g8,g9,g10,g11,g12,fun h=>by simp[upd]at h,fun h=>by simp[upd]at h,fun _=>own_two h2,tl,fun h=>absurd (od h) (by simp[hl]),fun _=>rfl⟩
    ·rintro L a w' ⟨u7,u63,u64,u65,u66,u67,u68,u69,u70,u71,u72,u73,u74,u75,u76,u77,rfl,hb,g0,g1,g2,g3,g4,g5,g6,g7,g8,g9,g10,g11,g12,gr,ot,of,tl,gf,od⟩ hl hd K hK;simp[Region.binds]at hd;dsimp only at hK ⊢;go_simp;exact hK _ _ ⟨_,_,_,_,_,_,_,_,_,_,_,_,_,_,_,_,rfl,hb,g0,g1,g2,g3,g4,g5,g6,g7,g8,g9,g10,g11,g12,gr,ot,of,fun h=>by simp[upd,hd]at h,fun _=>rfl,fun _=>by simp[upd,hd]⟩
   ·rintro a w2 ⟨u7,u63,u64,u65,u66,u67,u68,u69,u70,u71,u72,u73,u74,u75,u76,u77,rfl,hb,g0,g1,g2,g3,g4,g5,g6,g7,g8,g9,g10,g11,g12,gr,ot,of,tl,gf,od⟩;have e:=g0 rfl;subst e;clear g0;have e:=g1 rfl;subst e;clear g1;have e:=g2 rfl;subst e;clear g2;have e:=g3 rfl;subst e;clear g3;have e:=g4 rfl;subst e;clear g4;have e:=g5 rfl;subst e;clear g5;have e:=g6 rfl;subst e;clear g6;have e:=g7 rfl;subst e;clear g7;have e:=g8 rfl;subst e;clear g8;have e:=g9 rfl;subst e;clear g9;have e:=g10 rfl;subst e;clear g10;have e:=g11 rfl;subst e;clear g11;have e:=g12 rfl;subst e;clear g12;have e:=gf rfl;subst e;have own2:=of rfl;clear gr ot of tl gf od hown hbel g1 g2 t1 t2 t5 i1 i2;dsimp only;go_wp2;go_roundw
    case rel=>exact ⟨m+1,xs ++ [X,Y],by omega,by go_num,own2,hb,by have:=HL.out;simp;omega,HS⟩
    case measure=>simp[intOf];omega
  ·obtain rfl:m=s.size:=by omega
   have hl2:xs.length≤129:=by omega
   clear hlen;have HF:=Lib.hid (show (strOfNums (xs ++ [34])).data.toList=34::(hexL s.data.toList ++ [34]) by
    have h1:=byt_hexI s.data.toList;rw[hxs.out,List.take_of_length_le (by rw[size_data];exact Nat.le_refl _),strOfNums_data];rw[strOfNums_data]at h1;simp[h1])
   go_wp2_with (at_builtin;go_must (refine app1 _ _ hown hbel (Nat.le_refl _) hbel.size Tryz.underlying41 info_u8 rfl (by decide) rfl (oneInt _ _) (by omega) (by omega) rfl rfl rfl rfl ?_))
   intro g' cap' w4 hown4 hbel4 _ _
   have hcv:=conv_own (P:=Tryz.prog) Tryz.underlying41 Tryz.underlying5 (by simpa using own_ints8 hown4);have HB4:=Lib.hid (HB.out.trans (hbel4.mono HB.out.size));clear hown hbel hown4 hbel4;go_wp2;go_ret2
   exact RetDec.mk_ (by rw[HV.out];exact HF.out) (by rw[HV.out]) HB4.out
theorem vfmt_any (sc:ByteArray) (t k:Int) (cn nul:Bool) (n:Int) (s:ByteArray) (w:World) (ht:Tab w) (hn:-9223372036854775808≤n∧n≤9223372036854775807) (hs:s.size≤9223372036854775807) :
  Calls Tryz.prog 74 #[.agg #[.string sc,.int .i64 t,.int .i64 k,.bool cn],.agg #[.bool nul,.int .i64 n,.string s]] w (RetDec w (fmtV t k cn nul n s)):=by
 by_cases hk:t=5∧(k<0∨18<k)
 ·obtain ⟨rfl,hk⟩:=hk;exact vf_bad sc k cn nul n s w hk
 ·by_cases hc:checkV t cn nul n s=0
  ·cases nul with
   | true=>exact vf_null sc t k cn n s w hs hk hc
   | false =>
    have hr:=check_range hc;have h5:t=1∨t=2∨t=3∨t=4∨t=5:=by omega
    rcases h5 with rfl|rfl|rfl|rfl|rfl
    ·exact vf_int sc k cn n s w ht hn hs hc
    ·exact vf_bool sc k cn n s w ht hn hs hc
    ·exact vf_bytes sc k cn n s w hs hc
    ·exact vf_date sc k cn n s w ht hn hs hc
    ·exact vf_dec sc k cn n s w ht hn hs (fun h=>hk ⟨rfl,.inl h⟩) (fun h=>hk ⟨rfl,.inr h⟩) hc
  ·exact vf_err sc t k cn nul n s w hs hk hc
theorem rvfmt_any (sc:ByteArray) (t k:Int) (cn nul:Bool) (n:Int) (s:ByteArray) (w:World) (ht:Tab w) (hn:-9223372036854775808≤n∧n≤9223372036854775807) (hs:s.size≤9223372036854775807) :
  Calls Tryz.prog 55 #[.agg #[.string sc,.int .i64 t,.int .i64 k,.bool cn],.agg #[.bool nul,.int .i64 n,.string s]] w (RetDec w (fmtV t k cn nul n s)):=by
 by_cases hk:t=5∧(k<0∨18<k)
 ·obtain ⟨rfl,hk⟩:=hk;exact rf_bad sc k cn nul n s w hk
 ·by_cases hc:checkV t cn nul n s=0
  ·cases nul with
   | true=>exact rf_null sc t k cn n s w hs hk hc
   | false =>
    have hr:=check_range hc;have h5:t=1∨t=2∨t=3∨t=4∨t=5:=by omega
    rcases h5 with rfl|rfl|rfl|rfl|rfl
    ·exact rf_int sc k cn n s w ht hn hs hc
    ·exact rf_bool sc k cn n s w ht hn hs hc
    ·exact rf_bytes sc k cn n s w hs hc
    ·exact rf_date sc k cn n s w ht hn hs hc
    ·exact rf_dec sc k cn n s w ht hn hs (fun h=>hk ⟨rfl,.inl h⟩) (fun h=>hk ⟨rfl,.inr h⟩) hc
  ·exact rf_err sc t k cn nul n s w hs hk hc

def RetT (w:World) (L:List UInt8) (e:Ending) (w':World):Prop:=∃ S:ByteArray,e=.returned (.string S)∧S.data.toList=L∧Below w.heap.size w w'
theorem RetT.mk_ {w w':World} {L:List UInt8} {S:ByteArray} (h:S.data.toList=L) (hb:Below w.heap.size w w'):RetT w L (.returned (.string S)) w':=⟨S,rfl,h,hb⟩
theorem size_of {S:ByteArray} {L:List UInt8} (h:S.data.toList=L):S.size=L.length:=by rw[←h,sizeD]
theorem vtxts_snoc (c:Col) (a:List Vl) (e:Vl):vtxts c (a ++ [e])=vtxts c a++(32::vtxt c e):=by simp[vtxts]
theorem one_vl {w:World} {g:Nat} {nu:Bool} {n:Int} {s:ByteArray} (h:Blk w g 64 #[.bool nu,.int .i64 n,.string s]):Sl w 3 (.slice (some ⟨g,0,none⟩) 1 1) 1 (vls [⟨nu,n,s⟩]) :=
 ⟨_,1,rfl,Nat.le_refl _,by decide,rfl,fun _=>⟨_,rfl,h.lt,fun j u hj=>by
  rw[Addr.add_lit,h.cell (0+j),Nat.zero_add];rw[←Array.getElem?_toList];exact hj⟩⟩
structure VlOk (c:Col) (x:Vl):Prop where
 chk:checkV c.ty true x.nu x.n x.s=0
 lo:-9223372036854775808≤x.n
 hi:x.n≤9223372036854775807
 sz:x.s.size≤9223372036854775807
theorem vtxt_len {c:Col} {x:Vl} (h:VlOk c x):(vtxt c x).length≤200:=fmtV_len _ _ _ _ _ _ ⟨h.lo,h.hi⟩
theorem vtxts_len {c:Col}:∀ {l:List Vl},(∀ x ∈ l,VlOk c x)→(vtxts c l).length≤201 * l.length
 | [],_=>by simp[vtxts]
 | x::r,h=>by
  have ih:=vtxts_len (l:=r) fun y hy=>h y (by simp[hy])
  have h1:=vtxt_len (h x (by simp));have e:vtxts c (x::r)=(32::vtxt c x)++vtxts c r:=by simp[vtxts]
  rw[e,List.length_append,List.length_cons,List.length_cons];omega
theorem vtxts_take {c:Col} {l:List Vl} (h:∀ x ∈ l,VlOk c x) (hl:l.length≤16) (k:Nat):(vtxts c (l.take k)).length≤3216:=by
 have:=vtxts_len (c:=c) (l:=l.take k) fun x hx=>h x (List.mem_of_mem_take hx)
 rw[List.length_take]at this;omega
set_option maxRecDepth 100000 in
set_option maxHeartbeats 8000000 in
theorem rword_any (op:Int) (h1:1≤op) (h2:op≤11) (w:World):Calls Tryz.prog 33 #[.int .i64 op] w fun e w'=>e=.returned (.string ⟨(wordP op).toArray⟩)∧w=w':=by
 have i0:∀ w:World,(Instr.index 99 (.agg #[.string { data:=#[101,113] },.string { data:=#[110,101] },.string { data:=#[108,116] },.string { data:=#[108,101] },.string { data:=#[103,116] },.string { data:=#[103,101] },.string { data:=#[105,110] },.string { data:=#[110,117,108,108] },.string { data:=#[97,110,100] },.string { data:=#[111,114] },.string { data:=#[110,111,116] }]) (.int .i64 0)).run Tryz.prog w=.ok (.string { data:=#[101,113] }) w:=fun _=>by kernel_rfl
 have i1:∀ w:World,(Instr.index 99 (.agg #[.string { data:=#[101,113] },.string { data:=#[110,101] },.string { data:=#[108,116] },.string { data:=#[108,101] },.string { data:=#[103,116] },.string { data:=#[103,101] },.string { data:=#[105,110] },.string { data:=#[110,117,108,108] },.string { data:=#[97,110,100] },.string { data:=#[111,114] },.string { data:=#[110,111,116] }]) (.int .i64 1)).run Tryz.prog w=.ok (.string { data:=#[110,101] }) w:=fun _=>by kernel_rfl
 have i2:∀ w:World,(Instr.index 99 (.agg #[.string { data:=#[101,113] },.string { data:=#[110,101] },.string { data:=#[108,116] },.string { data:=#[108,101] },.string { data:=#[103,116] },.string { data:=#[103,101] },.string { data:=#[105,110] },.string { data:=#[110,117,108,108] },.string { data:=#[97,110,100] },.string { data:=#[111,114] },.string { data:=#[110,111,116] }]) (.int .i64 2)).run Tryz.prog w=.ok (.string { data:=#[108,116] }) w:=fun _=>by kernel_rfl
 have i3:∀ w:World,(Instr.index 99 (.agg #[.string { data:=#[101,113] },.string { data:=#[110,101] },.string { data:=#[108,116] },.string { data:=#[108,101] },.string { data:=#[103,116] },.string { data:=#[103,101] },.string { data:=#[105,110] },.string { data:=#[110,117,108,108] },.string { data:=#[97,110,100] },.string { data:=#[111,114] },.string { data:=#[110,111,116] }]) (.int .i64 3)).run Tryz.prog w=.ok (.string { data:=#[108,101] }) w:=fun _=>by kernel_rfl
 have i4:∀ w:World,(Instr.index 99 (.agg #[.string { data:=#[101,113] },.string { data:=#[110,101] },.string { data:=#[108,116] },.string { data:=#[108,101] },.string { data:=#[103,116] },.string { data:=#[103,101] },.string { data:=#[105,110] },.string { data:=#[110,117,108,108] },.string { data:=#[97,110,100] },.string { data:=#[111,114] },.string { data:=#[110,111,116] }]) (.int .i64 4)).run Tryz.prog w=.ok (.string { data:=#[103,116] }) w:=fun _=>by kernel_rfl
 have i5:∀ w:World,(Instr.index 99 (.agg #[.string { data:=#[101,113] },.string { data:=#[110,101] },.string { data:=#[108,116] },.string { data:=#[108,101] },.string { data:=#[103,116] },.string { data:=#[103,101] },.string { data:=#[105,110] },.string { data:=#[110,117,108,108] },.string { data:=#[97,110,100] },.string { data:=#[111,114] },.string { data:=#[110,111,116] }]) (.int .i64 5)).run Tryz.prog w=.ok (.string { data:=#[103,101] }) w:=fun _=>by kernel_rfl
 have i6:∀ w:World,(Instr.index 99 (.agg #[.string { data:=#[101,113] },.string { data:=#[110,101] },.string { data:=#[108,116] },.string { data:=#[108,101] },.string { data:=#[103,116] },.string { data:=#[103,101] },.string { data:=#[105,110] },.string { data:=#[110,117,108,108] },.string { data:=#[97,110,100] },.string { data:=#[111,114] },.string { data:=#[110,111,116] }]) (.int .i64 6)).run Tryz.prog w=.ok (.string { data:=#[105,110] }) w:=fun _=>by kernel_rfl
 have i7:∀ w:World,(Instr.index 99 (.agg #[.string { data:=#[101,113] },.string { data:=#[110,101] },.string { data:=#[108,116] },.string { data:=#[108,101] },.string { data:=#[103,116] },.string { data:=#[103,101] },.string { data:=#[105,110] },.string { data:=#[110,117,108,108] },.string { data:=#[97,110,100] },.string { data:=#[111,114] },.string { data:=#[110,111,116] }]) (.int .i64 7)).run Tryz.prog w=.ok (.string { data:=#[110,117,108,108] }) w:=fun _=>by kernel_rfl
 have i8:∀ w:World,(Instr.index 99 (.agg #[.string { data:=#[101,113] },.string { data:=#[110,101] },.string { data:=#[108,116] },.string { data:=#[108,101] },.string { data:=#[103,116] },.string { data:=#[103,101] },.string { data:=#[105,110] },.string { data:=#[110,117,108,108] },.string { data:=#[97,110,100] },.string { data:=#[111,114] },.string { data:=#[110,111,116] }]) (.int .i64 8)).run Tryz.prog w=.ok (.string { data:=#[97,110,100] }) w:=fun _=>by kernel_rfl
 have i9:∀ w:World,(Instr.index 99 (.agg #[.string { data:=#[101,113] },.string { data:=#[110,101] },.string { data:=#[108,116] },.string { data:=#[108,101] },.string { data:=#[103,116] },.string { data:=#[103,101] },.string { data:=#[105,110] },.string { data:=#[110,117,108,108] },.string { data:=#[97,110,100] },.string { data:=#[111,114] },.string { data:=#[110,111,116] }]) (.int .i64 9)).run Tryz.prog w=.ok (.string { data:=#[111,114] }) w:=fun _=>by kernel_rfl
 have i10:∀ w:World,(Instr.index 99 (.agg #[.string { data:=#[101,113] },.string { data:=#[110,101] },.string { data:=#[108,116] },.string { data:=#[108,101] },.string { data:=#[103,116] },.string { data:=#[103,101] },.string { data:=#[105,110] },.string { data:=#[110,117,108,108] },.string { data:=#[97,110,100] },.string { data:=#[111,114] },.string { data:=#[110,111,116] }]) (.int .i64 10)).run Tryz.prog w=.ok (.string { data:=#[110,111,116] }) w:=fun _=>by kernel_rfl
 obtain rfl|rfl|rfl|rfl|rfl|rfl|rfl|rfl|rfl|rfl|rfl:op=1∨op=2∨op=3∨op=4∨op=5∨op=6∨op=7∨op=8∨op=9∨op=10∨op=11:=by omega
 all_goals
  go_enter Tryz.func33,Tryz.ntmps33
  go_wp2;go_ret;exact ⟨rfl,rfl⟩
set_option maxRecDepth 100000 in
set_option maxHeartbeats 8000000 in
theorem rown_any (v:Value) (key:Int) (cs:List Col) (op:Int) (K:Nat) (vn:Bool) (vi:Int) (vs:ByteArray) (l:List Vl) (u:Value) (a b:Int) (c:Col) (w:World) (ht:Tab w) (hs:Sl w 4 v cs.length (cols cs)) (hu:Sl w 3 u l.length (vls l)) (_hcl:cs.length≤1000000) (hc:cs[K]?=some c) (hnm:c.nm.size≤1000) (h1:1≤op) (h8:op≤8)
  (hv:∀ x ∈ valsP ⟨op,K,⟨vn,vi,vs⟩,l,a,b⟩,VlOk c x) (hvl:(valsP ⟨op,K,⟨vn,vi,vs⟩,l,a,b⟩).length≤16) :
  Calls Tryz.prog 34 #[.agg #[v,.int .i64 key],.agg #[.int .i64 op,.int .i64 (K:Int),.bool vn,.int .i64 vi,.string vs,u,.int .i64 a,.int .i64 b]] w (RetT w (leafC c ⟨op,K,⟨vn,vi,vs⟩,l,a,b⟩)):=by
 obtain ⟨A,cA,rfl,hc1,hc2⟩:=hs.form;obtain ⟨AL,cL,rfl,hc3,hc4⟩:=hu.form;obtain ⟨x,hx⟩:∃ x:Nd,x=⟨op,K,⟨vn,vi,vs⟩,l,a,b⟩:=⟨_,rfl⟩
 have xop:x.op=op:=by rw[hx]
 have xv:x.v=⟨vn,vi,vs⟩:=by rw[hx]
 have xl:x.l=l:=by rw[hx]
 rw[←hx]at hv hvl ⊢;have HV:=Lib.hid hv;have HVL:=Lib.hid hvl;have HP:=Lib.hid (show valsP x=if op<7 then [⟨vn,vi,vs⟩] else if op=8 then [] else l by unfold valsP;rw[xop,xv,xl]);have HLC:=Lib.hid (show leafC c x=40::(wordP op++(32::c.nm.data.toList)++vtxts c (valsP x) ++ [41]) by unfold leafC;rw[xop]);clear hx xop xv xl hv hvl;obtain ⟨B0,hB0⟩:∃ B:ByteArray,B=⟨(wordP op).toArray⟩:=⟨_,rfl⟩
 have HW:=Lib.hid (show B0.data.toList=wordP op by rw[hB0]);have hws:B0.size≤4:=by rw[size_of HW.out];exact wordP_len op
 obtain ⟨W,hW⟩:∃ W,W=(w.alloc (.cells #[.slice A cs.length cA,.int .i64 key] 28)).alloc (.cells #[.int .i64 op,.int .i64 (K:Int),.bool vn,.int .i64 vi,.string vs,.slice AL l.length cL,.int .i64 a,.int .i64 b] 66):=⟨_,rfl⟩
 have hb0:Below w.heap.size w W:=by rw[hW];exact abelS _ _ _
 have BS:=Lib.hid (show Blk W w.heap.size 28 #[.slice A cs.length cA,.int .i64 key] by rw[hW];exact (Blk.new _ _ _).alloc _);have BN:=Lib.hid (show Blk W (w.heap.size+1) 66 #[.int .i64 op,.int .i64 (K:Int),.bool vn,.int .i64 vi,.string vs,.slice AL l.length cL,.int .i64 a,.int .i64 b] by rw[hW];have h:=Blk.new (w.alloc (.cells #[.slice A cs.length cA,.int .i64 key] 28)) 66 #[.int .i64 op,.int .i64 (K:Int),.bool vn,.int .i64 vi,.string vs,.slice AL l.length cL,.int .i64 a,.int .i64 b];simpa using h);have hK:K<cs.length:=(List.getElem?_eq_some_iff.1 hc).1;obtain ⟨ad,c',pc,rfl,hc',hpc,hE⟩:=(hs.below hb0).col_load rfl hK;rw[hc]at hc';injection hc' with hc'
 subst hc';obtain ⟨hplt,k0,k1,k2,k3⟩:=hE;have qK:decide (K<cs.length)=true:=decide_eq_true hK;obtain ⟨M,hM⟩:∃ M,W.heap.size=M:=⟨_,rfl⟩
 obtain ⟨W2,hW2⟩:∃ W2,W2=W.alloc (.cells #[.string c.nm,.int .i64 c.ty,.int .i64 c.sc,.bool c.nu] 56):=⟨_,rfl⟩
 have hbW:Below W.heap.size W W2:=by rw[hW2];exact (Below.refl _ _).alloc (Nat.le_refl _) _
 have hb2:Below w.heap.size w W2:=by rw[hW2];exact hb0.alloc hb0.size _
 have BC:=Lib.hid (show Blk W2 M 56 #[.string c.nm,.int .i64 c.ty,.int .i64 c.sc,.bool c.nu] by rw[hW2,←hM];exact Blk.new _ _ _);have BN2:=Lib.hid (BN.out.below hbW BN.out.lt);have HU2:=Lib.hid (hu.below hb2);have HB2:=Lib.hid hb2;have HT:=Lib.hid (fun X (hX:Below W2.heap.size W2 X)=>(ht.below hb2).below hX);have AA0:=Lib.hid (reg_n (w:=W2) (fun X _=>(rword_any op h1 (by omega) X).mono fun e w' h=>show e=.returned (.string B0)∧Below X.heap.size X w' by rw[hB0];exact ⟨h.1,h.2 ▸ Below.refl _ _⟩));clear hs hu hb0 hbW hb2 hc ht hB0;go_enter Tryz.func34,Tryz.ntmps34
 go_upto_region 1 with (fail)
 rw[←hW];clear hW;have bb:=BS.out;have s0:=bb.cell 0;have s1:=bb.cell 1;simp only[jA,jZ,jS]at s0 s1;clear bb;have bb:=BN.out;have n0:=bb.cell 0;have n1:=bb.cell 1;have n2:=bb.cell 2;have n3:=bb.cell 3;have n4:=bb.cell 4;have n5:=bb.cell 5;have n6:=bb.cell 6;have n7:=bb.cell 7;simp only[jA,jZ,jS]at n0 n1 n2 n3 n4 n5 n6 n7;clear bb;have f0:=fun d os=>(BC.out.below (below_regrown W2 d os) BC.out.lt).cell 0
 have f1:=fun d os=>(BC.out.below (below_regrown W2 d os) BC.out.lt).cell 1
 have f2:=fun d os=>(BC.out.below (below_regrown W2 d os) BC.out.lt).cell 2
 have f3:=fun d os=>(BC.out.below (below_regrown W2 d os) BC.out.lt).cell 3
 have g0:=fun d os=>(BN2.out.below (below_regrown W2 d os) BN2.out.lt).cell 0
 have g1:=fun d os=>(BN2.out.below (below_regrown W2 d os) BN2.out.lt).cell 1
 have g2:=fun d os=>(BN2.out.below (below_regrown W2 d os) BN2.out.lt).cell 2
 have g3:=fun d os=>(BN2.out.below (below_regrown W2 d os) BN2.out.lt).cell 3
 have g4:=fun d os=>(BN2.out.below (below_regrown W2 d os) BN2.out.lt).cell 4
 have g5:=fun d os=>(BN2.out.below (below_regrown W2 d os) BN2.out.lt).cell 5
 have g6:=fun d os=>(BN2.out.below (below_regrown W2 d os) BN2.out.lt).cell 6
 have g7:=fun d os=>(BN2.out.below (below_regrown W2 d os) BN2.out.lt).cell 7
 simp only[jA,jZ,jS]at f0 f1 f2 f3 g0 g1 g2 g3 g4 g5 g6 g7;go_upto_region 2 with (fail)
 rw[←hW2];try simp only[hM]
 clear hW2 hM k0 k1 k2 k3 hpc hplt;clear s0 s1;clear n0 n1 n2 n3 n4 n5 n6 n7;refine wp_region_quiet_below (by kernel_rfl) (by kernel_rfl) ?_
 repeat (go_big_quiet_step ((first | (with_reducible exact AA0.out _ _))))
 refine wpQuiet_nil ?_
 intro _ hw'
 obtain ⟨⟨dq,osq⟩,hw''⟩:=hw';subst hw'';have XBW:=Lib.hid (below_regrown W2 dq osq);obtain ⟨X,hX⟩:∃ X,grow (redrawn W2 dq) osq=X:=⟨_,rfl⟩
 simp only[hX]at XBW;have XN:=Lib.hid (BN2.out.below XBW.out BN2.out.lt);have XC:=Lib.hid (BC.out.below XBW.out BC.out.lt);have XU:=Lib.hid (HU2.out.below XBW.out);have XB:=Lib.hid (bst HB2.out XBW.out);have XT:=Lib.hid (fun Z (hZ:Below X.heap.size X Z)=>HT.out Z (bst XBW.out hZ));clear f0 f1 f2 f3;clear g0 g1 g2 g3 g4 g5 g6 g7;clear AA0;obtain ⟨S0,hS0⟩:∃ q:ByteArray,{ data:=#[40] } ++ B0 ++ { data:=#[32] } ++ c.nm=q:=⟨_,rfl⟩
 have HS0:=Lib.hid (show S0.data.toList=40::(wordP op++(32::c.nm.data.toList)) by rw[←hS0];simp[ByteArray.data_append,HW.out]);have hs0:S0.size≤1010:=by rw[size_of HS0.out];simp only[List.length_cons,List.length_append];have:=wordP_len op;have:=sizeD c.nm;omega
 rw[hS0];clear hS0;by_cases h6:op≤6
 ·have q6:decide (op≤6)=true:=decide_eq_true h6;have q8:(op==8)=false:=by rw[beq_eq_false_iff_ne];omega
  have p1:decide (1≤op)=true:=decide_eq_true h1;have HPV:=Lib.hid (show valsP x=[⟨vn,vi,vs⟩] by rw[HP.out,if_pos (by omega)]);clear h6;have bb:=XN.out;have n0:=bb.cell 0;have n1:=bb.cell 1;have n2:=bb.cell 2;have n3:=bb.cell 3;have n4:=bb.cell 4;have n5:=bb.cell 5;have n6:=bb.cell 6;have n7:=bb.cell 7;simp only[jA,jZ,jS]at n0 n1 n2 n3 n4 n5 n6 n7;clear bb;go_wp2_with fail
  refine (rcomp_any op _ p1 q6).mono ?_;rintro _ _ ⟨rfl,rfl⟩;obtain ⟨L0,hL0⟩:∃ N,X.heap.size=N:=⟨_,rfl⟩
  obtain ⟨Y,hY⟩:∃ Y,Y=X.alloc (.cells #[.bool vn,.int .i64 vi,.string vs] 64):=⟨_,rfl⟩
  have hXY:Below X.heap.size X Y:=by rw[hY];exact (Below.refl _ _).alloc (Nat.le_refl _) _
  have YL:=Blk.new X 64 #[.bool vn,.int .i64 vi,.string vs];rw[←hY,hL0]at YL;have YU:=Lib.hid (show Sl Y 3 (.slice (some ⟨L0,0,none⟩) 1 1) 1 (vls [⟨vn,vi,vs⟩]) from one_vl YL);have YN:=Lib.hid (XN.out.below hXY XN.out.lt);have YC:=Lib.hid (XC.out.below hXY XC.out.lt);have YB:=Lib.hid (bst XB.out hXY);have YT:=Lib.hid (fun Z (hZ:Below Y.heap.size Y Z)=>XT.out Z (bst hXY hZ));clear hXY YL XT XB XC XU XN;go_upto_region 6 with (fail)
  rw[←hY];try simp only[hL0]
  clear hY hL0;clear n0 n1 n2 n3 n4 n5 n6 n7;have bb:=YN.out;have n0:=bb.cell 0;have n1:=bb.cell 1;have n2:=bb.cell 2;have n3:=bb.cell 3;have n4:=bb.cell 4;have n5:=bb.cell 5;have n6:=bb.cell 6;have n7:=bb.cell 7;simp only[jA,jZ,jS]at n0 n1 n2 n3 n4 n5 n6 n7;clear bb;go_upto_region 8 with (fail)
  clear n0 n1 n2 n3 n4 n5 n6 n7;rw[HPV.out]at HV HVL HLC;clear HPV HP;go_wp2;go_loopw [6,39] (fun o i wr=>∃ (k:Nat) (S:ByteArray),k≤1∧i=.int .i64 (k:Int)∧o=.string S∧Below Y.heap.size Y wr∧Hid (S.data.toList=S0.data.toList++vtxts c ([⟨vn,vi,vs⟩].take k))) (fun _ i _=>1 - (intOf i).toNat)
  case atStart=>exact ⟨0,S0,by omega,rfl,rfl,Below.refl _ _,Lib.hid (by simp[vtxts])⟩
  case round =>
   obtain ⟨k,S,hk,rfl,rfl,hbel,hS⟩:=hrel;have hSs:S.size≤4300:=by
    rw[size_of hS.out,List.length_append];have:=vtxts_take (c:=c) HV.out HVL.out k
    have:=sizeD S0
    omega
   by_cases hlt:k<1
   ·obtain ⟨ad2,e,pe,e0,he,hpe,hE⟩:=(YU.out.below hbel).vl_load rfl hlt;cases e0;rw[Addr.add_lit,Nat.zero_add]at hpe;subst hpe
    obtain ⟨hplt,c0,c1,c2⟩:=hE;have HLT:=Lib.hid hlt;have qm:decide (k<1)=true:=decide_eq_true hlt;have HOK:=HV.out e (List.mem_of_getElem? he);have HN:=Lib.hid (show vtxts c ([⟨vn,vi,vs⟩].take (k+1))=vtxts c ([⟨vn,vi,vs⟩].take k)++(32::vtxt c e) by rw[List.take_add_one,he];exact vtxts_snoc _ _ _);obtain ⟨F,hF⟩:∃ F,fmtV c.ty c.sc true e.nu e.n e.s=F:=⟨_,rfl⟩
    obtain ⟨B,hB⟩:∃ B:ByteArray,(⟨F.1.toArray⟩:ByteArray)=B:=⟨_,rfl⟩
    have HB:=Lib.hid (show B.data.toList=vtxt c e by rw[←hB];unfold vtxt;rw[hF]);have hBs:B.size≤200:=by rw[size_of HB.out];exact vtxt_len HOK
    obtain ⟨N5,hN5⟩:∃ N,wr.heap.size=N:=⟨_,rfl⟩
    obtain ⟨V,hV⟩:∃ V,V=wr.alloc (.cells #[.bool e.nu,.int .i64 e.n,.string e.s] 64):=⟨_,rfl⟩
    have VB:=Lib.hid (show Below Y.heap.size Y V by rw[hV];exact hbel.alloc hbel.size _);have VE:=Lib.hid (show Blk V N5 64 #[.bool e.nu,.int .i64 e.n,.string e.s] by rw[hV,←hN5];exact Blk.new _ _ _);have VC:=Lib.hid (YC.out.below VB.out YC.out.lt);have A1:=Lib.hid (reg_n (w:=V) (fun Z _=>rnull_any c Z));have A2:=Lib.hid (reg_n (w:=V) (fun Z hZ=>show Calls Tryz.prog 55 #[.agg #[.string c.nm,.int .i64 c.ty,.int .i64 c.sc,.bool true],.agg #[.bool e.nu,.int .i64 e.n,.string e.s]] Z (fun d w'=>d=.returned (.tuple #[.string B,.int .i64 F.2])∧Below Z.heap.size Z w') by
     have h:=rvfmt_any c.nm c.ty c.sc true e.nu e.n e.s Z (YT.out Z (bst VB.out hZ)) ⟨HOK.lo,HOK.hi⟩ HOK.sz;rw[hF]at h;unfold RetDec at h
     rw[hB]at h;exact h))
    obtain ⟨r,hr⟩:∃ r,F.2=r:=⟨_,rfl⟩
    rw[hr]at A2;clear he hbel hF hB hr HOK;have f0:=fun d os=>(VC.out.below (below_regrown V d os) VC.out.lt).cell 0
    have f1:=fun d os=>(VC.out.below (below_regrown V d os) VC.out.lt).cell 1
    have f2:=fun d os=>(VC.out.below (below_regrown V d os) VC.out.lt).cell 2
    have f3:=fun d os=>(VC.out.below (below_regrown V d os) VC.out.lt).cell 3
    have g0:=fun d os=>(VE.out.below (below_regrown V d os) VE.out.lt).cell 0
    have g1:=fun d os=>(VE.out.below (below_regrown V d os) VE.out.lt).cell 1
    have g2:=fun d os=>(VE.out.below (below_regrown V d os) VE.out.lt).cell 2
    simp only[jA,jZ,jS]at f0 f1 f2 f3 g0 g1 g2
  
    go_upto_region 11 with (fail)
    rw[←hV];try simp only[hN5]
    clear hV hN5 c0 c1 c2 hplt;try clear hpe
    refine wp_region_quiet_below (by kernel_rfl) (by kernel_rfl) ?_
    repeat (go_big_quiet_step ((first | (with_reducible exact A1.out _ _) | (with_reducible exact A2.out _ _))))
    refine wpQuiet_nil ?_
    intro _ hw'
    obtain ⟨⟨dq,osq⟩,hw''⟩:=hw';subst hw'';have ZB:=Lib.hid (bst VB.out (below_regrown V dq osq));obtain ⟨Z,hZ⟩:∃ Z,grow (redrawn V dq) osq=Z:=⟨_,rfl⟩
    simp only[hZ]at ZB;clear f0 f1 f2 f3 g0 g1 g2 A1 A2;go_wp2;try simp only[hZ]
    go_roundw
    case rel=>exact ⟨k+1,_,HLT.out,by go_num,rfl,ZB.out,Lib.hid (by rw[HN.out];simp[ByteArray.data_append,HB.out,hS.out])⟩
    case measure=>have:=HLT.out;simp[intOf];omega
   ·have qm:decide (k<1)=false:=decide_eq_false hlt;have HE:=Lib.hid (show S.data.toList=S0.data.toList++vtxts c [⟨vn,vi,vs⟩] by rw[hS.out,List.take_of_length_le (by first | (simp;done) | (simp;omega))]);have HX:=Lib.hid (bst YB.out hbel);clear hbel;go_wp2;go_ret;exact RetT.mk_ (by rw[HLC.out];simp[ByteArray.data_append,HE.out,HS0.out]) HX.out
 ·have q6:decide (op≤6)=false:=decide_eq_false h6;have p1:decide (1≤op)=true:=decide_eq_true h1;have YC:=XC;have YB:=XB;have YT:=XT;by_cases e8:op=8
  ·subst e8;have HPV:=Lib.hid (show valsP x=[] by rw[HP.out,if_neg (by omega),if_pos rfl]);clear h6;have bb:=XN.out;have n0:=bb.cell 0;have n1:=bb.cell 1;have n2:=bb.cell 2;have n3:=bb.cell 3;have n4:=bb.cell 4;have n5:=bb.cell 5;have n6:=bb.cell 6;have n7:=bb.cell 7;simp only[jA,jZ,jS]at n0 n1 n2 n3 n4 n5 n6 n7;clear bb;go_wp2_with fail
   refine (rcomp_any 8 _ p1 q6).mono ?_;rintro _ _ ⟨rfl,rfl⟩;go_upto_region 8 with (fail)
   clear n0 n1 n2 n3 n4 n5 n6 n7;have YU:=Lib.hid (show Sl X 3 (.slice none 0 0) 0 (vls []) from Sl.nil X 3);rw[HPV.out]at HV HVL HLC;clear HPV HP;go_wp2;go_loopw [6,39] (fun o i wr=>∃ (k:Nat) (S:ByteArray),k≤0∧i=.int .i64 (k:Int)∧o=.string S∧Below X.heap.size X wr∧Hid (S.data.toList=S0.data.toList++vtxts c (([]:List Vl).take k))) (fun _ i _=>0 - (intOf i).toNat)
   case atStart=>exact ⟨0,S0,by omega,rfl,rfl,Below.refl _ _,Lib.hid (by simp[vtxts])⟩
   case round =>
    obtain ⟨k,S,hk,rfl,rfl,hbel,hS⟩:=hrel;have hSs:S.size≤4300:=by
     rw[size_of hS.out,List.length_append];have:=vtxts_take (c:=c) HV.out HVL.out k
     have:=sizeD S0
     omega
    by_cases hlt:k<0
    ·exact absurd hlt (Nat.not_lt_zero _)
    ·have qm:decide (k<0)=false:=decide_eq_false hlt;have HE:=Lib.hid (show S.data.toList=S0.data.toList++vtxts c ([]:List Vl) by rw[hS.out,List.take_of_length_le (by first | (simp;done) | (simp;omega))]);have HX:=Lib.hid (bst YB.out hbel);clear hbel;go_wp2;go_ret;exact RetT.mk_ (by rw[HLC.out];simp[ByteArray.data_append,HE.out,HS0.out]) HX.out
  ·have e7:op=7:=by omega
   subst e7;have HPV:=Lib.hid (show valsP x=l by rw[HP.out,if_neg (by omega),if_neg (by omega)]);clear h6 e8;have bb:=XN.out;have n0:=bb.cell 0;have n1:=bb.cell 1;have n2:=bb.cell 2;have n3:=bb.cell 3;have n4:=bb.cell 4;have n5:=bb.cell 5;have n6:=bb.cell 6;have n7:=bb.cell 7;simp only[jA,jZ,jS]at n0 n1 n2 n3 n4 n5 n6 n7;clear bb;go_wp2_with fail
   refine (rcomp_any 7 _ p1 q6).mono ?_;rintro _ _ ⟨rfl,rfl⟩;go_upto_region 8 with (fail)
   clear n0 n1 n2 n3 n4 n5 n6 n7;have YU:=XU;have hl16:l.length≤16:=by have:=HVL.out;rw[HPV.out]at this;exact this
   rw[HPV.out]at HV HVL HLC;clear HPV HP;go_wp2;go_loopw [6,39] (fun o i wr=>∃ (k:Nat) (S:ByteArray),k≤l.length∧i=.int .i64 (k:Int)∧o=.string S∧Below X.heap.size X wr∧Hid (S.data.toList=S0.data.toList++vtxts c (l.take k))) (fun _ i _=>l.length - (intOf i).toNat)
   case atStart=>exact ⟨0,S0,by omega,rfl,rfl,Below.refl _ _,Lib.hid (by simp[vtxts])⟩
   case round =>
    obtain ⟨k,S,hk,rfl,rfl,hbel,hS⟩:=hrel;have hSs:S.size≤4300:=by
     rw[size_of hS.out,List.length_append];have:=vtxts_take (c:=c) HV.out HVL.out k
     have:=sizeD S0
     omega
    by_cases hlt:k<l.length
    ·obtain ⟨ad2,e,pe,e0,he,hpe,hE⟩:=(YU.out.below hbel).vl_load rfl hlt;subst e0;obtain ⟨hplt,c0,c1,c2⟩:=hE;have HLT:=Lib.hid hlt;have qm:decide (k<l.length)=true:=decide_eq_true hlt;have HOK:=HV.out e (List.mem_of_getElem? he);have HN:=Lib.hid (show vtxts c (l.take (k+1))=vtxts c (l.take k)++(32::vtxt c e) by rw[List.take_add_one,he];exact vtxts_snoc _ _ _);obtain ⟨F,hF⟩:∃ F,fmtV c.ty c.sc true e.nu e.n e.s=F:=⟨_,rfl⟩
     obtain ⟨B,hB⟩:∃ B:ByteArray,(⟨F.1.toArray⟩:ByteArray)=B:=⟨_,rfl⟩
     have HB:=Lib.hid (show B.data.toList=vtxt c e by rw[←hB];unfold vtxt;rw[hF]);have hBs:B.size≤200:=by rw[size_of HB.out];exact vtxt_len HOK
     obtain ⟨N5,hN5⟩:∃ N,wr.heap.size=N:=⟨_,rfl⟩
     obtain ⟨V,hV⟩:∃ V,V=wr.alloc (.cells #[.bool e.nu,.int .i64 e.n,.string e.s] 64):=⟨_,rfl⟩
     have VB:=Lib.hid (show Below X.heap.size X V by rw[hV];exact hbel.alloc hbel.size _);have VE:=Lib.hid (show Blk V N5 64 #[.bool e.nu,.int .i64 e.n,.string e.s] by rw[hV,←hN5];exact Blk.new _ _ _);have VC:=Lib.hid (YC.out.below VB.out YC.out.lt);have A1:=Lib.hid (reg_n (w:=V) (fun Z _=>rnull_any c Z));have A2:=Lib.hid (reg_n (w:=V) (fun Z hZ=>show Calls Tryz.prog 55 #[.agg #[.string c.nm,.int .i64 c.ty,.int .i64 c.sc,.bool true],.agg #[.bool e.nu,.int .i64 e.n,.string e.s]] Z (fun d w'=>d=.returned (.tuple #[.string B,.int .i64 F.2])∧Below Z.heap.size Z w') by
      have h:=rvfmt_any c.nm c.ty c.sc true e.nu e.n e.s Z (YT.out Z (bst VB.out hZ)) ⟨HOK.lo,HOK.hi⟩ HOK.sz;rw[hF]at h;unfold RetDec at h
      rw[hB]at h;exact h))
     obtain ⟨r,hr⟩:∃ r,F.2=r:=⟨_,rfl⟩
     rw[hr]at A2;clear he hbel hF hB hr HOK;have f0:=fun d os=>(VC.out.below (below_regrown V d os) VC.out.lt).cell 0
     have f1:=fun d os=>(VC.out.below (below_regrown V d os) VC.out.lt).cell 1
     have f2:=fun d os=>(VC.out.below (below_regrown V d os) VC.out.lt).cell 2
     have f3:=fun d os=>(VC.out.below (below_regrown V d os) VC.out.lt).cell 3
     have g0:=fun d os=>(VE.out.below (below_regrown V d os) VE.out.lt).cell 0
     have g1:=fun d os=>(VE.out.below (below_regrown V d os) VE.out.lt).cell 1
     have g2:=fun d os=>(VE.out.below (below_regrown V d os) VE.out.lt).cell 2
     simp only[jA,jZ,jS]at f0 f1 f2 f3 g0 g1 g2
   
     go_upto_region 11 with (fail)
     rw[←hV];try simp only[hN5]
     clear hV hN5 c0 c1 c2 hplt;try clear hpe
     refine wp_region_quiet_below (by kernel_rfl) (by kernel_rfl) ?_
     repeat (go_big_quiet_step ((first | (with_reducible exact A1.out _ _) | (with_reducible exact A2.out _ _))))
     refine wpQuiet_nil ?_
     intro _ hw'
     obtain ⟨⟨dq,osq⟩,hw''⟩:=hw';subst hw'';have ZB:=Lib.hid (bst VB.out (below_regrown V dq osq));obtain ⟨Z,hZ⟩:∃ Z,grow (redrawn V dq) osq=Z:=⟨_,rfl⟩
     simp only[hZ]at ZB;clear f0 f1 f2 f3 g0 g1 g2 A1 A2;go_wp2;try simp only[hZ]
     go_roundw
     case rel=>exact ⟨k+1,_,HLT.out,by go_num,rfl,ZB.out,Lib.hid (by rw[HN.out];simp[ByteArray.data_append,HB.out,hS.out])⟩
     case measure=>have:=HLT.out;simp[intOf];omega
    ·have qm:decide (k<l.length)=false:=decide_eq_false hlt;have HE:=Lib.hid (show S.data.toList=S0.data.toList++vtxts c l by rw[hS.out,List.take_of_length_le (by omega)]);have HX:=Lib.hid (bst YB.out hbel);clear hbel;go_wp2;go_ret;exact RetT.mk_ (by rw[HLC.out];simp[ByteArray.data_append,HE.out,HS0.out]) HX.out
end Go.Proofs.YtjnamjkdjcndiaaGreatDoor
