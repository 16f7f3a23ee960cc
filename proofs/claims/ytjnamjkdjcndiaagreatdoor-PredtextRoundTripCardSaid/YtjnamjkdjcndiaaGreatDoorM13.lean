/-
  Words, plain laws and contracts on which the walks lean, in one text.
-/
import Derived.Test.YtjnamjkdjcndiaaGreatDoorM10
import Derived.Test.YtjnamjkdjcndiaaGreatDoorVarPut
import Derived.Test.YtjnamjkdjcndiaaGreatDoorM5
import Derived.Deep.QuietTactic
import Derived.BigQuiet
import Derived.Laws.BytesArg
import Derived.Lib.SmallJoins
import Derived.Test.YtjnamjkdjcndiaaGreatDoorM12
namespace Go.Proofs.YtjnamjkdjcndiaaGreatDoor
open Go.RowKit Go.Sort
set_option linter.unusedVariables false
theorem and15 (x:Nat) (h:x<256):bits .and .u8 (x:Int) 15=((x % 16:Nat):Int):=by
 have:∀ x:Fin 256,bits .and .u8 ((x.val:Nat):Int) 15=((x.val % 16:Nat):Int):=by decide +kernel
 exact this ⟨x,h⟩
abbrev hexS:ByteArray:={ data:=#[48,49,50,51,52,53,54,55,56,57,97,98,99,100,101,102] }
def hexI (l:List UInt8):List Int:=l.flatMap fun c=>[((hexC (c.toNat / 16)).toNat:Int),((hexC (c.toNat % 16)).toNat:Int)]
theorem check_bytes {cn:Bool} {n:Int} {s:ByteArray} (h:checkV 3 cn false n s=0):s.size≤64:=by
 unfold checkV at h
 rw[if_neg (by omega)]at h;split at h
 ·cases h
 ·split at h
  ·cases h
  ·split at h
   ·cases h
   ·split at h
    ·cases h
    ·rename_i hp
     simp[permB]at hp;omega
set_option linter.unusedVariables false
theorem hexI_snoc {s:ByteArray} {m:Nat} (h:m<s.size):hexI (s.data.toList.take (m+1))=hexI (s.data.toList.take m) ++ [((hexC (s[m].toNat / 16)).toNat:Int),((hexC (s[m].toNat % 16)).toNat:Int)]:=by
 rw[List.take_add_one,get_data s m h,Option.toList_some];simp[hexI]
theorem hexS_get (c:Nat) (h:c<16) (hc:c<hexS.size):((hexS[c]'hc).toNat:Int)=((hexC c).toNat:Int):=by
 have:∀ c:Fin 16,((hexS[c.val]'c.isLt).toNat:Int)=((hexC c.val).toNat:Int):=by decide +kernel
 exact this ⟨c,h⟩
theorem byt_hexI (l:List UInt8):(strOfNums (hexI l)).data.toList=hexL l:=by
 rw[strOfNums_data];unfold hexI hexL
 rw[List.map_flatMap];congr 1;funext c
 simp
theorem own_two {w:World} {base:Nat} {e:TypeId} {v:Value} {l:List Int} {a b:Int} (h:w.ownsRow base e 1 v (l.length+2) (ints8 l ++ [.int .u8 a,.int .u8 b])):w.ownsRow base e 1 v (l ++ [a,b]).length (ints8 (l ++ [a,b])):=by
 have e1:ints8 (l ++ [a,b])=ints8 l ++ [.int .u8 a,.int .u8 b]:=by simp[ints8]
 rw[e1,List.length_append];exact h
def OwnTill (p:Bool) (B:Nat) (T:TypeId) (v:Value) (xs:List Int) (w:World):Prop:=p=false→w.ownsRow B T 1 v xs.length (ints8 xs)
def OwnFrom (p:Bool) (B:Nat) (T:TypeId) (u:Value) (xs:List Int) (w:World):Prop:=p=true→w.ownsRow B T 1 u xs.length (ints8 xs)
def Till (p:Bool) (u v:Value):Prop:=p=false→u=v
set_option maxRecDepth 100000 in
set_option maxHeartbeats 8000000 in
theorem vf_bytes (sc:ByteArray) (k:Int) (cn:Bool) (n:Int) (s:ByteArray) (w:World) (hs:s.size≤9223372036854775807) (hc:checkV 3 cn false n s=0):Calls Tryz.prog 74 #[.agg #[.string sc,.int .i64 3,.int .i64 k,.bool cn],.agg #[.bool false,.int .i64 n,.string s]] w (RetDec w (fmtV 3 k cn false n s)):=by
 have HV:=Lib.hid (show fmtV 3 k cn false n s=(34::(hexL s.data.toList ++ [34]),0) by unfold fmtV;rw[if_neg (by omega),if_neg (by rw[hc];simp),if_neg (by simp),if_neg (by omega),if_neg (by omega),if_neg (by omega),if_pos rfl]);have hs64:=check_bytes hc;have CK:=Lib.hid (fun X=>retN_of hc (vcheck_any sc 3 k cn false n s X hs));go_enter Tryz.func74,Tryz.ntmps74
 go_wp2_with fail
 rw[show (w.alloc (.cells #[.string sc,.int .i64 3,.int .i64 k,.bool cn] 56)).alloc (.cells #[.bool false,.int .i64 n,.string s] 64)=BoxW w sc 3 k cn false n s from rfl];have hb0:=boxW_below w sc 3 k cn false n s;have bc:=boxW_c w sc 3 k cn false n s;have bv:=boxW_v w sc 3 k cn false n s;obtain ⟨W,hW⟩:∃ W,W=BoxW w sc 3 k cn false n s:=⟨_,rfl⟩
 rw[←hW]at hb0 bc bv ⊢;clear hW;refine (CK.out _).mono ?_;rintro _ w1 ⟨rfl,hb1⟩;have HB:=Lib.hid (bst hb0 hb1);have bc1:=bc.below hb1 bc.lt;have bv1:=bv.below hb1 bv.lt;have c1:w1.cell? ⟨w.heap.size,1,none⟩=some (.int .i64 3):=bc1.cell 1;have v0:w1.cell? ⟨w.heap.size+1,0,none⟩=some (.bool false):=bv1.cell 0;have v2:w1.cell? ⟨w.heap.size+1,2,none⟩=some (.string s):=bv1.cell 2;have hz1:w.heap.size+1<w1.heap.size:=bv1.lt;clear bc bv hb0 hb1 bc1 bv1 hc CK;go_wp2_with fail
 have own0:(w1.alloc (.cells #[.int .u8 34] 5)).ownsRow w1.heap.size 5 1 (.slice (some ⟨w1.heap.size,0,none⟩) 1 1) ([34]:List Int).length (ints8 [34]):=World.ownsRow_lit (e:=5) (size:=1) w1 #[.int .u8 34] 1 (Nat.le_refl _) (by simp[maxLen]) rfl;go_loopw [7,60] (fun b i wr=>∃ (m:Nat) (xs:List Int),m≤s.size∧i=.int .i64 m∧wr.ownsRow w1.heap.size 5 1 b xs.length (ints8 xs)∧Below w1.heap.size w1 wr∧xs.length=1+2 * m∧Hid (xs=34::hexI (s.data.toList.take m))) (fun _ i _=>s.size - (intOf i).toNat)
 case atStart=>exact ⟨0,[34],by omega,rfl,own0,Joins.below_alloc1 _ _,by simp,Lib.hid rfl⟩
 case round =>
  obtain ⟨m,xs,hm,rfl,hown,hbel,hlen,hxs⟩:=hrel;obtain ⟨A,cap,rfl,hcap,hcm⟩:=(Sl.of_own hown).form;have HL:=Lib.hid hlen;by_cases hlt:m<s.size
  ·have HN:=Lib.hid (hexI_snoc hlt);obtain ⟨c,hcb⟩:∃ c:Nat,s[m].toNat=c:=⟨_,rfl⟩
   have hc8:c<256:=by have:=s[m].toNat_lt;omega
   rw[hcb]at HN;obtain ⟨h,hh⟩:∃ h:Nat,c / 16=h:=⟨_,rfl⟩
   obtain ⟨l,hl⟩:∃ l:Nat,c % 16=l:=⟨_,rfl⟩
   have hb16:h<16:=by omega
   have lb16:l<16:=by omega
   rw[hh,hl]at HN;have t1:(c:Int) / 16=(h:Int):=by omega
   have t2:bits .and .u8 (c:Int) 15=(l:Int):=by rw[and15 c hc8,hl]
   have i1:(h:Int)<16:=by omega
   have i2:(l:Int)<16:=by omega
   have t5:(c:Int).tdiv 16=(h:Int):=by rw[Int.tdiv_eq_ediv_of_nonneg (by omega)];exact t1
   have g1:=hexS_get h hb16;have g2:=hexS_get l lb16;obtain ⟨X,hX⟩:∃ X:Int,((hexC h).toNat:Int)=X:=⟨_,rfl⟩
   obtain ⟨Y,hY⟩:∃ Y:Int,((hexC l).toNat:Int)=Y:=⟨_,rfl⟩
   rw[hX]at g1 HN;rw[hY]at g2 HN;have HS:=Lib.hid (show xs ++ [X,Y]=34::hexI (s.data.toList.take (m+1)) by rw[HN.out,hxs.out];rfl);clear hh hl hX hY hlen;go_wp2_with fail
   refine wp_region_inv (by kernel_rfl) (by kernel_rfl) (fun L a w'=>∃ u7 u63 u64 u65 u66 u67 u68 u69 u70 u71 u72 u73 u74 u75 u76 u77:Value,
     a=⟨#[.agg #[.string sc,.int .i64 3,.int .i64 k,.bool cn],.agg #[.bool false,.int .i64 n,.string s],.pointer (some ⟨w.heap.size,0,none⟩),.pointer (some ⟨w.heap.size+1,0,none⟩),.string { data:=#[] },.int .i64 0,.int .i64 0,u7,.int .i64 ↑m,.pointer (some ⟨w.heap.size,1,none⟩),.int .i64 3,.bool false,.bool false,undef,undef,undef,undef,undef,undef,undef,undef,.bool false,.agg #[.string sc,.int .i64 3,.int .i64 k,.bool cn],.agg #[.bool false,.int .i64 n,.string s],.int .i64 0,.int .i64 0,.bool false,undef,.pointer (some ⟨w.heap.size+1,0,none⟩),.bool false,.pointer (some ⟨w.heap.size,1,none⟩),.int .i64 3,.bool false,.bool false,undef,undef,undef,undef,.bool false,.bool false,undef,undef,undef,undef,undef,.bool false,.bool false,undef,undef,undef,undef,undef,undef,undef,.bool true,.bool true,.slice (some ⟨w1.heap.size,0,none⟩) 1 1,.pointer (some ⟨w.heap.size+1,2,none⟩),.string s,.int .i64 ↑s.size,.int .i64 ↑m,.bool true,.int .i64 ↑m,u63,u64,u65,u66,u67,u68,u69,u70,u71,u72,u73,u74,u75,u76,u77,u78,undef,undef,undef,undef,undef,undef,undef],[]⟩ ∧
     Below w1.heap.size w1 w' ∧
     Got (L 0) u63 (.slice A xs.length cap)∧Got (L 1) u64 (.pointer (some ⟨w.heap.size+1,2,none⟩))∧Got (L 2) u65 (.string s)∧Got (L 3) u66 (.int .i64 m)∧Got (L 4) u67 (.int .u8 c)∧Got (L 5) u68 (.int .u8 h)∧Got (L 6) u69 (.int .u8 X)∧Got (L 7) u70 (.pointer (some ⟨w.heap.size+1,2,none⟩))∧Got (L 8) u71 (.string s)∧Got (L 9) u72 (.int .i64 m)∧Got (L 10) u73 (.int .u8 c)∧Got (L 11) u74 (.int .u8 l)∧Got (L 12) u75 (.int .u8 Y)∧GotRow (L 13 && !L 14) w1.heap.size u76 2 5 #[.int .u8 X,.int .u8 Y] w'∧OwnTill (L 14) w1.heap.size 5 (.slice A xs.length cap) xs w'∧OwnFrom (L 14) w1.heap.size 5 u77 (xs ++ [X,Y]) w'∧Till (L 0) u7 (.slice A xs.length cap)∧Got (L 15) u7 u77∧(L 15=true→L 14=true))
    ?_ ?_ ?_
   ·exact ⟨.slice A xs.length cap,_,_,_,_,_,_,_,_,_,_,_,_,_,_,_,rfl,hbel.drew,nofun,nofun,nofun,nofun,nofun,nofun,nofun,nofun,nofun,nofun,nofun,nofun,nofun,nofun,fun _=>hown.drew,nofun,fun _=>rfl,nofun,nofun⟩
   ·refine ⟨?_,?_,?_,?_,?_,?_,?_,?_,?_,?_,?_,?_,?_,?_,?_,?_,trivial⟩
    ·rintro L a w' ⟨u7,u63,u64,u65,u66,u67,u68,u69,u70,u71,u72,u73,u74,u75,u76,u77,rfl,hb,g0,g1,g2,g3,g4,g5,g6,g7,g8,g9,g10,g11,g12,gr,ot,of,tl,gf,od⟩ hl hd K hK;dsimp only at hK ⊢;have e:=tl hl;subst e;go_simp;exact hK _ _ ⟨_,_,_,_,_,_,_,_,_,_,_,_,_,_,_,_,rfl,hb,fun _=>rfl,g1,g2,g3,g4,g5,g6,g7,g8,g9,g10,g11,g12,gr,ot,of,fun h=>by simp[upd]at h,gf,od⟩
    ·rintro L a w' ⟨u7,u63,u64,u65,u66,u67,u68,u69,u70,u71,u72,u73,u74,u75,u76,u77,rfl,hb,g0,g1,g2,g3,g4,g5,g6,g7,g8,g9,g10,g11,g12,gr,ot,of,tl,gf,od⟩ hl hd K hK;dsimp only at hK ⊢;go_simp;exact hK _ _ ⟨_,_,_,_,_,_,_,_,_,_,_,_,_,_,_,_,rfl,hb,g0,fun _=>rfl,g2,g3,g4,g5,g6,g7,g8,g9,g10,g11,g12,gr,ot,of,tl,gf,od⟩
    ·rintro L a w' ⟨u7,u63,u64,u65,u66,u67,u68,u69,u70,u71,u72,u73,u74,u75,u76,u77,rfl,hb,g0,g1,g2,g3,g4,g5,g6,g7,g8,g9,g10,g11,g12,gr,ot,of,tl,gf,od⟩ hl hd K hK;simp[Region.binds]at hd;dsimp only at hK ⊢;have b0:=(hb.cell (p:=⟨w.heap.size+1,2,none⟩) hz1).trans v2;have e1:=g1 (by simp[hd]);subst e1;go_simp;exact hK _ _ ⟨_,_,_,_,_,_,_,_,_,_,_,_,_,_,_,_,rfl,hb,g0,g1,fun _=>rfl,g3,g4,g5,g6,g7,g8,g9,g10,g11,g12,gr,ot,of,tl,gf,od⟩
    ·rintro L a w' ⟨u7,u63,u64,u65,u66,u67,u68,u69,u70,u71,u72,u73,u74,u75,u76,u77,rfl,hb,g0,g1,g2,g3,g4,g5,g6,g7,g8,g9,g10,g11,g12,gr,ot,of,tl,gf,od⟩ hl hd K hK;dsimp only at hK ⊢;go_simp;exact hK _ _ ⟨_,_,_,_,_,_,_,_,_,_,_,_,_,_,_,_,rfl,hb,g0,g1,g2,fun _=>rfl,g4,g5,g6,g7,g8,g9,g10,g11,g12,gr,ot,of,tl,gf,od⟩
    ·rintro L a w' ⟨u7,u63,u64,u65,u66,u67,u68,u69,u70,u71,u72,u73,u74,u75,u76,u77,rfl,hb,g0,g1,g2,g3,g4,g5,g6,g7,g8,g9,g10,g11,g12,gr,ot,of,tl,gf,od⟩ hl hd K hK;simp[Region.binds]at hd;dsimp only at hK ⊢;have e2:=g2 (by simp[hd]);subst e2;have e3:=g3 (by simp[hd]);subst e3;go_simp;exact hK _ _ ⟨_,_,_,_,_,_,_,_,_,_,_,_,_,_,_,_,rfl,hb,g0,g1,g2,g3,fun _=>rfl,g5,g6,g7,g8,g9,g10,g11,g12,gr,ot,of,tl,gf,od⟩
    ·rintro L a w' ⟨u7,u63,u64,u65,u66,u67,u68,u69,u70,u71,u72,u73,u74,u75,u76,u77,rfl,hb,g0,g1,g2,g3,g4,g5,g6,g7,g8,g9,g10,g11,g12,gr,ot,of,tl,gf,od⟩ hl hd K hK;simp[Region.binds]at hd;dsimp only at hK ⊢;have e4:=g4 (by simp[hd]);subst e4;go_simp;exact hK _ _ ⟨_,_,_,_,_,_,_,_,_,_,_,_,_,_,_,_,rfl,hb,g0,g1,g2,g3,g4,fun _=>rfl,g6,g7,g8,g9,g10,g11,g12,gr,ot,of,tl,gf,od⟩
    ·rintro L a w' ⟨u7,u63,u64,u65,u66,u67,u68,u69,u70,u71,u72,u73,u74,u75,u76,u77,rfl,hb,g0,g1,g2,g3,g4,g5,g6,g7,g8,g9,g10,g11,g12,gr,ot,of,tl,gf,od⟩ hl hd K hK;simp[Region.binds]at hd;dsimp only at hK ⊢;have e5:=g5 (by simp[hd]);subst e5;go_simp;exact hK _ _ ⟨_,_,_,_,_,_,_,_,_,_,_,_,_,_,_,_,rfl,hb,g0,g1,g2,g3,g4,g5,fun _=>rfl,g7,g8,g9,g10,g11,g12,gr,ot,of,tl,gf,od⟩
    ·rintro L a w' ⟨u7,u63,u64,u65,u66,u67,u68,u69,u70,u71,u72,u73,u74,u75,u76,u77,rfl,hb,g0,g1,g2,g3,g4,g5,g6,g7,g8,g9,g10,g11,g12,gr,ot,of,tl,gf,od⟩ hl hd K hK;dsimp only at hK ⊢;go_simp;exact hK _ _ ⟨_,_,_,_,_,_,_,_,_,_,_,_,_,_,_,_,rfl,hb,g0,g1,g2,g3,g4,g5,g6,fun _=>rfl,g8,g9,g10,g11,g12,gr,ot,of,tl,gf,od⟩
    ·rintro L a w' ⟨u7,u63,u64,u65,u66,u67,u68,u69,u70,u71,u72,u73,u74,u75,u76,u77,rfl,hb,g0,g1,g2,g3,g4,g5,g6,g7,g8,g9,g10,g11,g12,gr,ot,of,tl,gf,od⟩ hl hd K hK;simp[Region.binds]at hd;dsimp only at hK ⊢;have b0:=(hb.cell (p:=⟨w.heap.size+1,2,none⟩) hz1).trans v2;have e7:=g7 (by simp[hd]);subst e7;go_simp;exact hK _ _ ⟨_,_,_,_,_,_,_,_,_,_,_,_,_,_,_,_,rfl,hb,g0,g1,g2,g3,g4,g5,g6,g7,fun _=>rfl,g9,g10,g11,g12,gr,ot,of,tl,gf,od⟩
    ·rintro L a w' ⟨u7,u63,u64,u65,u66,u67,u68,u69,u70,u71,u72,u73,u74,u75,u76,u77,rfl,hb,g0,g1,g2,g3,g4,g5,g6,g7,g8,g9,g10,g11,g12,gr,ot,of,tl,gf,od⟩ hl hd K hK;dsimp only at hK ⊢;go_simp;exact hK _ _ ⟨_,_,_,_,_,_,_,_,_,_,_,_,_,_,_,_,rfl,hb,g0,g1,g2,g3,g4,g5,g6,g7,g8,fun _=>rfl,g10,g11,g12,gr,ot,of,tl,gf,od⟩
    ·rintro L a w' ⟨u7,u63,u64,u65,u66,u67,u68,u69,u70,u71,u72,u73,u74,u75,u76,u77,rfl,hb,g0,g1,g2,g3,g4,g5,g6,g7,g8,g9,g10,g11,g12,gr,ot,of,tl,gf,od⟩ hl hd K hK;simp[Region.binds]at hd;dsimp only at hK ⊢;have e8:=g8 (by simp[hd]);subst e8;have e9:=g9 (by simp[hd]);subst e9;go_simp;exact hK _ _ ⟨_,_,_,_,_,_,_,_,_,_,_,_,_,_,_,_,rfl,hb,g0,g1,g2,g3,g4,g5,g6,g7,g8,g9,fun _=>rfl,g11,g12,gr,ot,of,tl,gf,od⟩
    ·rintro L a w' ⟨u7,u63,u64,u65,u66,u67,u68,u69,u70,u71,u72,u73,u74,u75,u76,u77,rfl,hb,g0,g1,g2,g3,g4,g5,g6,g7,g8,g9,g10,g11,g12,gr,ot,of,tl,gf,od⟩ hl hd K hK;simp[Region.binds]at hd;dsimp only at hK ⊢;have e10:=g10 (by simp[hd]);subst e10;go_simp;exact hK _ _ ⟨_,_,_,_,_,_,_,_,_,_,_,_,_,_,_,_,rfl,hb,g0,g1,g2,g3,g4,g5,g6,g7,g8,g9,g10,fun _=>rfl,g12,gr,ot,of,tl,gf,od⟩
    ·rintro L a w' ⟨u7,u63,u64,u65,u66,u67,u68,u69,u70,u71,u72,u73,u74,u75,u76,u77,rfl,hb,g0,g1,g2,g3,g4,g5,g6,g7,g8,g9,g10,g11,g12,gr,ot,of,tl,gf,od⟩ hl hd K hK;simp[Region.binds]at hd;dsimp only at hK ⊢;have e11:=g11 (by simp[hd]);subst e11;go_simp;exact hK _ _ ⟨_,_,_,_,_,_,_,_,_,_,_,_,_,_,_,_,rfl,hb,g0,g1,g2,g3,g4,g5,g6,g7,g8,g9,g10,g11,fun _=>rfl,gr,ot,of,tl,gf,od⟩
    ·rintro L a w' ⟨u7,u63,u64,u65,u66,u67,u68,u69,u70,u71,u72,u73,u74,u75,u76,u77,rfl,hb,g0,g1,g2,g3,g4,g5,g6,g7,g8,g9,g10,g11,g12,gr,ot,of,tl,gf,od⟩ hl hd K hK;simp[Region.binds]at hd;dsimp only at hK ⊢;have e6:=g6 (by simp[hd]);subst e6;have e12:=g12 (by simp[hd]);subst e12;go_simp;exact hK _ _ ⟨_,_,_,_,_,_,_,_,_,_,_,_,_,_,_,_,rfl,hb.alloc hb.size _,g0,g1,g2,g3,g4,g5,g6,g7,g8,g9,g10,g11,g12,fun _=>⟨_,rfl,hb.size,Blk.new _ _ _⟩,fun h=>(ot h).alloc _,fun h=>(of h).alloc _,tl,gf,od⟩
    ·rintro L a w' ⟨u7,u63,u64,u65,u66,u67,u68,u69,u70,u71,u72,u73,u74,u75,u76,u77,rfl,hb,g0,g1,g2,g3,g4,g5,g6,g7,g8,g9,g10,g11,g12,gr,ot,of,tl,gf,od⟩ hl hd K hK;simp[Region.binds]at hd;dsimp only at hK ⊢;have e0:=g0 (by simp[hd]);subst e0;obtain ⟨A13,e13,hN13,hB13⟩:=gr (by simp[hd,hl]);subst e13;have ho:=ot hl;have hsl:Sl w' 1 (.slice (some ⟨A13,0,none⟩) 2 2) 2 [.int .u8 X,.int .u8 Y]:=⟨some ⟨A13,0,none⟩,2,rfl,Nat.le_refl _,by simp[maxLen],rfl,fun _=>⟨_,rfl,hB13.lt,fun j u hj=>by rw[Go.WideShapes.add_plain,Nat.zero_add,hB13.cell j];simpa using hj⟩⟩
     refine Eq.mpr (if_pos rfl) ?_
     refine wp_app (P:=Tryz.prog) (.tmp 63) (.tmp 76) ho hsl hb.size Tryz.underlying41 info_u8 rfl (by decide) (by simp[Value.oneCell']) (by have:=HL.out;omega) (by have:=HL.out;omega) rfl rfl rfl (fun v' w2 h2 h3 _=>?_)
     exact hK _ _ ⟨_,_,_,_,_,_,_,_,_,_,_,_,_,_,_,_,rfl,hb.grown h3 hb.size (fun q hq=>(ho.lt q hq).1),g0,g1,g2,g3,g4,g5,g6,g7,g8,g9,g10,g11,g12,fun h=>by simp[upd]at h,fun h=>by simp[upd]at h,fun _=>own_two h2,tl,fun h=>absurd (od h) (by simp[hl]),fun _=>rfl⟩
    ·rintro L a w' ⟨u7,u63,u64,u65,u66,u67,u68,u69,u70,u71,u72,u73,u74,u75,u76,u77,rfl,hb,g0,g1,g2,g3,g4,g5,g6,g7,g8,g9,g10,g11,g12,gr,ot,of,tl,gf,od⟩ hl hd K hK;simp[Region.binds]at hd;dsimp only at hK ⊢;go_simp;exact hK _ _ ⟨_,_,_,_,_,_,_,_,_,_,_,_,_,_,_,_,rfl,hb,g0,g1,g2,g3,g4,g5,g6,g7,g8,g9,g10,g11,g12,gr,ot,of,fun h=>by simp[upd,hd]at h,fun _=>rfl,fun _=>by simp[upd,hd]⟩
   ·rintro a w2 ⟨u7,u63,u64,u65,u66,u67,u68,u69,u70,u71,u72,u73,u74,u75,u76,u77,rfl,hb,g0,g1,g2,g3,g4,g5,g6,g7,g8,g9,g10,g11,g12,gr,ot,of,tl,gf,od⟩;have e:=g0 rfl;subst e;clear g0;have e:=g1 rfl;subst e;clear g1;have e:=g2 rfl;subst e;clear g2;have e:=g3 rfl;subst e;clear g3;have e:=g4 rfl;subst e;clear g4;have e:=g5 rfl;subst e;clear g5;have e:=g6 rfl;subst e;clear g6;have e:=g7 rfl;subst e;clear g7;have e:=g8 rfl;subst e;clear g8;have e:=g9 rfl;subst e;clear g9;have e:=g10 rfl;subst e;clear g10;have e:=g11 rfl;subst e;clear g11;have e:=g12 rfl;subst e;clear g12;have e:=gf rfl;subst e;have own2:=of rfl;clear gr ot of tl gf od hown hbel g1 g2 t1 t2 t5 i1 i2;dsimp only;go_wp2;go_roundw
    case rel=>exact ⟨m+1,xs ++ [X,Y],by omega,by go_num,own2,hb,by have:=HL.out;simp;omega,HS⟩
    case measure=>simp[intOf];omega
  ·obtain rfl:m=s.size:=by omega
   have hl2:xs.length≤129:=by omega
   clear hlen;have HF:=Lib.hid (show (strOfNums (xs ++ [34])).data.toList=34::(hexL s.data.toList ++ [34]) by
    have h1:=byt_hexI s.data.toList;rw[hxs.out,List.take_of_length_le (by rw[size_data];exact Nat.le_refl _),strOfNums_data];rw[strOfNums_data]at h1;simp[h1])
   go_wp2_with (at_builtin;go_must (refine app1 _ _ hown hbel (Nat.le_refl _) hbel.size Tryz.underlying41 info_u8 rfl (by decide) rfl (oneInt _ _) (by omega) (by omega) rfl rfl rfl rfl ?_))
   intro g' cap' w4 hown4 hbel4 _ _
   have hcv:=conv_own (P:=Tryz.prog) Tryz.underlying41 Tryz.underlying5 (by simpa using own_ints8 hown4);have HB4:=Lib.hid (HB.out.trans (hbel4.mono HB.out.size));clear hown hbel hown4 hbel4;go_wp2;go_ret2
   exact RetDec.mk_ (by rw[HV.out];exact HF.out) (by rw[HV.out]) HB4.out
theorem vfmt_any (sc:ByteArray) (t k:Int) (cn nul:Bool) (n:Int) (s:ByteArray) (w:World) (ht:Tab w) (hn:-9223372036854775808≤n∧n≤9223372036854775807) (hs:s.size≤9223372036854775807) :
  Calls Tryz.prog 74 #[.agg #[.string sc,.int .i64 t,.int .i64 k,.bool cn],.agg #[.bool nul,.int .i64 n,.string s]] w (RetDec w (fmtV t k cn nul n s)):=by
 by_cases hk:t=5∧(k<0∨18<k)
 ·obtain ⟨rfl,hk⟩:=hk;exact vf_bad sc k cn nul n s w hk
 ·by_cases hc:checkV t cn nul n s=0
  ·cases nul with
   | true=>exact vf_null sc t k cn n s w hs hk hc
   | false =>
    have hr:=check_range hc;have h5:t=1∨t=2∨t=3∨t=4∨t=5:=by omega
    rcases h5 with rfl|rfl|rfl|rfl|rfl
    ·exact vf_int sc k cn n s w ht hn hs hc
    ·exact vf_bool sc k cn n s w ht hn hs hc
    ·exact vf_bytes sc k cn n s w hs hc
    ·exact vf_date sc k cn n s w ht hn hs hc
    ·exact vf_dec sc k cn n s w ht hn hs (fun h=>hk ⟨rfl,.inl h⟩) (fun h=>hk ⟨rfl,.inr h⟩) hc
  ·exact vf_err sc t k cn nul n s w hs hk hc

def RetT (w:World) (L:List UInt8) (e:Ending) (w':World):Prop:=∃ S:ByteArray,e=.returned (.string S)∧S.data.toList=L∧Below w.heap.size w w'
theorem RetT.mk_ {w w':World} {L:List UInt8} {S:ByteArray} (h:S.data.toList=L) (hb:Below w.heap.size w w'):RetT w L (.returned (.string S)) w':=⟨S,rfl,h,hb⟩
theorem size_of {S:ByteArray} {L:List UInt8} (h:S.data.toList=L):S.size=L.length:=by rw[←h,sizeD]
theorem one_vl {w:World} {g:Nat} {nu:Bool} {n:Int} {s:ByteArray} (h:Blk w g 64 #[.bool nu,.int .i64 n,.string s]):Sl w 3 (.slice (some ⟨g,0,none⟩) 1 1) 1 (vls [⟨nu,n,s⟩]) :=
 ⟨_,1,rfl,Nat.le_refl _,by decide,rfl,fun _=>⟨_,rfl,h.lt,fun j u hj=>by
  rw[Addr.add_lit,h.cell (0+j),Nat.zero_add];rw[←Array.getElem?_toList];exact hj⟩⟩
structure VlOk (c:Col) (x:Vl):Prop where
 chk:checkV c.ty true x.nu x.n x.s=0
 lo:-9223372036854775808≤x.n
 hi:x.n≤9223372036854775807
 sz:x.s.size≤9223372036854775807
theorem vtxt_len {c:Col} {x:Vl} (h:VlOk c x):(vtxt c x).length≤200:=fmtV_len _ _ _ _ _ _ ⟨h.lo,h.hi⟩
theorem vtxts_len {c:Col}:∀ {l:List Vl},(∀ x ∈ l,VlOk c x)→(vtxts c l).length≤201 * l.length
 | [],_=>by simp[vtxts]
 | x::r,h=>by
  have ih:=vtxts_len (l:=r) fun y hy=>h y (by simp[hy])
  have h1:=vtxt_len (h x (by simp));have e:vtxts c (x::r)=(32::vtxt c x)++vtxts c r:=by simp[vtxts]
  rw[e,List.length_append,List.length_cons,List.length_cons];omega
theorem vtxts_take {c:Col} {l:List Vl} (h:∀ x ∈ l,VlOk c x) (hl:l.length≤16) (k:Nat):(vtxts c (l.take k)).length≤3216:=by
 have:=vtxts_len (c:=c) (l:=l.take k) fun x hx=>h x (List.mem_of_mem_take hx)
 rw[List.length_take]at this;omega
end Go.Proofs.YtjnamjkdjcndiaaGreatDoor
