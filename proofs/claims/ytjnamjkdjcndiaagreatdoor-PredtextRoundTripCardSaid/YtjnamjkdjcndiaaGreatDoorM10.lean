/-
  Words, plain laws and contracts on which the walks lean, in one text.
-/
import Derived.Test.YtjnamjkdjcndiaaGreatDoorM2
import Derived.Test.YtjnamjkdjcndiaaGreatDoorM7
import Derived.Test.YtjnamjkdjcndiaaGreatDoorM8
import Derived.Test.YtjnamjkdjcndiaaGreatDoorM1
namespace Go.Proofs.YtjnamjkdjcndiaaGreatDoor
open Go.RowKit Go.Sort
set_option linter.unusedVariables false
def hexC (c:Nat):UInt8:=if c<10 then UInt8.ofNat (48+c) else UInt8.ofNat (87+c)
def hexL (l:List UInt8):List UInt8:=l.flatMap fun c=>[hexC (c.toNat / 16),hexC (c.toNat % 16)]
noncomputable def fmtV (t k:Int) (cn nul:Bool) (n:Int) (s:ByteArray):List UInt8×Int :=
 if t=5∧(k<0∨18<k) then ([],1)
 else if checkV t cn nul n s≠0 then ([],checkV t cn nul n s)
 else if nul=true then ([110,117,108,108],0)
 else if t=2 then (if n=1 then [116,114,117,101] else [102,97,108,115,101],0)
 else if t=4 then dateV n
 else if t=5 then decV n k
 else if t=3 then (34::(hexL s.data.toList ++ [34]),0)
 else (Lib.itoa n,0)
theorem retN_of {P:Program} {f:FuncId} {args:Array Value} {w:World} {x y:Int} (h:x=y) (hc:Calls P f args w (RetN w x)):Calls P f args w fun e w'=>e=.returned (.int .i64 y)∧Below w.heap.size w w':=by subst h;exact hc
theorem retDec_ex (n k:Int):∃ (B:ByteArray) (b:Int),B.data.toList=(decV n k).1∧b=(decV n k).2∧∀ (P:Program) (f:FuncId) (args:Array Value) (w:World),Calls P f args w (RetDec w (decV n k))→Calls P f args w fun e w'=>e=.returned (.tuple #[.string B,.int .i64 b])∧Below w.heap.size w w' :=
 ⟨⟨(decV n k).1.toArray⟩,(decV n k).2,rfl,rfl,fun _ _ _ _ h=>h⟩
theorem retDate_ex (n:Int):∃ (B:ByteArray) (b:Int),B.data.toList=(dateV n).1∧b=(dateV n).2∧∀ (P:Program) (f:FuncId) (args:Array Value) (w:World),Calls P f args w (RetDec w (dateV n))→Calls P f args w fun e w'=>e=.returned (.tuple #[.string B,.int .i64 b])∧Below w.heap.size w w' :=
 ⟨⟨(dateV n).1.toArray⟩,(dateV n).2,rfl,rfl,fun _ _ _ _ h=>h⟩
theorem pair_eq {r:List UInt8×Int} {B:ByteArray} {b:Int} (h1:B.data.toList=r.1) (h2:b=r.2):r=(B.data.toList,b):=by rw[h1,h2]
theorem check_range {t:Int} {cn nul:Bool} {n:Int} {s:ByteArray} (h:checkV t cn nul n s=0):1≤t∧t≤5:=by
 unfold checkV at h
 split at h
 ·cases h
 ·omega
theorem check_bool {cn:Bool} {n:Int} {s:ByteArray} (h:checkV 2 cn false n s=0):n=0∨n=1:=by
 unfold checkV at h
 rw[if_neg (by omega)]at h;split at h
 ·cases h
 ·split at h
  ·cases h
  ·split at h
   ·cases h
   ·split at h
    ·cases h
    ·rename_i hp
     simp[permB]at hp;omega
def BoxW (w:World) (sc:ByteArray) (t k:Int) (cn nul:Bool) (n:Int) (s:ByteArray):World:=(w.alloc (.cells #[.string sc,.int .i64 t,.int .i64 k,.bool cn] 56)).alloc (.cells #[.bool nul,.int .i64 n,.string s] 64)
theorem boxW_below (w:World) (sc:ByteArray) (t k:Int) (cn nul:Bool) (n:Int) (s:ByteArray):Below w.heap.size w (BoxW w sc t k cn nul n s):=((Below.refl _ _).alloc (Nat.le_refl _) _).alloc (by simp) _
theorem boxW_c (w:World) (sc:ByteArray) (t k:Int) (cn nul:Bool) (n:Int) (s:ByteArray):Blk (BoxW w sc t k cn nul n s) w.heap.size 56 #[.string sc,.int .i64 t,.int .i64 k,.bool cn]:=(Blk.new _ _ _).alloc _
theorem boxW_v (w:World) (sc:ByteArray) (t k:Int) (cn nul:Bool) (n:Int) (s:ByteArray):Blk (BoxW w sc t k cn nul n s) (w.heap.size+1) 64 #[.bool nul,.int .i64 n,.string s]:=by
 have:=Blk.new (w.alloc (.cells #[.string sc,.int .i64 t,.int .i64 k,.bool cn] 56)) 64 #[.bool nul,.int .i64 n,.string s]
 simpa [BoxW] using this
set_option maxRecDepth 100000 in
set_option maxHeartbeats 2000000 in
theorem vf_bad (sc:ByteArray) (k:Int) (cn nul:Bool) (n:Int) (s:ByteArray) (w:World) (hk:k<0∨18<k):Calls Tryz.prog 74 #[.agg #[.string sc,.int .i64 5,.int .i64 k,.bool cn],.agg #[.bool nul,.int .i64 n,.string s]] w (RetDec w (fmtV 5 k cn nul n s)):=by
 have HV:=Lib.hid (show fmtV 5 k cn nul n s=([],1) by unfold fmtV;rw[if_pos ⟨rfl,hk⟩]);have hb0:=boxW_below w sc 5 k cn nul n s;rcases hk with hk|hk
 all_goals
  go_enter Tryz.func74,Tryz.ntmps74
  go_wp2;go_ret2
  exact RetDec.mk_ (by rw[HV.out]) (by rw[HV.out]) hb0
set_option maxRecDepth 100000 in
set_option maxHeartbeats 2000000 in
theorem vf_err (sc:ByteArray) (t k:Int) (cn nul:Bool) (n:Int) (s:ByteArray) (w:World) (hs:s.size≤9223372036854775807) (hk:¬(t=5∧(k<0∨18<k))) (hc:checkV t cn nul n s≠0):Calls Tryz.prog 74 #[.agg #[.string sc,.int .i64 t,.int .i64 k,.bool cn],.agg #[.bool nul,.int .i64 n,.string s]] w (RetDec w (fmtV t k cn nul n s)):=by
 have HV:=Lib.hid (show fmtV t k cn nul n s=([],checkV t cn nul n s) by unfold fmtV;rw[if_neg hk,if_pos hc]);obtain ⟨E,hE⟩:∃ E,checkV t cn nul n s=E:=⟨_,rfl⟩
 rw[hE]at hc HV;have q0:(E != 0)=true:=by simpa using hc
 clear hc;by_cases t5:t=5
 ·subst t5;have hk1:¬k<0:=fun h=>hk ⟨rfl,.inl h⟩
  have hk2:¬18<k:=fun h=>hk ⟨rfl,.inr h⟩
  clear hk;have CK:=Lib.hid (fun X=>retN_of hE (vcheck_any sc 5 k cn nul n s X hs));go_enter Tryz.func74,Tryz.ntmps74
  go_wp2_with fail
  rw[show (w.alloc (.cells #[.string sc,.int .i64 5,.int .i64 k,.bool cn] 56)).alloc (.cells #[.bool nul,.int .i64 n,.string s] 64)=BoxW w sc 5 k cn nul n s from rfl];have hb0:=boxW_below w sc 5 k cn nul n s;have bc:=boxW_c w sc 5 k cn nul n s;have bv:=boxW_v w sc 5 k cn nul n s;obtain ⟨W,hW⟩:∃ W,W=BoxW w sc 5 k cn nul n s:=⟨_,rfl⟩
  rw[←hW]at hb0 bc bv ⊢;clear hW;refine (CK.out _).mono ?_;rintro _ w1 ⟨rfl,hb1⟩;have HB:=Lib.hid (bst hb0 hb1);have bc1:=bc.below hb1 bc.lt;have bv1:=bv.below hb1 bv.lt;have c1:w1.cell? ⟨w.heap.size,1,none⟩=some (.int .i64 5):=bc1.cell 1;have c2:w1.cell? ⟨w.heap.size,2,none⟩=some (.int .i64 k):=bc1.cell 2;have v0:w1.cell? ⟨w.heap.size+1,0,none⟩=some (.bool nul):=bv1.cell 0;have v1:w1.cell? ⟨w.heap.size+1,1,none⟩=some (.int .i64 n):=bv1.cell 1;have v2:w1.cell? ⟨w.heap.size+1,2,none⟩=some (.string s):=bv1.cell 2;clear bc bv hb0 hb1 bc1 bv1;go_wp2;go_ret2
  exact RetDec.mk_ (by rw[HV.out]) (by rw[HV.out]) HB.out
 ·have q5:(t==5)=false:=by simpa using t5
  clear hk t5;have CK:=Lib.hid (fun X=>retN_of hE (vcheck_any sc t k cn nul n s X hs));go_enter Tryz.func74,Tryz.ntmps74
  go_wp2_with fail
  rw[show (w.alloc (.cells #[.string sc,.int .i64 t,.int .i64 k,.bool cn] 56)).alloc (.cells #[.bool nul,.int .i64 n,.string s] 64)=BoxW w sc t k cn nul n s from rfl];have hb0:=boxW_below w sc t k cn nul n s;have bc:=boxW_c w sc t k cn nul n s;have bv:=boxW_v w sc t k cn nul n s;obtain ⟨W,hW⟩:∃ W,W=BoxW w sc t k cn nul n s:=⟨_,rfl⟩
  rw[←hW]at hb0 bc bv ⊢;clear hW;refine (CK.out _).mono ?_;rintro _ w1 ⟨rfl,hb1⟩;have HB:=Lib.hid (bst hb0 hb1);have bc1:=bc.below hb1 bc.lt;have bv1:=bv.below hb1 bv.lt;have c1:w1.cell? ⟨w.heap.size,1,none⟩=some (.int .i64 t):=bc1.cell 1;have c2:w1.cell? ⟨w.heap.size,2,none⟩=some (.int .i64 k):=bc1.cell 2;have v0:w1.cell? ⟨w.heap.size+1,0,none⟩=some (.bool nul):=bv1.cell 0;have v1:w1.cell? ⟨w.heap.size+1,1,none⟩=some (.int .i64 n):=bv1.cell 1;have v2:w1.cell? ⟨w.heap.size+1,2,none⟩=some (.string s):=bv1.cell 2;clear bc bv hb0 hb1 bc1 bv1;go_wp2;go_ret2
  exact RetDec.mk_ (by rw[HV.out]) (by rw[HV.out]) HB.out
set_option maxRecDepth 100000 in
set_option maxHeartbeats 2000000 in
theorem vf_null (sc:ByteArray) (t k:Int) (cn:Bool) (n:Int) (s:ByteArray) (w:World) (hs:s.size≤9223372036854775807) (hk:¬(t=5∧(k<0∨18<k))) (hc:checkV t cn true n s=0):Calls Tryz.prog 74 #[.agg #[.string sc,.int .i64 t,.int .i64 k,.bool cn],.agg #[.bool true,.int .i64 n,.string s]] w (RetDec w (fmtV t k cn true n s)):=by
 have HV:=Lib.hid (show fmtV t k cn true n s=([110,117,108,108],0) by unfold fmtV;rw[if_neg hk,if_neg (by rw[hc];simp),if_pos rfl]);by_cases t5:t=5
 ·subst t5;have hk1:¬k<0:=fun h=>hk ⟨rfl,.inl h⟩
  have hk2:¬18<k:=fun h=>hk ⟨rfl,.inr h⟩
  clear hk;have CK:=Lib.hid (fun X=>retN_of hc (vcheck_any sc 5 k cn true n s X hs));go_enter Tryz.func74,Tryz.ntmps74
  go_wp2_with fail
  rw[show (w.alloc (.cells #[.string sc,.int .i64 5,.int .i64 k,.bool cn] 56)).alloc (.cells #[.bool true,.int .i64 n,.string s] 64)=BoxW w sc 5 k cn true n s from rfl];have hb0:=boxW_below w sc 5 k cn true n s;have bc:=boxW_c w sc 5 k cn true n s;have bv:=boxW_v w sc 5 k cn true n s;obtain ⟨W,hW⟩:∃ W,W=BoxW w sc 5 k cn true n s:=⟨_,rfl⟩
  rw[←hW]at hb0 bc bv ⊢;clear hW;refine (CK.out _).mono ?_;rintro _ w1 ⟨rfl,hb1⟩;have HB:=Lib.hid (bst hb0 hb1);have bc1:=bc.below hb1 bc.lt;have bv1:=bv.below hb1 bv.lt;have c1:w1.cell? ⟨w.heap.size,1,none⟩=some (.int .i64 5):=bc1.cell 1;have c2:w1.cell? ⟨w.heap.size,2,none⟩=some (.int .i64 k):=bc1.cell 2;have v0:w1.cell? ⟨w.heap.size+1,0,none⟩=some (.bool true):=bv1.cell 0;have v1:w1.cell? ⟨w.heap.size+1,1,none⟩=some (.int .i64 n):=bv1.cell 1;have v2:w1.cell? ⟨w.heap.size+1,2,none⟩=some (.string s):=bv1.cell 2;clear bc bv hb0 hb1 bc1 bv1;go_wp2;go_ret2
  exact RetDec.mk_ (by rw[HV.out]) (by rw[HV.out]) HB.out
 ·have q5:(t==5)=false:=by simpa using t5
  clear hk t5;have CK:=Lib.hid (fun X=>retN_of hc (vcheck_any sc t k cn true n s X hs));go_enter Tryz.func74,Tryz.ntmps74
  go_wp2_with fail
  rw[show (w.alloc (.cells #[.string sc,.int .i64 t,.int .i64 k,.bool cn] 56)).alloc (.cells #[.bool true,.int .i64 n,.string s] 64)=BoxW w sc t k cn true n s from rfl];have hb0:=boxW_below w sc t k cn true n s;have bc:=boxW_c w sc t k cn true n s;have bv:=boxW_v w sc t k cn true n s;obtain ⟨W,hW⟩:∃ W,W=BoxW w sc t k cn true n s:=⟨_,rfl⟩
  rw[←hW]at hb0 bc bv ⊢;clear hW;refine (CK.out _).mono ?_;rintro _ w1 ⟨rfl,hb1⟩;have HB:=Lib.hid (bst hb0 hb1);have bc1:=bc.below hb1 bc.lt;have bv1:=bv.below hb1 bv.lt;have c1:w1.cell? ⟨w.heap.size,1,none⟩=some (.int .i64 t):=bc1.cell 1;have c2:w1.cell? ⟨w.heap.size,2,none⟩=some (.int .i64 k):=bc1.cell 2;have v0:w1.cell? ⟨w.heap.size+1,0,none⟩=some (.bool true):=bv1.cell 0;have v1:w1.cell? ⟨w.heap.size+1,1,none⟩=some (.int .i64 n):=bv1.cell 1;have v2:w1.cell? ⟨w.heap.size+1,2,none⟩=some (.string s):=bv1.cell 2;clear bc bv hb0 hb1 bc1 bv1;go_wp2;go_ret2
  exact RetDec.mk_ (by rw[HV.out]) (by rw[HV.out]) HB.out
set_option maxRecDepth 100000 in
set_option maxHeartbeats 2000000 in
theorem vf_bool (sc:ByteArray) (k:Int) (cn:Bool) (n:Int) (s:ByteArray) (w:World) (ht:Tab w) (hn:-9223372036854775808≤n∧n≤9223372036854775807) (hs:s.size≤9223372036854775807) (hc:checkV 2 cn false n s=0):Calls Tryz.prog 74 #[.agg #[.string sc,.int .i64 2,.int .i64 k,.bool cn],.agg #[.bool false,.int .i64 n,.string s]] w (RetDec w (fmtV 2 k cn false n s)):=by
 rcases check_bool hc with rfl|rfl
 ·have HV:=Lib.hid (show fmtV 2 k cn false 0 s=([102,97,108,115,101],0) by unfold fmtV;rw[if_neg (by omega),if_neg (by rw[hc];simp),if_neg (by simp),if_pos rfl,if_neg (by omega)]);have CK:=Lib.hid (fun X=>retN_of hc (vcheck_any sc 2 k cn false 0 s X hs));go_enter Tryz.func74,Tryz.ntmps74
  go_wp2_with fail
  rw[show (w.alloc (.cells #[.string sc,.int .i64 2,.int .i64 k,.bool cn] 56)).alloc (.cells #[.bool false,.int .i64 0,.string s] 64)=BoxW w sc 2 k cn false 0 s from rfl];have hb0:=boxW_below w sc 2 k cn false 0 s;have bc:=boxW_c w sc 2 k cn false 0 s;have bv:=boxW_v w sc 2 k cn false 0 s;obtain ⟨W,hW⟩:∃ W,W=BoxW w sc 2 k cn false 0 s:=⟨_,rfl⟩
  rw[←hW]at hb0 bc bv ⊢;clear hW;refine (CK.out _).mono ?_;rintro _ w1 ⟨rfl,hb1⟩;have HB:=Lib.hid (bst hb0 hb1);have bc1:=bc.below hb1 bc.lt;have bv1:=bv.below hb1 bv.lt;have c1:w1.cell? ⟨w.heap.size,1,none⟩=some (.int .i64 2):=bc1.cell 1;have c2:w1.cell? ⟨w.heap.size,2,none⟩=some (.int .i64 k):=bc1.cell 2;have v0:w1.cell? ⟨w.heap.size+1,0,none⟩=some (.bool false):=bv1.cell 0;have v1:w1.cell? ⟨w.heap.size+1,1,none⟩=some (.int .i64 0):=bv1.cell 1;have v2:w1.cell? ⟨w.heap.size+1,2,none⟩=some (.string s):=bv1.cell 2;clear bc bv hb0 hb1 bc1 bv1;go_wp2_with fail
  refine (Tryz.strconv_FormatBool _ _).mono ?_;rintro _ _ ⟨rfl,rfl⟩;go_wp2;go_ret2
  exact RetDec.mk_ (by rw[HV.out];rfl) (by rw[HV.out]) HB.out
 ·have HV:=Lib.hid (show fmtV 2 k cn false 1 s=([116,114,117,101],0) by unfold fmtV;rw[if_neg (by omega),if_neg (by rw[hc];simp),if_neg (by simp),if_pos rfl,if_pos rfl]);have CK:=Lib.hid (fun X=>retN_of hc (vcheck_any sc 2 k cn false 1 s X hs));go_enter Tryz.func74,Tryz.ntmps74
  go_wp2_with fail
  rw[show (w.alloc (.cells #[.string sc,.int .i64 2,.int .i64 k,.bool cn] 56)).alloc (.cells #[.bool false,.int .i64 1,.string s] 64)=BoxW w sc 2 k cn false 1 s from rfl];have hb0:=boxW_below w sc 2 k cn false 1 s;have bc:=boxW_c w sc 2 k cn false 1 s;have bv:=boxW_v w sc 2 k cn false 1 s;obtain ⟨W,hW⟩:∃ W,W=BoxW w sc 2 k cn false 1 s:=⟨_,rfl⟩
  rw[←hW]at hb0 bc bv ⊢;clear hW;refine (CK.out _).mono ?_;rintro _ w1 ⟨rfl,hb1⟩;have HB:=Lib.hid (bst hb0 hb1);have bc1:=bc.below hb1 bc.lt;have bv1:=bv.below hb1 bv.lt;have c1:w1.cell? ⟨w.heap.size,1,none⟩=some (.int .i64 2):=bc1.cell 1;have c2:w1.cell? ⟨w.heap.size,2,none⟩=some (.int .i64 k):=bc1.cell 2;have v0:w1.cell? ⟨w.heap.size+1,0,none⟩=some (.bool false):=bv1.cell 0;have v1:w1.cell? ⟨w.heap.size+1,1,none⟩=some (.int .i64 1):=bv1.cell 1;have v2:w1.cell? ⟨w.heap.size+1,2,none⟩=some (.string s):=bv1.cell 2;clear bc bv hb0 hb1 bc1 bv1;go_wp2_with fail
  refine (Tryz.strconv_FormatBool _ _).mono ?_;rintro _ _ ⟨rfl,rfl⟩;go_wp2;go_ret2
  exact RetDec.mk_ (by rw[HV.out];rfl) (by rw[HV.out]) HB.out
set_option maxRecDepth 100000 in
set_option maxHeartbeats 2000000 in
theorem vf_date (sc:ByteArray) (k:Int) (cn:Bool) (n:Int) (s:ByteArray) (w:World) (ht:Tab w) (hn:-9223372036854775808≤n∧n≤9223372036854775807) (hs:s.size≤9223372036854775807) (hc:checkV 4 cn false n s=0):Calls Tryz.prog 74 #[.agg #[.string sc,.int .i64 4,.int .i64 k,.bool cn],.agg #[.bool false,.int .i64 n,.string s]] w (RetDec w (fmtV 4 k cn false n s)):=by
 have HV:=Lib.hid (show fmtV 4 k cn false n s=dateV n by unfold fmtV;rw[if_neg (by omega),if_neg (by rw[hc];simp),if_neg (by simp),if_neg (by omega),if_pos rfl]);obtain ⟨B,b,hB1,hB2,hB3⟩:=retDate_ex n;have HP:=Lib.hid (pair_eq hB1 hB2);have CF:=Lib.hid (fun X=>hB3 _ _ _ _ (datefmt_any n X));clear hB1 hB2 hB3;have CK:=Lib.hid (fun X=>retN_of hc (vcheck_any sc 4 k cn false n s X hs));go_enter Tryz.func74,Tryz.ntmps74
 go_wp2_with fail
 rw[show (w.alloc (.cells #[.string sc,.int .i64 4,.int .i64 k,.bool cn] 56)).alloc (.cells #[.bool false,.int .i64 n,.string s] 64)=BoxW w sc 4 k cn false n s from rfl];have hb0:=boxW_below w sc 4 k cn false n s;have bc:=boxW_c w sc 4 k cn false n s;have bv:=boxW_v w sc 4 k cn false n s;obtain ⟨W,hW⟩:∃ W,W=BoxW w sc 4 k cn false n s:=⟨_,rfl⟩
 rw[←hW]at hb0 bc bv ⊢;clear hW;refine (CK.out _).mono ?_;rintro _ w1 ⟨rfl,hb1⟩;have HB:=Lib.hid (bst hb0 hb1);have bc1:=bc.below hb1 bc.lt;have bv1:=bv.below hb1 bv.lt;have c1:w1.cell? ⟨w.heap.size,1,none⟩=some (.int .i64 4):=bc1.cell 1;have c2:w1.cell? ⟨w.heap.size,2,none⟩=some (.int .i64 k):=bc1.cell 2;have v0:w1.cell? ⟨w.heap.size+1,0,none⟩=some (.bool false):=bv1.cell 0;have v1:w1.cell? ⟨w.heap.size+1,1,none⟩=some (.int .i64 n):=bv1.cell 1;have v2:w1.cell? ⟨w.heap.size+1,2,none⟩=some (.string s):=bv1.cell 2;clear bc bv hb0 hb1 bc1 bv1;go_wp2_with fail
 refine (CF.out _).mono ?_;rintro _ w2 ⟨rfl,hb2⟩;go_wp2;go_ret2
 exact RetDec.mk_ (by rw[HV.out,HP.out]) (by rw[HV.out,HP.out]) (bst HB.out hb2)
set_option maxRecDepth 100000 in
set_option maxHeartbeats 2000000 in
theorem vf_dec (sc:ByteArray) (k:Int) (cn:Bool) (n:Int) (s:ByteArray) (w:World) (ht:Tab w) (hn:-9223372036854775808≤n∧n≤9223372036854775807) (hs:s.size≤9223372036854775807) (hk1:¬k<0) (hk2:¬18<k) (hc:checkV 5 cn false n s=0):Calls Tryz.prog 74 #[.agg #[.string sc,.int .i64 5,.int .i64 k,.bool cn],.agg #[.bool false,.int .i64 n,.string s]] w (RetDec w (fmtV 5 k cn false n s)):=by
 have HV:=Lib.hid (show fmtV 5 k cn false n s=decV n k by unfold fmtV;rw[if_neg (by omega),if_neg (by rw[hc];simp),if_neg (by simp),if_neg (by omega),if_neg (by omega),if_pos rfl]);obtain ⟨B,b,hB1,hB2,hB3⟩:=retDec_ex n k;have HP:=Lib.hid (pair_eq hB1 hB2);have CF:=Lib.hid (fun X (h:Tab X)=>hB3 _ _ _ _ (decfmt_any n k X h));have HT:=Lib.hid ht;clear hB1 hB2 hB3 ht;have CK:=Lib.hid (fun X=>retN_of hc (vcheck_any sc 5 k cn false n s X hs));go_enter Tryz.func74,Tryz.ntmps74
 go_wp2_with fail
 rw[show (w.alloc (.cells #[.string sc,.int .i64 5,.int .i64 k,.bool cn] 56)).alloc (.cells #[.bool false,.int .i64 n,.string s] 64)=BoxW w sc 5 k cn false n s from rfl];have hb0:=boxW_below w sc 5 k cn false n s;have bc:=boxW_c w sc 5 k cn false n s;have bv:=boxW_v w sc 5 k cn false n s;obtain ⟨W,hW⟩:∃ W,W=BoxW w sc 5 k cn false n s:=⟨_,rfl⟩
 rw[←hW]at hb0 bc bv ⊢;clear hW;refine (CK.out _).mono ?_;rintro _ w1 ⟨rfl,hb1⟩;have HB:=Lib.hid (bst hb0 hb1);have bc1:=bc.below hb1 bc.lt;have bv1:=bv.below hb1 bv.lt;have c1:w1.cell? ⟨w.heap.size,1,none⟩=some (.int .i64 5):=bc1.cell 1;have c2:w1.cell? ⟨w.heap.size,2,none⟩=some (.int .i64 k):=bc1.cell 2;have v0:w1.cell? ⟨w.heap.size+1,0,none⟩=some (.bool false):=bv1.cell 0;have v1:w1.cell? ⟨w.heap.size+1,1,none⟩=some (.int .i64 n):=bv1.cell 1;have v2:w1.cell? ⟨w.heap.size+1,2,none⟩=some (.string s):=bv1.cell 2;clear bc bv hb0 hb1 bc1 bv1;go_wp2_with fail
 refine (CF.out _ (HT.out.below HB.out)).mono ?_;rintro _ w2 ⟨rfl,hb2⟩;go_wp2;go_ret2
 exact RetDec.mk_ (by rw[HV.out,HP.out]) (by rw[HV.out,HP.out]) (bst HB.out hb2)
set_option maxRecDepth 100000 in
set_option maxHeartbeats 2000000 in
theorem vf_int (sc:ByteArray) (k:Int) (cn:Bool) (n:Int) (s:ByteArray) (w:World) (ht:Tab w) (hn:-9223372036854775808≤n∧n≤9223372036854775807) (hs:s.size≤9223372036854775807) (hc:checkV 1 cn false n s=0):Calls Tryz.prog 74 #[.agg #[.string sc,.int .i64 1,.int .i64 k,.bool cn],.agg #[.bool false,.int .i64 n,.string s]] w (RetDec w (fmtV 1 k cn false n s)):=by
 have HV:=Lib.hid (show fmtV 1 k cn false n s=(Lib.itoa n,0) by unfold fmtV;rw[if_neg (by omega),if_neg (by rw[hc];simp),if_neg (by simp),if_neg (by omega),if_neg (by omega),if_neg (by omega),if_neg (by omega)]);obtain ⟨D,hD⟩:∃ D:ByteArray,D=⟨(Lib.itoa n).toArray⟩:=⟨_,rfl⟩
 have HD:=Lib.hid (show D.data.toList=Lib.itoa n by rw[hD]);have CF:=Lib.hid (fun X (h:Tab X)=>Tryz.strconv_FormatInt_10 n hn.1 hn.2 X h);rw[←hD]at CF;have HT:=Lib.hid ht;clear hD ht;have CK:=Lib.hid (fun X=>retN_of hc (vcheck_any sc 1 k cn false n s X hs));go_enter Tryz.func74,Tryz.ntmps74
 go_wp2_with fail
 rw[show (w.alloc (.cells #[.string sc,.int .i64 1,.int .i64 k,.bool cn] 56)).alloc (.cells #[.bool false,.int .i64 n,.string s] 64)=BoxW w sc 1 k cn false n s from rfl];have hb0:=boxW_below w sc 1 k cn false n s;have bc:=boxW_c w sc 1 k cn false n s;have bv:=boxW_v w sc 1 k cn false n s;obtain ⟨W,hW⟩:∃ W,W=BoxW w sc 1 k cn false n s:=⟨_,rfl⟩
 rw[←hW]at hb0 bc bv ⊢;clear hW;refine (CK.out _).mono ?_;rintro _ w1 ⟨rfl,hb1⟩;have HB:=Lib.hid (bst hb0 hb1);have bc1:=bc.below hb1 bc.lt;have bv1:=bv.below hb1 bv.lt;have c1:w1.cell? ⟨w.heap.size,1,none⟩=some (.int .i64 1):=bc1.cell 1;have c2:w1.cell? ⟨w.heap.size,2,none⟩=some (.int .i64 k):=bc1.cell 2;have v0:w1.cell? ⟨w.heap.size+1,0,none⟩=some (.bool false):=bv1.cell 0;have v1:w1.cell? ⟨w.heap.size+1,1,none⟩=some (.int .i64 n):=bv1.cell 1;have v2:w1.cell? ⟨w.heap.size+1,2,none⟩=some (.string s):=bv1.cell 2;clear bc bv hb0 hb1 bc1 bv1;go_wp2_with fail
 refine (CF.out _ (HT.out.below HB.out)).mono ?_;rintro _ w2 ⟨rfl,dk,os,rfl⟩;have HB2:=Lib.hid (bst HB.out (below_gd w1 dk os));obtain ⟨W2,hW2⟩:∃ W2,W2=grow (w1.drewN dk) os:=⟨_,rfl⟩
 rw[←hW2]at HB2 ⊢;clear hW2;go_wp2;go_ret2
 exact RetDec.mk_ (by rw[HV.out,HD.out]) (by rw[HV.out]) HB2.out
set_option linter.unusedVariables false
theorem fl_hex (l:List UInt8):(hexL l).length=2 * l.length:=by
 induction l with
 | nil=>rfl
 | cons c r ih=>simp only[hexL,List.flatMap_cons,List.length_append,List.length_cons,List.length_nil]at ih ⊢;omega
theorem fl_step (f:Nat→Int) (q:Int) (h0:f 0≤q):∀ N,q<f N→∃ k,k<N∧f k≤q∧q<f (k+1)
 | 0,h=>by omega
 | N+1,h=>by
  by_cases hq:q<f N
  ·obtain ⟨k,h1,h2,h3⟩:=fl_step f q h0 N hq;exact ⟨k,by omega,h2,h3⟩
  ·exact ⟨N,by omega,by omega,h⟩
theorem fl_civ {n:Int} (h0:-719162≤n) (h1:n≤2932896):∃ y m d,IsCiv n y m d:=by
 obtain ⟨Y,hj,hq0,hq1,hY⟩:∃ Y:Int,jan Y≤n∧0≤n - jan Y∧n - jan Y<365+lp Y∧1≤Y:=by
  have C:=civ_cycle (n+719162) (by omega) _ _ rfl rfl _ _ rfl rfl _ _ rfl rfl _ rfl;obtain ⟨a,ha⟩:∃ a,a=(n+719162) / 146097:=⟨_,rfl⟩
  obtain ⟨c,hc⟩:∃ c,c=min ((n+719162) % 146097 / 36524) 3:=⟨_,rfl⟩
  rw[←ha,←hc]at C;obtain ⟨b,hb⟩:∃ b,b=((n+719162) % 146097 - c * 36524) / 1461:=⟨_,rfl⟩
  obtain ⟨t,ht⟩:∃ t,t=((n+719162) % 146097 - c * 36524) % 1461:=⟨_,rfl⟩
  rw[←hb,←ht]at C;obtain ⟨k,hk⟩:∃ k,k=min (t / 365) 3:=⟨_,rfl⟩
  rw[←hk]at C;clear ha hc hb ht hk;obtain ⟨e1,e2,e3,e4,_,e6,_,e8,_,e10⟩:=C;exact ⟨1+400 * a+100 * c+4 * b+k,by omega,by omega,by omega,by omega⟩
 have hY2:=year_in h1 hj;have h12:=cum_12 Y;obtain ⟨k,k1,k2,k3⟩:=fl_step (cum Y) (n - jan Y) (by show (0:Int)≤_;omega) 12 (by omega);have k4:cum Y (k+1)=cum Y k+monL Y ((k:Int)+1):=rfl;exact ⟨Y,_,_,civ_mk (r:=n - jan Y - cum Y k) ⟨hY,hY2⟩ (by omega) rfl (by omega) (by omega)⟩
theorem fl_date {Y M D:Nat} (hY:Y<10000) (hM:M<100) (hD:D<100):(dateL Y M D).length=10:=by
 unfold dateL;rw[digL_4 Y hY,digL_2 M hM,digL_2 D hD];rfl
theorem fl_dec (neg:Bool) (m k:Nat) (hm:m≤999999999999999999) (hk:k≤18):(decStr neg m k).length≤62:=by
 have h:=padL_le m k hm hk;unfold decStr
 rw[List.length_append];have h1:(if neg=true then ([45]:List UInt8) else []).length≤1:=by split <;> simp
 have h2:(if k=0 then padL m k else (padL m k).take ((padL m k).length - k) ++ [46]++(padL m k).drop ((padL m k).length - k)).length≤61:=by
  split
  ·omega
  ·simp only[List.length_append,List.length_take,List.length_drop,List.length_cons,List.length_nil];omega
 omega
theorem fl_mon (y m:Int):monL y m≤31:=by
 have:lp y≤1:=by unfold lp;split <;> omega
 unfold monL;split
 ·omega
 ·split <;> omega
theorem fmtV_len (t k:Int) (cn nul:Bool) (n:Int) (s:ByteArray) (hn:-9223372036854775808≤n∧n≤9223372036854775807):(fmtV t k cn nul n s).1.length≤200:=by
 unfold fmtV
 by_cases h1:t=5∧(k<0∨18<k)
 ·rw[if_pos h1];simp
 rw[if_neg h1];by_cases h2:checkV t cn nul n s≠0
 ·rw[if_pos h2];simp
 rw[if_neg h2];by_cases h3:nul=true
 ·rw[if_pos h3];simp
 rw[if_neg h3];by_cases h4:t=2
 ·rw[if_pos h4];show (if n=1 then _ else _:List UInt8).length≤_;split <;> simp
 rw[if_neg h4];by_cases h5:t=4
 ·rw[if_pos h5];by_cases h:-719162≤n∧n≤2932896
  ·obtain ⟨y,m,d,hc⟩:=fl_civ h.1 h.2;rw[dateV_in h.1 h.2 hc];obtain ⟨y1,y2,q,hm,hq,hd0,hd1⟩:=hc;have:=fl_mon y ((q:Int)+1)
   show (dateL _ _ _).length≤200
   rw[fl_date (by omega) (by omega) (by omega)];omega
  ·rw[dateV_out h];simp
 rw[if_neg h5];by_cases h6:t=5
 ·rw[if_pos h6];unfold decV
  split
  ·rename_i h
   rw[Bool.and_eq_true]at h;unfold withB scaB at h
   simp only[Bool.and_eq_true,decide_eq_true_eq]at h;have:=fl_dec (decide (n<0)) n.natAbs k.toNat (by omega) (by omega)
   show (decStr _ _ _).length≤200
   omega
  ·simp
 rw[if_neg h6];by_cases h7:t=3
 ·rw[if_pos h7];have hs:s.size≤64:=by
   have hc:checkV t cn nul n s=0:=by simpa using h2
   have hnf:nul=false:=by simpa using h3
   unfold checkV at hc
   rw[if_neg (by omega)]at hc;split at hc
   ·cases hc
   ·split at hc
    ·cases hc
    ·split at hc
     ·cases hc
     ·split at hc
      ·cases hc
      ·rename_i hp
       rw[hnf,h7]at hp;have:permB 3 n s=true:=by
        cases hq:permB 3 n s with
        | true=>rfl
        | false=>exact absurd ⟨rfl,hq⟩ hp
       unfold permB at this
       simpa using this
  have hd:=sizeD s;show (34::(hexL s.data.toList ++ [34])).length≤200
  rw[List.length_cons,List.length_append,fl_hex];simp;omega
 rw[if_neg h7];have:=Lib.itoa_length_le n (by omega) (by omega)
 show (Lib.itoa n).length≤200
 omega
theorem hexV_C {c:Nat} (h:c<16):hexV (hexC c)=c:=by
 have:∀ n:Fin 16,hexV (hexC n.val)=n.val:=by decide +kernel
 exact this ⟨c,h⟩
theorem hexL_len (l:List UInt8):(hexL l).length=2 * l.length:=by
 induction l with
 | nil=>rfl
 | cons c r ih=>simp only[hexL,List.flatMap_cons,List.length_append,List.length_cons,List.length_nil]at ih ⊢;omega
theorem hexL_get:∀ {l:List UInt8} {j:Nat} {c:UInt8},l[j]?=some c→(hexL l)[2 * j]?=some (hexC (c.toNat / 16))∧(hexL l)[2 * j+1]?=some (hexC (c.toNat % 16))
 | [],j,c,h=>by simp at h
 | x::r,0,c,h=>by
  simp at h;subst h
  exact ⟨rfl,rfl⟩
 | x::r,j+1,c,h=>by
  have ih:=hexL_get (l:=r) (j:=j) (c:=c) (by simpa using h);have e:hexL (x::r)=[hexC (x.toNat / 16),hexC (x.toNat % 16)]++hexL r:=rfl;rw[e];constructor
  ·rw[List.getElem?_append_right (by simp;omega)];simp only[List.length_cons,List.length_nil];rw[show 2 * (j+1) - (0+1+1)=2 * j by omega];exact ih.1
  ·rw[List.getElem?_append_right (by simp;omega)];simp only[List.length_cons,List.length_nil];rw[show 2 * (j+1)+1 - (0+1+1)=2 * j+1 by omega];exact ih.2
def hexT (l:List UInt8):List UInt8:=34::(hexL l ++ [34])
theorem hexT_len (l:List UInt8):(hexT l).length=2 * l.length+2:=by unfold hexT;simp only[List.length_cons,List.length_append,List.length_nil,hexL_len]
theorem hexT_get {l:List UInt8} {j:Nat} {c:UInt8} (h:l[j]?=some c):(hexT l).getD (1+2 * j) 0=hexC (c.toNat / 16)∧(hexT l).getD (2+2 * j) 0=hexC (c.toNat % 16):=by
 have hj:=(List.getElem?_eq_some_iff.1 h).1;obtain ⟨h1,h2⟩:=hexL_get h;have hl:=hexL_len l;constructor
 ·rw[List.getD_eq_getElem?_getD];unfold hexT
  rw[show 1+2 * j=2 * j+1 by omega,List.getElem?_cons_succ,List.getElem?_append_left (by omega),h1];rfl
 ·rw[List.getD_eq_getElem?_getD];unfold hexT
  rw[show 2+2 * j=2 * j+1+1 by omega,List.getElem?_cons_succ,List.getElem?_append_left (by omega),h2];rfl
theorem byt_back {l:List UInt8} (h:l.length≤64):bytV (hexT l)=(l,0):=by
 have hlen:=hexT_len l;have hn:((hexT l).length - 2) / 2=l.length:=by omega
 have hq:∀ (j:Nat) (c:UInt8),l[j]?=some c→okQ (hexT l) j=true∧hexQ (hexT l) j=c:=by
  intro j c hc
  obtain ⟨h1,h2⟩:=hexT_get hc;have hlt:=c.toNat_lt;have e1:hexA (hexT l) j=c.toNat / 16:=by unfold hexA;rw[h1,hexV_C (by omega)]
  have e2:hexD (hexT l) j=c.toNat % 16:=by unfold hexD;rw[h2,hexV_C (by omega)]
  constructor
  ·unfold okQ;rw[e1,e2,decide_eq_true_eq];omega
  ·unfold hexQ;rw[e1,e2,show 16 * (c.toNat / 16)+c.toNat % 16=c.toNat by omega];exact UInt8.ofNat_toNat
 have ha:allQ (hexT l) l.length=true:=by
  unfold allQ
  rw[List.all_eq_true];intro j hj
  have hj':=List.mem_range.1 hj;exact (hq j _ (List.getElem?_eq_getElem hj')).1
 have ho:outQ (hexT l) l.length=l:=by
  apply List.ext_getElem?
  intro j
  unfold outQ
  rw[List.getElem?_map];by_cases hj:j<l.length
  ·rw[List.getElem?_range hj,List.getElem?_eq_getElem hj];exact congrArg some (hq j _ (List.getElem?_eq_getElem hj)).2
  ·rw[List.getElem?_eq_none (by rw[List.length_range];omega),List.getElem?_eq_none (by omega)];rfl
 have hlast:(hexT l).getD ((hexT l).length - 1) 0=34:=by
  rw[List.getD_eq_getElem?_getD,hlen];unfold hexT
  rw[show 2 * l.length+2 - 1=2 * l.length+1 by omega,List.getElem?_cons_succ,List.getElem?_append_right (by rw[hexL_len];omega),hexL_len,Nat.sub_self];rfl
 unfold bytV
 rw[if_neg,hn,ha,if_neg (by decide),if_neg (by omega),ho];rintro (h1|h1|h1|h1)
 ·omega
 ·omega
 ·exact h1 rfl
 ·exact h1 hlast
end Go.Proofs.YtjnamjkdjcndiaaGreatDoor
