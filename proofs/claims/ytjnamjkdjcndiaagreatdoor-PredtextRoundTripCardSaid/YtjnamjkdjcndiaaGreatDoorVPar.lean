/-
 The contract of value.Parse.
-/
import Derived.Test.YtjnamjkdjcndiaaGreatDoorInteger
import Derived.Test.YtjnamjkdjcndiaaGreatDoorRBytes
import Derived.Test.YtjnamjkdjcndiaaGreatDoorM9
import Derived.Test.YtjnamjkdjcndiaaGreatDoorM2
namespace Go.Proofs.YtjnamjkdjcndiaaGreatDoor
open Go.RowKit Go.Sort
set_option linter.unusedVariables false
def outN (r:Int×Int):(Bool×Int×List UInt8)×Int:=if r.2≠0 then ((false,0,[]),r.2) else ((false,r.1,[]),0)
def boolV (l:List UInt8):(Bool×Int×List UInt8)×Int:=if l=[116,114,117,101] then ((false,1,[]),0) else if l=[102,97,108,115,101] then ((false,0,[]),0) else ((false,0,[]),2)
def vparV (t k:Int) (cn:Bool) (l:List UInt8):(Bool×Int×List UInt8)×Int :=
 if (t<1∨5<t)∨(t=5∧scaB k=false) then ((false,0,[]),1)
 else if l=[110,117,108,108] then (if cn=true then ((true,0,[]),0) else ((false,0,[]),12))
 else if t=1 then outN (readV l) else if t=2 then boolV l else if t=3 then vbyt l else if t=4 then outN (dparV l) else outN (decP l k)
theorem vpar_bad {t k:Int} {cn:Bool} {l:List UInt8} (h:(t<1∨5<t)∨(t=5∧scaB k=false)):vparV t k cn l=((false,0,[]),1):=if_pos h
theorem vpar_null {t k:Int} {cn:Bool} {l:List UInt8} (h:¬((t<1∨5<t)∨(t=5∧scaB k=false))) (hl:l=[110,117,108,108]):vparV t k cn l=if cn=true then ((true,0,[]),0) else ((false,0,[]),12):=by unfold vparV;rw[if_neg h,if_pos hl]
theorem vpar_rest {t k:Int} {cn:Bool} {l:List UInt8} (h:¬((t<1∨5<t)∨(t=5∧scaB k=false))) (hl:l≠[110,117,108,108]):vparV t k cn l=if t=1 then outN (readV l) else if t=2 then boolV l else if t=3 then vbyt l else if t=4 then outN (dparV l) else outN (decP l k):=by unfold vparV;rw[if_neg h,if_neg hl]
theorem outN_err {x f:Int} (h:f≠0):outN (x,f)=((false,0,[]),f):=if_pos h
theorem outN_ok (x:Int):outN (x,0)=((false,x,[]),0):=if_neg (by simp)
theorem rb_of {w:World} {r:Int×Int} {a b:Int} (h:r=(a,b)) {P:Program} {f:FuncId} {args:Array Value} (hc:Calls P f args w (RetRb w r)):Calls P f args w fun e w'=>e=.returned (.tuple #[.int .i64 a,.int .i64 b])∧Below w.heap.size w w':=by subst h;exact hc
theorem rs_of {w:World} {r:Int×Int} {a b:Int} (h:r=(a,b)) {P:Program} {f:FuncId} {args:Array Value} (hc:Calls P f args w (RetRs w r)):Calls P f args w fun e w'=>e=.returned (.tuple #[.int .i64 a,.int .i64 b])∧Below w.heap.size w w':=by subst h;exact hc.mono fun _ _ ⟨h1,h2⟩=>⟨h1,by rw[←h2];exact Below.refl _ _⟩
theorem rd_of {w:World} {r:List UInt8×Int} {T:ByteArray} {b:Int} (h1:T.data.toList=r.1) (h2:r.2=b) {P:Program} {f:FuncId} {args:Array Value} (hc:Calls P f args w (RetDec w r)):Calls P f args w fun e w'=>e=.returned (.tuple #[.string T,.int .i64 b])∧Below w.heap.size w w':=by
 subst h2;unfold RetDec at hc;rw[←h1]at hc;exact hc
def BoxP (w:World) (sc:ByteArray) (t k:Int) (cn:Bool):World:=(w.alloc (.cells #[.string sc,.int .i64 t,.int .i64 k,.bool cn] 56)).alloc (.cells #[.bool false,.int .i64 0,.string { data:=#[] }] 64)
structure BoxOk (w W:World) (R:Nat) (sc:ByteArray) (t k:Int) (cn:Bool):Prop where
 below:Below w.heap.size w W
 le:w.heap.size≤R
 lt:R=w.heap.size+1
 sz:W.heap.size=w.heap.size+2
 c:Blk W w.heap.size 56 #[.string sc,.int .i64 t,.int .i64 k,.bool cn]
 r:Blk W R 64 #[.bool false,.int .i64 0,.string { data:=#[] }]
theorem boxP_ok (w:World) (sc:ByteArray) (t k:Int) (cn:Bool):BoxOk w (BoxP w sc t k cn) (w.heap.size+1) sc t k cn where
 below:=((Below.refl _ _).alloc (Nat.le_refl _) _).alloc (by simp) _
 le:=by omega
 lt:=rfl
 sz:=by unfold BoxP;simp
 c:=(Blk.new w _ _).alloc _
 r:=by
  have:=Blk.new (w.alloc (.cells #[.string sc,.int .i64 t,.int .i64 k,.bool cn] 56)) 64 #[.bool false,.int .i64 0,.string { data:=#[] }]
  rwa [show (w.alloc (.cells #[.string sc,.int .i64 t,.int .i64 k,.bool cn] 56)).heap.size=w.heap.size+1 by simp]at this
set_option maxRecDepth 100000 in
set_option maxHeartbeats 1000000 in
theorem vp_type (t k:Int) (h:t<1∨5<t) (sc:ByteArray) (cn:Bool) (s:ByteArray) (w:World):Calls Tryz.prog 93 #[.agg #[.string sc,.int .i64 t,.int .i64 k,.bool cn],.string s] w (RetVb w (vparV t k cn s.data.toList)):=by
 have HO:=Lib.hid (vpar_bad (k:=k) (cn:=cn) (l:=s.data.toList) (.inl h));have KN:=Lib.hid (fun X=>known_any t false (by symm;rw[decide_eq_false_iff_not];omega) X);have HX:=Lib.hid (boxP_ok w sc t k cn);obtain ⟨W0,hW0⟩:∃ W,W=BoxP w sc t k cn:=⟨_,rfl⟩
 rw[←hW0]at HX;have HWE:=Lib.hid hW0;clear hW0;have c1:W0.cell? ⟨w.heap.size,1,none⟩=some (.int .i64 t):=HX.out.c.cell 1;have c2:W0.cell? ⟨w.heap.size,2,none⟩=some (.int .i64 k):=HX.out.c.cell 2;have c3:W0.cell? ⟨w.heap.size,3,none⟩=some (.bool cn):=HX.out.c.cell 3;have r0:W0.cell? ⟨w.heap.size+1,0,none⟩=some (.bool false):=HX.out.r.cell 0;have r1:W0.cell? ⟨w.heap.size+1,1,none⟩=some (.int .i64 0):=HX.out.r.cell 1;have r2:W0.cell? ⟨w.heap.size+1,2,none⟩=some (.string { data:=#[] }):=HX.out.r.cell 2;have rf0:=HX.out.r.frozen 0;have rf1:=HX.out.r.frozen 1;have rf2:=HX.out.r.frozen 2;go_enter Tryz.func93,Tryz.ntmps93
 go_upto_region 1 with (fail)
 rw[show (w.alloc (.cells #[.string sc,.int .i64 t,.int .i64 k,.bool cn] 56)).alloc (.cells #[.bool false,.int .i64 0,.string { data:=#[] }] 64)=BoxP w sc t k cn from rfl,←HWE.out];go_wp2_with fail
 refine (KN.out _).mono ?_;rintro _ _ ⟨rfl,rfl⟩;go_wp2;have b3:=blk3V (.bool false) (.int .i64 0) (.string { data:=#[] }) HX.out.r;have q0:_=some (Value.bool false):=b3.cell 0;have q1:_=some (Value.int .i64 0):=b3.cell 1;have q2:_=some (Value.string { data:=#[] }):=b3.cell 2;exact bodyPost_ret (v:=.tuple #[.agg #[.bool false,.int .i64 0,.string { data:=#[] }],.int .i64 1]) (by simp[results,Tryz.results93,go_sem,q0,q1,q2]) rfl (RetVb.mk_ HO.out (below3V _ _ _ HX.out.below HX.out.le))
set_option maxRecDepth 100000 in
set_option maxHeartbeats 1000000 in
theorem vp_scale (k:Int) (h:k<0∨18<k) (sc:ByteArray) (cn:Bool) (s:ByteArray) (w:World):Calls Tryz.prog 93 #[.agg #[.string sc,.int .i64 5,.int .i64 k,.bool cn],.string s] w (RetVb w (vparV 5 k cn s.data.toList)):=by
 have HO:=Lib.hid (vpar_bad (t:=5) (k:=k) (cn:=cn) (l:=s.data.toList) (.inr ⟨rfl,by unfold scaB;simp;omega⟩));have KN:=Lib.hid (fun X=>known_any 5 true (by decide) X);have h2:k<0∨(¬k<0∧18<k):=by omega
 clear h;have HX:=Lib.hid (boxP_ok w sc 5 k cn);obtain ⟨W0,hW0⟩:∃ W,W=BoxP w sc 5 k cn:=⟨_,rfl⟩
 rw[←hW0]at HX;have HWE:=Lib.hid hW0;clear hW0;have c1:W0.cell? ⟨w.heap.size,1,none⟩=some (.int .i64 5):=HX.out.c.cell 1;have c2:W0.cell? ⟨w.heap.size,2,none⟩=some (.int .i64 k):=HX.out.c.cell 2;have c3:W0.cell? ⟨w.heap.size,3,none⟩=some (.bool cn):=HX.out.c.cell 3;have r0:W0.cell? ⟨w.heap.size+1,0,none⟩=some (.bool false):=HX.out.r.cell 0;have r1:W0.cell? ⟨w.heap.size+1,1,none⟩=some (.int .i64 0):=HX.out.r.cell 1;have r2:W0.cell? ⟨w.heap.size+1,2,none⟩=some (.string { data:=#[] }):=HX.out.r.cell 2;have rf0:=HX.out.r.frozen 0;have rf1:=HX.out.r.frozen 1;have rf2:=HX.out.r.frozen 2;rcases h2 with h|⟨h,h'⟩
 all_goals
  go_enter Tryz.func93,Tryz.ntmps93
  go_upto_region 1 with (fail)
  rw[show (w.alloc (.cells #[.string sc,.int .i64 5,.int .i64 k,.bool cn] 56)).alloc (.cells #[.bool false,.int .i64 0,.string { data:=#[] }] 64)=BoxP w sc 5 k cn from rfl,←HWE.out];go_wp2_with fail
  refine (KN.out _).mono ?_;rintro _ _ ⟨rfl,rfl⟩;go_wp2;have b3:=blk3V (.bool false) (.int .i64 0) (.string { data:=#[] }) HX.out.r;have q0:_=some (Value.bool false):=b3.cell 0;have q1:_=some (Value.int .i64 0):=b3.cell 1;have q2:_=some (Value.string { data:=#[] }):=b3.cell 2;exact bodyPost_ret (v:=.tuple #[.agg #[.bool false,.int .i64 0,.string { data:=#[] }],.int .i64 1]) (by simp[results,Tryz.results93,go_sem,q0,q1,q2]) rfl (RetVb.mk_ HO.out (below3V _ _ _ HX.out.below HX.out.le))
set_option maxRecDepth 100000 in
set_option maxHeartbeats 1000000 in
theorem vp_null1 (k:Int) (sc:ByteArray) (cn:Bool) (s:ByteArray) (w:World) (hn:s.toList=[110,117,108,108]):Calls Tryz.prog 93 #[.agg #[.string sc,.int .i64 1,.int .i64 k,.bool cn],.string s] w (RetVb w (vparV 1 k cn s.data.toList)):=by
 have HO1:=Lib.hid (vpar_null (t:=1) (k:=k) (cn:=cn) (l:=s.data.toList) (by omega) (by rw[←Go.ByteArray.toList_eq];exact hn));have KN:=Lib.hid (fun X=>known_any 1 true (by decide) X);have qn:(s.toList == [110,117,108,108])=true:=by rw[hn];rfl
 clear hn;have HX:=Lib.hid (boxP_ok w sc 1 k cn);obtain ⟨W0,hW0⟩:∃ W,W=BoxP w sc 1 k cn:=⟨_,rfl⟩
 rw[←hW0]at HX;have HWE:=Lib.hid hW0;clear hW0;have c1:W0.cell? ⟨w.heap.size,1,none⟩=some (.int .i64 1):=HX.out.c.cell 1;have c2:W0.cell? ⟨w.heap.size,2,none⟩=some (.int .i64 k):=HX.out.c.cell 2;have c3:W0.cell? ⟨w.heap.size,3,none⟩=some (.bool cn):=HX.out.c.cell 3;have r0:W0.cell? ⟨w.heap.size+1,0,none⟩=some (.bool false):=HX.out.r.cell 0;have r1:W0.cell? ⟨w.heap.size+1,1,none⟩=some (.int .i64 0):=HX.out.r.cell 1;have r2:W0.cell? ⟨w.heap.size+1,2,none⟩=some (.string { data:=#[] }):=HX.out.r.cell 2;have rf0:=HX.out.r.frozen 0;have rf1:=HX.out.r.frozen 1;have rf2:=HX.out.r.frozen 2;cases cn with
 | true =>
  have HO:=Lib.hid (HO1.out.trans (if_pos rfl));go_enter Tryz.func93,Tryz.ntmps93
  go_upto_region 1 with (fail)
  rw[show (w.alloc (.cells #[.string sc,.int .i64 1,.int .i64 k,.bool true] 56)).alloc (.cells #[.bool false,.int .i64 0,.string { data:=#[] }] 64)=BoxP w sc 1 k true from rfl,←HWE.out];go_wp2_with fail
  refine (KN.out _).mono ?_;rintro _ _ ⟨rfl,rfl⟩;go_wp2;have b3:=blk3V (.bool true) (.int .i64 0) (.string { data:=#[] }) HX.out.r;have q0:_=some (Value.bool true):=b3.cell 0;have q1:_=some (Value.int .i64 0):=b3.cell 1;have q2:_=some (Value.string { data:=#[] }):=b3.cell 2;exact bodyPost_ret (v:=.tuple #[.agg #[.bool true,.int .i64 0,.string { data:=#[] }],.int .i64 0]) (by simp[results,Tryz.results93,go_sem,q0,q1,q2]) rfl (RetVb.mk_ HO.out (below3V _ _ _ HX.out.below HX.out.le))
 | false =>
  have HO:=Lib.hid (HO1.out.trans (if_neg (by decide)));go_enter Tryz.func93,Tryz.ntmps93
  go_upto_region 1 with (fail)
  rw[show (w.alloc (.cells #[.string sc,.int .i64 1,.int .i64 k,.bool false] 56)).alloc (.cells #[.bool false,.int .i64 0,.string { data:=#[] }] 64)=BoxP w sc 1 k false from rfl,←HWE.out];go_wp2_with fail
  refine (KN.out _).mono ?_;rintro _ _ ⟨rfl,rfl⟩;go_wp2;have b3:=blk3V (.bool false) (.int .i64 0) (.string { data:=#[] }) HX.out.r;have q0:_=some (Value.bool false):=b3.cell 0;have q1:_=some (Value.int .i64 0):=b3.cell 1;have q2:_=some (Value.string { data:=#[] }):=b3.cell 2;exact bodyPost_ret (v:=.tuple #[.agg #[.bool false,.int .i64 0,.string { data:=#[] }],.int .i64 12]) (by simp[results,Tryz.results93,go_sem,q0,q1,q2]) rfl (RetVb.mk_ HO.out (below3V _ _ _ HX.out.below HX.out.le))
set_option maxRecDepth 100000 in
set_option maxHeartbeats 1000000 in
theorem vp_null2 (k:Int) (sc:ByteArray) (cn:Bool) (s:ByteArray) (w:World) (hn:s.toList=[110,117,108,108]):Calls Tryz.prog 93 #[.agg #[.string sc,.int .i64 2,.int .i64 k,.bool cn],.string s] w (RetVb w (vparV 2 k cn s.data.toList)):=by
 have HO1:=Lib.hid (vpar_null (t:=2) (k:=k) (cn:=cn) (l:=s.data.toList) (by omega) (by rw[←Go.ByteArray.toList_eq];exact hn));have KN:=Lib.hid (fun X=>known_any 2 true (by decide) X);have qn:(s.toList == [110,117,108,108])=true:=by rw[hn];rfl
 clear hn;have HX:=Lib.hid (boxP_ok w sc 2 k cn);obtain ⟨W0,hW0⟩:∃ W,W=BoxP w sc 2 k cn:=⟨_,rfl⟩
 rw[←hW0]at HX;have HWE:=Lib.hid hW0;clear hW0;have c1:W0.cell? ⟨w.heap.size,1,none⟩=some (.int .i64 2):=HX.out.c.cell 1;have c2:W0.cell? ⟨w.heap.size,2,none⟩=some (.int .i64 k):=HX.out.c.cell 2;have c3:W0.cell? ⟨w.heap.size,3,none⟩=some (.bool cn):=HX.out.c.cell 3;have r0:W0.cell? ⟨w.heap.size+1,0,none⟩=some (.bool false):=HX.out.r.cell 0;have r1:W0.cell? ⟨w.heap.size+1,1,none⟩=some (.int .i64 0):=HX.out.r.cell 1;have r2:W0.cell? ⟨w.heap.size+1,2,none⟩=some (.string { data:=#[] }):=HX.out.r.cell 2;have rf0:=HX.out.r.frozen 0;have rf1:=HX.out.r.frozen 1;have rf2:=HX.out.r.frozen 2;cases cn with
 | true =>
  have HO:=Lib.hid (HO1.out.trans (if_pos rfl));go_enter Tryz.func93,Tryz.ntmps93
  go_upto_region 1 with (fail)
  rw[show (w.alloc (.cells #[.string sc,.int .i64 2,.int .i64 k,.bool true] 56)).alloc (.cells #[.bool false,.int .i64 0,.string { data:=#[] }] 64)=BoxP w sc 2 k true from rfl,←HWE.out];go_wp2_with fail
  refine (KN.out _).mono ?_;rintro _ _ ⟨rfl,rfl⟩;go_wp2;have b3:=blk3V (.bool true) (.int .i64 0) (.string { data:=#[] }) HX.out.r;have q0:_=some (Value.bool true):=b3.cell 0;have q1:_=some (Value.int .i64 0):=b3.cell 1;have q2:_=some (Value.string { data:=#[] }):=b3.cell 2;exact bodyPost_ret (v:=.tuple #[.agg #[.bool true,.int .i64 0,.string { data:=#[] }],.int .i64 0]) (by simp[results,Tryz.results93,go_sem,q0,q1,q2]) rfl (RetVb.mk_ HO.out (below3V _ _ _ HX.out.below HX.out.le))
 | false =>
  have HO:=Lib.hid (HO1.out.trans (if_neg (by decide)));go_enter Tryz.func93,Tryz.ntmps93
  go_upto_region 1 with (fail)
  rw[show (w.alloc (.cells #[.string sc,.int .i64 2,.int .i64 k,.bool false] 56)).alloc (.cells #[.bool false,.int .i64 0,.string { data:=#[] }] 64)=BoxP w sc 2 k false from rfl,←HWE.out];go_wp2_with fail
  refine (KN.out _).mono ?_;rintro _ _ ⟨rfl,rfl⟩;go_wp2;have b3:=blk3V (.bool false) (.int .i64 0) (.string { data:=#[] }) HX.out.r;have q0:_=some (Value.bool false):=b3.cell 0;have q1:_=some (Value.int .i64 0):=b3.cell 1;have q2:_=some (Value.string { data:=#[] }):=b3.cell 2;exact bodyPost_ret (v:=.tuple #[.agg #[.bool false,.int .i64 0,.string { data:=#[] }],.int .i64 12]) (by simp[results,Tryz.results93,go_sem,q0,q1,q2]) rfl (RetVb.mk_ HO.out (below3V _ _ _ HX.out.below HX.out.le))
set_option maxRecDepth 100000 in
set_option maxHeartbeats 1000000 in
theorem vp_null3 (k:Int) (sc:ByteArray) (cn:Bool) (s:ByteArray) (w:World) (hn:s.toList=[110,117,108,108]):Calls Tryz.prog 93 #[.agg #[.string sc,.int .i64 3,.int .i64 k,.bool cn],.string s] w (RetVb w (vparV 3 k cn s.data.toList)):=by
 have HO1:=Lib.hid (vpar_null (t:=3) (k:=k) (cn:=cn) (l:=s.data.toList) (by omega) (by rw[←Go.ByteArray.toList_eq];exact hn));have KN:=Lib.hid (fun X=>known_any 3 true (by decide) X);have qn:(s.toList == [110,117,108,108])=true:=by rw[hn];rfl
 clear hn;have HX:=Lib.hid (boxP_ok w sc 3 k cn);obtain ⟨W0,hW0⟩:∃ W,W=BoxP w sc 3 k cn:=⟨_,rfl⟩
 rw[←hW0]at HX;have HWE:=Lib.hid hW0;clear hW0;have c1:W0.cell? ⟨w.heap.size,1,none⟩=some (.int .i64 3):=HX.out.c.cell 1;have c2:W0.cell? ⟨w.heap.size,2,none⟩=some (.int .i64 k):=HX.out.c.cell 2;have c3:W0.cell? ⟨w.heap.size,3,none⟩=some (.bool cn):=HX.out.c.cell 3;have r0:W0.cell? ⟨w.heap.size+1,0,none⟩=some (.bool false):=HX.out.r.cell 0;have r1:W0.cell? ⟨w.heap.size+1,1,none⟩=some (.int .i64 0):=HX.out.r.cell 1;have r2:W0.cell? ⟨w.heap.size+1,2,none⟩=some (.string { data:=#[] }):=HX.out.r.cell 2;have rf0:=HX.out.r.frozen 0;have rf1:=HX.out.r.frozen 1;have rf2:=HX.out.r.frozen 2;cases cn with
 | true =>
  have HO:=Lib.hid (HO1.out.trans (if_pos rfl));go_enter Tryz.func93,Tryz.ntmps93
  go_upto_region 1 with (fail)
  rw[show (w.alloc (.cells #[.string sc,.int .i64 3,.int .i64 k,.bool true] 56)).alloc (.cells #[.bool false,.int .i64 0,.string { data:=#[] }] 64)=BoxP w sc 3 k true from rfl,←HWE.out];go_wp2_with fail
  refine (KN.out _).mono ?_;rintro _ _ ⟨rfl,rfl⟩;go_wp2;have b3:=blk3V (.bool true) (.int .i64 0) (.string { data:=#[] }) HX.out.r;have q0:_=some (Value.bool true):=b3.cell 0;have q1:_=some (Value.int .i64 0):=b3.cell 1;have q2:_=some (Value.string { data:=#[] }):=b3.cell 2;exact bodyPost_ret (v:=.tuple #[.agg #[.bool true,.int .i64 0,.string { data:=#[] }],.int .i64 0]) (by simp[results,Tryz.results93,go_sem,q0,q1,q2]) rfl (RetVb.mk_ HO.out (below3V _ _ _ HX.out.below HX.out.le))
 | false =>
  have HO:=Lib.hid (HO1.out.trans (if_neg (by decide)));go_enter Tryz.func93,Tryz.ntmps93
  go_upto_region 1 with (fail)
  rw[show (w.alloc (.cells #[.string sc,.int .i64 3,.int .i64 k,.bool false] 56)).alloc (.cells #[.bool false,.int .i64 0,.string { data:=#[] }] 64)=BoxP w sc 3 k false from rfl,←HWE.out];go_wp2_with fail
  refine (KN.out _).mono ?_;rintro _ _ ⟨rfl,rfl⟩;go_wp2;have b3:=blk3V (.bool false) (.int .i64 0) (.string { data:=#[] }) HX.out.r;have q0:_=some (Value.bool false):=b3.cell 0;have q1:_=some (Value.int .i64 0):=b3.cell 1;have q2:_=some (Value.string { data:=#[] }):=b3.cell 2;exact bodyPost_ret (v:=.tuple #[.agg #[.bool false,.int .i64 0,.string { data:=#[] }],.int .i64 12]) (by simp[results,Tryz.results93,go_sem,q0,q1,q2]) rfl (RetVb.mk_ HO.out (below3V _ _ _ HX.out.below HX.out.le))
set_option maxRecDepth 100000 in
set_option maxHeartbeats 1000000 in
theorem vp_null4 (k:Int) (sc:ByteArray) (cn:Bool) (s:ByteArray) (w:World) (hn:s.toList=[110,117,108,108]):Calls Tryz.prog 93 #[.agg #[.string sc,.int .i64 4,.int .i64 k,.bool cn],.string s] w (RetVb w (vparV 4 k cn s.data.toList)):=by
 have HO1:=Lib.hid (vpar_null (t:=4) (k:=k) (cn:=cn) (l:=s.data.toList) (by omega) (by rw[←Go.ByteArray.toList_eq];exact hn));have KN:=Lib.hid (fun X=>known_any 4 true (by decide) X);have qn:(s.toList == [110,117,108,108])=true:=by rw[hn];rfl
 clear hn;have HX:=Lib.hid (boxP_ok w sc 4 k cn);obtain ⟨W0,hW0⟩:∃ W,W=BoxP w sc 4 k cn:=⟨_,rfl⟩
 rw[←hW0]at HX;have HWE:=Lib.hid hW0;clear hW0;have c1:W0.cell? ⟨w.heap.size,1,none⟩=some (.int .i64 4):=HX.out.c.cell 1;have c2:W0.cell? ⟨w.heap.size,2,none⟩=some (.int .i64 k):=HX.out.c.cell 2;have c3:W0.cell? ⟨w.heap.size,3,none⟩=some (.bool cn):=HX.out.c.cell 3;have r0:W0.cell? ⟨w.heap.size+1,0,none⟩=some (.bool false):=HX.out.r.cell 0;have r1:W0.cell? ⟨w.heap.size+1,1,none⟩=some (.int .i64 0):=HX.out.r.cell 1;have r2:W0.cell? ⟨w.heap.size+1,2,none⟩=some (.string { data:=#[] }):=HX.out.r.cell 2;have rf0:=HX.out.r.frozen 0;have rf1:=HX.out.r.frozen 1;have rf2:=HX.out.r.frozen 2;cases cn with
 | true =>
  have HO:=Lib.hid (HO1.out.trans (if_pos rfl));go_enter Tryz.func93,Tryz.ntmps93
  go_upto_region 1 with (fail)
  rw[show (w.alloc (.cells #[.string sc,.int .i64 4,.int .i64 k,.bool true] 56)).alloc (.cells #[.bool false,.int .i64 0,.string { data:=#[] }] 64)=BoxP w sc 4 k true from rfl,←HWE.out];go_wp2_with fail
  refine (KN.out _).mono ?_;rintro _ _ ⟨rfl,rfl⟩;go_wp2;have b3:=blk3V (.bool true) (.int .i64 0) (.string { data:=#[] }) HX.out.r;have q0:_=some (Value.bool true):=b3.cell 0;have q1:_=some (Value.int .i64 0):=b3.cell 1;have q2:_=some (Value.string { data:=#[] }):=b3.cell 2;exact bodyPost_ret (v:=.tuple #[.agg #[.bool true,.int .i64 0,.string { data:=#[] }],.int .i64 0]) (by simp[results,Tryz.results93,go_sem,q0,q1,q2]) rfl (RetVb.mk_ HO.out (below3V _ _ _ HX.out.below HX.out.le))
 | false =>
  have HO:=Lib.hid (HO1.out.trans (if_neg (by decide)));go_enter Tryz.func93,Tryz.ntmps93
  go_upto_region 1 with (fail)
  rw[show (w.alloc (.cells #[.string sc,.int .i64 4,.int .i64 k,.bool false] 56)).alloc (.cells #[.bool false,.int .i64 0,.string { data:=#[] }] 64)=BoxP w sc 4 k false from rfl,←HWE.out];go_wp2_with fail
  refine (KN.out _).mono ?_;rintro _ _ ⟨rfl,rfl⟩;go_wp2;have b3:=blk3V (.bool false) (.int .i64 0) (.string { data:=#[] }) HX.out.r;have q0:_=some (Value.bool false):=b3.cell 0;have q1:_=some (Value.int .i64 0):=b3.cell 1;have q2:_=some (Value.string { data:=#[] }):=b3.cell 2;exact bodyPost_ret (v:=.tuple #[.agg #[.bool false,.int .i64 0,.string { data:=#[] }],.int .i64 12]) (by simp[results,Tryz.results93,go_sem,q0,q1,q2]) rfl (RetVb.mk_ HO.out (below3V _ _ _ HX.out.below HX.out.le))
set_option maxRecDepth 100000 in
set_option maxHeartbeats 1000000 in
theorem vp_null5 (k:Int) (h0:0≤k) (h1:k≤18) (sc:ByteArray) (cn:Bool) (s:ByteArray) (w:World) (hn:s.toList=[110,117,108,108]):Calls Tryz.prog 93 #[.agg #[.string sc,.int .i64 5,.int .i64 k,.bool cn],.string s] w (RetVb w (vparV 5 k cn s.data.toList)):=by
 have HO1:=Lib.hid (vpar_null (t:=5) (k:=k) (cn:=cn) (l:=s.data.toList) (by unfold scaB;simp;omega) (by rw[←Go.ByteArray.toList_eq];exact hn));have KN:=Lib.hid (fun X=>known_any 5 true (by decide) X);have qn:(s.toList == [110,117,108,108])=true:=by rw[hn];rfl
 clear hn;have g0:¬k<0:=by omega
 have g1:¬18<k:=by omega
 have HX:=Lib.hid (boxP_ok w sc 5 k cn);obtain ⟨W0,hW0⟩:∃ W,W=BoxP w sc 5 k cn:=⟨_,rfl⟩
 rw[←hW0]at HX;have HWE:=Lib.hid hW0;clear hW0;have c1:W0.cell? ⟨w.heap.size,1,none⟩=some (.int .i64 5):=HX.out.c.cell 1;have c2:W0.cell? ⟨w.heap.size,2,none⟩=some (.int .i64 k):=HX.out.c.cell 2;have c3:W0.cell? ⟨w.heap.size,3,none⟩=some (.bool cn):=HX.out.c.cell 3;have r0:W0.cell? ⟨w.heap.size+1,0,none⟩=some (.bool false):=HX.out.r.cell 0;have r1:W0.cell? ⟨w.heap.size+1,1,none⟩=some (.int .i64 0):=HX.out.r.cell 1;have r2:W0.cell? ⟨w.heap.size+1,2,none⟩=some (.string { data:=#[] }):=HX.out.r.cell 2;have rf0:=HX.out.r.frozen 0;have rf1:=HX.out.r.frozen 1;have rf2:=HX.out.r.frozen 2;cases cn with
 | true =>
  have HO:=Lib.hid (HO1.out.trans (if_pos rfl));go_enter Tryz.func93,Tryz.ntmps93
  go_upto_region 1 with (fail)
  rw[show (w.alloc (.cells #[.string sc,.int .i64 5,.int .i64 k,.bool true] 56)).alloc (.cells #[.bool false,.int .i64 0,.string { data:=#[] }] 64)=BoxP w sc 5 k true from rfl,←HWE.out];go_wp2_with fail
  refine (KN.out _).mono ?_;rintro _ _ ⟨rfl,rfl⟩;go_wp2;have b3:=blk3V (.bool true) (.int .i64 0) (.string { data:=#[] }) HX.out.r;have q0:_=some (Value.bool true):=b3.cell 0;have q1:_=some (Value.int .i64 0):=b3.cell 1;have q2:_=some (Value.string { data:=#[] }):=b3.cell 2;exact bodyPost_ret (v:=.tuple #[.agg #[.bool true,.int .i64 0,.string { data:=#[] }],.int .i64 0]) (by simp[results,Tryz.results93,go_sem,q0,q1,q2]) rfl (RetVb.mk_ HO.out (below3V _ _ _ HX.out.below HX.out.le))
 | false =>
  have HO:=Lib.hid (HO1.out.trans (if_neg (by decide)));go_enter Tryz.func93,Tryz.ntmps93
  go_upto_region 1 with (fail)
  rw[show (w.alloc (.cells #[.string sc,.int .i64 5,.int .i64 k,.bool false] 56)).alloc (.cells #[.bool false,.int .i64 0,.string { data:=#[] }] 64)=BoxP w sc 5 k false from rfl,←HWE.out];go_wp2_with fail
  refine (KN.out _).mono ?_;rintro _ _ ⟨rfl,rfl⟩;go_wp2;have b3:=blk3V (.bool false) (.int .i64 0) (.string { data:=#[] }) HX.out.r;have q0:_=some (Value.bool false):=b3.cell 0;have q1:_=some (Value.int .i64 0):=b3.cell 1;have q2:_=some (Value.string { data:=#[] }):=b3.cell 2;exact bodyPost_ret (v:=.tuple #[.agg #[.bool false,.int .i64 0,.string { data:=#[] }],.int .i64 12]) (by simp[results,Tryz.results93,go_sem,q0,q1,q2]) rfl (RetVb.mk_ HO.out (below3V _ _ _ HX.out.below HX.out.le))
set_option maxRecDepth 100000 in
set_option maxHeartbeats 1000000 in
theorem vp_t1 (k:Int) (sc:ByteArray) (cn:Bool) (s:ByteArray) (w:World) (hE:Env w) (hs:s.size≤140737488351232) (hn:s.toList≠[110,117,108,108]):Calls Tryz.prog 93 #[.agg #[.string sc,.int .i64 1,.int .i64 k,.bool cn],.string s] w (RetVb w (vparV 1 k cn s.data.toList)):=by
 have HO1:=Lib.hid (show vparV 1 k cn s.data.toList=outN (readV s.data.toList) from (vpar_rest (t:=1) (k:=k) (cn:=cn) (l:=s.data.toList) (by omega) (by rw[←Go.ByteArray.toList_eq];exact hn)).trans (by simp));have KN:=Lib.hid (fun X=>known_any 1 true (by decide) X);have qn:(s.toList == [110,117,108,108])=false:=by rw[beq_eq_false_iff_ne];exact hn
 have HE:=Lib.hid hE;clear hn hE;have HX:=Lib.hid (boxP_ok w sc 1 k cn);obtain ⟨W0,hW0⟩:∃ W,W=BoxP w sc 1 k cn:=⟨_,rfl⟩
 rw[←hW0]at HX;have HWE:=Lib.hid hW0;clear hW0;have c1:W0.cell? ⟨w.heap.size,1,none⟩=some (.int .i64 1):=HX.out.c.cell 1;have c2:W0.cell? ⟨w.heap.size,2,none⟩=some (.int .i64 k):=HX.out.c.cell 2;have c3:W0.cell? ⟨w.heap.size,3,none⟩=some (.bool cn):=HX.out.c.cell 3;have r0:W0.cell? ⟨w.heap.size+1,0,none⟩=some (.bool false):=HX.out.r.cell 0;have r1:W0.cell? ⟨w.heap.size+1,1,none⟩=some (.int .i64 0):=HX.out.r.cell 1;have r2:W0.cell? ⟨w.heap.size+1,2,none⟩=some (.string { data:=#[] }):=HX.out.r.cell 2;have rf0:=HX.out.r.frozen 0;have rf1:=HX.out.r.frozen 1;have rf2:=HX.out.r.frozen 2;obtain ⟨⟨x,f⟩,hr⟩:∃ r,readV s.data.toList=r:=⟨_,rfl⟩
 rw[hr]at HO1;have CI:=Lib.hid (fun X (h:Env X)=>rb_of hr (integer_any s X h hs));clear hr;by_cases hf:f=0
 ·subst hf;have HO:=Lib.hid (HO1.out.trans (outN_ok x));go_enter Tryz.func93,Tryz.ntmps93
  go_upto_region 1 with (fail)
  rw[show (w.alloc (.cells #[.string sc,.int .i64 1,.int .i64 k,.bool cn] 56)).alloc (.cells #[.bool false,.int .i64 0,.string { data:=#[] }] 64)=BoxP w sc 1 k cn from rfl,←HWE.out];go_wp2_with fail
  refine (KN.out _).mono ?_;rintro _ _ ⟨rfl,rfl⟩;go_upto_region 8 with (fail)
  have bV:=Blk.new W0 64 #[.bool false,.int .i64 0,.string { data:=#[] }];have hb1:=below_new W0 (.cells #[.bool false,.int .i64 0,.string { data:=#[] }] 64);obtain ⟨W1,hW1⟩:∃ W,W=W0.alloc (.cells #[.bool false,.int .i64 0,.string { data:=#[] }] 64):=⟨_,rfl⟩
  rw[←hW1]at bV hb1 ⊢;obtain ⟨V,hV⟩:∃ V,V=W0.heap.size:=⟨_,rfl⟩
  rw[←hV]at bV ⊢;have HVN:=Lib.hid (show w.heap.size+1≠V by have:=HX.out.sz;omega);have HVL:=Lib.hid (show w.heap.size≤V by have:=HX.out.sz;omega);have HV1:=Lib.hid bV;have HR1:=Lib.hid (HX.out.r.below hb1 HX.out.r.lt);have HC1:=Lib.hid (HX.out.c.below hb1 HX.out.c.lt);have HB1:=Lib.hid (bst HX.out.below hb1);clear hW1 hV bV hb1 c1 c2 c3 r0 r1 r2 rf0 rf1 rf2;have c1:W1.cell? ⟨w.heap.size,1,none⟩=some (.int .i64 1):=HC1.out.cell 1;have c2:W1.cell? ⟨w.heap.size,2,none⟩=some (.int .i64 k):=HC1.out.cell 2;go_wp2_with fail
  refine (CI.out _ (HE.out.below HB1.out)).mono ?_;rintro _ w2 ⟨rfl,hb2⟩;have HB2:=Lib.hid (bst HB1.out hb2);have HV2:=Lib.hid (HV1.out.below hb2 HV1.out.lt);have HR2:=Lib.hid (HR1.out.below hb2 HR1.out.lt);clear hb2 c1 c2;have vc:w2.cell? ⟨V,1,none⟩=some (.int .i64 0):=HV2.out.cell 1;have vf:=HV2.out.frozen 1;go_upto_region 26 with (fail)
  have HV3:=Lib.hid (HV2.out.set_ 1 (.int .i64 x));have HR3:=Lib.hid (HR2.out.far (p:=⟨V,1,none⟩) HVN.out (.int .i64 x));have HB3:=Lib.hid (HB2.out.setCell (p:=⟨V,1,none⟩) HVL.out (.int .i64 x));obtain ⟨W3,hW3⟩:∃ W,W=w2.setCell ⟨V,1,none⟩ (.int .i64 x):=⟨_,rfl⟩
  rw[←hW3]at HV3 HR3 HB3 ⊢;clear hW3 vc vf;have r0:W3.cell? ⟨w.heap.size+1,0,none⟩=some (.bool false):=HR3.out.cell 0;have r1:W3.cell? ⟨w.heap.size+1,1,none⟩=some (.int .i64 0):=HR3.out.cell 1;have r2:W3.cell? ⟨w.heap.size+1,2,none⟩=some (.string { data:=#[] }):=HR3.out.cell 2;have rf0:=HR3.out.frozen 0;have rf1:=HR3.out.frozen 1;have rf2:=HR3.out.frozen 2;have v0:W3.cell? ⟨V,0,none⟩=some (.bool false):=HV3.out.cell 0;have v1:W3.cell? ⟨V,1,none⟩=some (.int .i64 x):=HV3.out.cell 1;have v2:W3.cell? ⟨V,2,none⟩=some (.string { data:=#[] }):=HV3.out.cell 2;go_wp2;have b3:=blk3V (.bool false) (.int .i64 x) (.string { data:=#[] }) HR3.out;have q0:_=some (Value.bool false):=b3.cell 0;have q1:_=some (Value.int .i64 x):=b3.cell 1;have q2:_=some (Value.string { data:=#[] }):=b3.cell 2;exact bodyPost_ret (v:=.tuple #[.agg #[.bool false,.int .i64 x,.string { data:=#[] }],.int .i64 0]) (by simp[results,Tryz.results93,go_sem,q0,q1,q2]) rfl (RetVb.mk_ HO.out (below3V _ _ _ HB3.out HX.out.le))
 ·have HO:=Lib.hid (HO1.out.trans (outN_err hf));have qf:(f != 0)=true:=by simpa using hf
  clear hf;go_enter Tryz.func93,Tryz.ntmps93
  go_upto_region 1 with (fail)
  rw[show (w.alloc (.cells #[.string sc,.int .i64 1,.int .i64 k,.bool cn] 56)).alloc (.cells #[.bool false,.int .i64 0,.string { data:=#[] }] 64)=BoxP w sc 1 k cn from rfl,←HWE.out];go_wp2_with fail
  refine (KN.out _).mono ?_;rintro _ _ ⟨rfl,rfl⟩;go_upto_region 8 with (fail)
  have bV:=Blk.new W0 64 #[.bool false,.int .i64 0,.string { data:=#[] }];have hb1:=below_new W0 (.cells #[.bool false,.int .i64 0,.string { data:=#[] }] 64);obtain ⟨W1,hW1⟩:∃ W,W=W0.alloc (.cells #[.bool false,.int .i64 0,.string { data:=#[] }] 64):=⟨_,rfl⟩
  rw[←hW1]at bV hb1 ⊢;obtain ⟨V,hV⟩:∃ V,V=W0.heap.size:=⟨_,rfl⟩
  rw[←hV]at bV ⊢;have HVN:=Lib.hid (show w.heap.size+1≠V by have:=HX.out.sz;omega);have HVL:=Lib.hid (show w.heap.size≤V by have:=HX.out.sz;omega);have HV1:=Lib.hid bV;have HR1:=Lib.hid (HX.out.r.below hb1 HX.out.r.lt);have HC1:=Lib.hid (HX.out.c.below hb1 HX.out.c.lt);have HB1:=Lib.hid (bst HX.out.below hb1);clear hW1 hV bV hb1 c1 c2 c3 r0 r1 r2 rf0 rf1 rf2;have c1:W1.cell? ⟨w.heap.size,1,none⟩=some (.int .i64 1):=HC1.out.cell 1;have c2:W1.cell? ⟨w.heap.size,2,none⟩=some (.int .i64 k):=HC1.out.cell 2;go_wp2_with fail
  refine (CI.out _ (HE.out.below HB1.out)).mono ?_;rintro _ w2 ⟨rfl,hb2⟩;have HB2:=Lib.hid (bst HB1.out hb2);have HV2:=Lib.hid (HV1.out.below hb2 HV1.out.lt);have HR2:=Lib.hid (HR1.out.below hb2 HR1.out.lt);clear hb2 c1 c2;have vc:w2.cell? ⟨V,1,none⟩=some (.int .i64 0):=HV2.out.cell 1;have vf:=HV2.out.frozen 1;go_upto_region 26 with (fail)
  have HV3:=Lib.hid (HV2.out.set_ 1 (.int .i64 x));have HR3:=Lib.hid (HR2.out.far (p:=⟨V,1,none⟩) HVN.out (.int .i64 x));have HB3:=Lib.hid (HB2.out.setCell (p:=⟨V,1,none⟩) HVL.out (.int .i64 x));obtain ⟨W3,hW3⟩:∃ W,W=w2.setCell ⟨V,1,none⟩ (.int .i64 x):=⟨_,rfl⟩
  rw[←hW3]at HV3 HR3 HB3 ⊢;clear hW3 vc vf;have r0:W3.cell? ⟨w.heap.size+1,0,none⟩=some (.bool false):=HR3.out.cell 0;have r1:W3.cell? ⟨w.heap.size+1,1,none⟩=some (.int .i64 0):=HR3.out.cell 1;have r2:W3.cell? ⟨w.heap.size+1,2,none⟩=some (.string { data:=#[] }):=HR3.out.cell 2;have rf0:=HR3.out.frozen 0;have rf1:=HR3.out.frozen 1;have rf2:=HR3.out.frozen 2;have v0:W3.cell? ⟨V,0,none⟩=some (.bool false):=HV3.out.cell 0;have v1:W3.cell? ⟨V,1,none⟩=some (.int .i64 x):=HV3.out.cell 1;have v2:W3.cell? ⟨V,2,none⟩=some (.string { data:=#[] }):=HV3.out.cell 2;go_wp2;have b3:=blk3V (.bool false) (.int .i64 0) (.string { data:=#[] }) HR3.out;have q0:_=some (Value.bool false):=b3.cell 0;have q1:_=some (Value.int .i64 0):=b3.cell 1;have q2:_=some (Value.string { data:=#[] }):=b3.cell 2;exact bodyPost_ret (v:=.tuple #[.agg #[.bool false,.int .i64 0,.string { data:=#[] }],.int .i64 f]) (by simp[results,Tryz.results93,go_sem,q0,q1,q2]) rfl (RetVb.mk_ HO.out (below3V _ _ _ HB3.out HX.out.le))
set_option maxRecDepth 100000 in
set_option maxHeartbeats 1000000 in
theorem vp_t2 (k:Int) (sc:ByteArray) (cn:Bool) (s:ByteArray) (w:World) (hE:Env w) (hs:s.size≤140737488351232) (hn:s.toList≠[110,117,108,108]):Calls Tryz.prog 93 #[.agg #[.string sc,.int .i64 2,.int .i64 k,.bool cn],.string s] w (RetVb w (vparV 2 k cn s.data.toList)):=by
 have HO1:=Lib.hid (show vparV 2 k cn s.data.toList=boolV s.data.toList from (vpar_rest (t:=2) (k:=k) (cn:=cn) (l:=s.data.toList) (by omega) (by rw[←Go.ByteArray.toList_eq];exact hn)).trans (by simp));have KN:=Lib.hid (fun X=>known_any 2 true (by decide) X);have qn:(s.toList == [110,117,108,108])=false:=by rw[beq_eq_false_iff_ne];exact hn
 have HE:=Lib.hid hE;clear hn hE;have HX:=Lib.hid (boxP_ok w sc 2 k cn);obtain ⟨W0,hW0⟩:∃ W,W=BoxP w sc 2 k cn:=⟨_,rfl⟩
 rw[←hW0]at HX;have HWE:=Lib.hid hW0;clear hW0;have c1:W0.cell? ⟨w.heap.size,1,none⟩=some (.int .i64 2):=HX.out.c.cell 1;have c2:W0.cell? ⟨w.heap.size,2,none⟩=some (.int .i64 k):=HX.out.c.cell 2;have c3:W0.cell? ⟨w.heap.size,3,none⟩=some (.bool cn):=HX.out.c.cell 3;have r0:W0.cell? ⟨w.heap.size+1,0,none⟩=some (.bool false):=HX.out.r.cell 0;have r1:W0.cell? ⟨w.heap.size+1,1,none⟩=some (.int .i64 0):=HX.out.r.cell 1;have r2:W0.cell? ⟨w.heap.size+1,2,none⟩=some (.string { data:=#[] }):=HX.out.r.cell 2;have rf0:=HX.out.r.frozen 0;have rf1:=HX.out.r.frozen 1;have rf2:=HX.out.r.frozen 2;by_cases ht:s.toList=[116,114,117,101]
 ·have HO:=Lib.hid (HO1.out.trans (if_pos (by rw[←Go.ByteArray.toList_eq];exact ht)));have q1:(s.toList == [116,114,117,101])=true:=by rw[ht];rfl
  clear ht;go_enter Tryz.func93,Tryz.ntmps93
  go_upto_region 1 with (fail)
  rw[show (w.alloc (.cells #[.string sc,.int .i64 2,.int .i64 k,.bool cn] 56)).alloc (.cells #[.bool false,.int .i64 0,.string { data:=#[] }] 64)=BoxP w sc 2 k cn from rfl,←HWE.out];go_wp2_with fail
  refine (KN.out _).mono ?_;rintro _ _ ⟨rfl,rfl⟩;go_upto_region 8 with (fail)
  have bV:=Blk.new W0 64 #[.bool false,.int .i64 0,.string { data:=#[] }];have hb1:=below_new W0 (.cells #[.bool false,.int .i64 0,.string { data:=#[] }] 64);obtain ⟨W1,hW1⟩:∃ W,W=W0.alloc (.cells #[.bool false,.int .i64 0,.string { data:=#[] }] 64):=⟨_,rfl⟩
  rw[←hW1]at bV hb1 ⊢;obtain ⟨V,hV⟩:∃ V,V=W0.heap.size:=⟨_,rfl⟩
  rw[←hV]at bV ⊢;have HVN:=Lib.hid (show w.heap.size+1≠V by have:=HX.out.sz;omega);have HVL:=Lib.hid (show w.heap.size≤V by have:=HX.out.sz;omega);have HV1:=Lib.hid bV;have HR1:=Lib.hid (HX.out.r.below hb1 HX.out.r.lt);have HC1:=Lib.hid (HX.out.c.below hb1 HX.out.c.lt);have HB1:=Lib.hid (bst HX.out.below hb1);clear hW1 hV bV hb1 c1 c2 c3 r0 r1 r2 rf0 rf1 rf2;have c1:W1.cell? ⟨w.heap.size,1,none⟩=some (.int .i64 2):=HC1.out.cell 1;have c2:W1.cell? ⟨w.heap.size,2,none⟩=some (.int .i64 k):=HC1.out.cell 2;have vc:W1.cell? ⟨V,1,none⟩=some (.int .i64 0):=HV1.out.cell 1;have vf:=HV1.out.frozen 1;go_upto_region 26 with (fail)
  have HV3:=Lib.hid (HV1.out.set_ 1 (.int .i64 1));have HR3:=Lib.hid (HR1.out.far (p:=⟨V,1,none⟩) HVN.out (.int .i64 1));have HB3:=Lib.hid (HB1.out.setCell (p:=⟨V,1,none⟩) HVL.out (.int .i64 1));obtain ⟨W3,hW3⟩:∃ W,W=W1.setCell ⟨V,1,none⟩ (.int .i64 1):=⟨_,rfl⟩
  rw[←hW3]at HV3 HR3 HB3 ⊢;clear hW3 vc vf c1 c2;have r0:W3.cell? ⟨w.heap.size+1,0,none⟩=some (.bool false):=HR3.out.cell 0;have r1:W3.cell? ⟨w.heap.size+1,1,none⟩=some (.int .i64 0):=HR3.out.cell 1;have r2:W3.cell? ⟨w.heap.size+1,2,none⟩=some (.string { data:=#[] }):=HR3.out.cell 2;have rf0:=HR3.out.frozen 0;have rf1:=HR3.out.frozen 1;have rf2:=HR3.out.frozen 2;have v0:W3.cell? ⟨V,0,none⟩=some (.bool false):=HV3.out.cell 0;have v1:W3.cell? ⟨V,1,none⟩=some (.int .i64 1):=HV3.out.cell 1;have v2:W3.cell? ⟨V,2,none⟩=some (.string { data:=#[] }):=HV3.out.cell 2;go_wp2;have b3:=blk3V (.bool false) (.int .i64 1) (.string { data:=#[] }) HR3.out;have q0:_=some (Value.bool false):=b3.cell 0;have q1:_=some (Value.int .i64 1):=b3.cell 1;have q2:_=some (Value.string { data:=#[] }):=b3.cell 2;exact bodyPost_ret (v:=.tuple #[.agg #[.bool false,.int .i64 1,.string { data:=#[] }],.int .i64 0]) (by simp[results,Tryz.results93,go_sem,q0,q1,q2]) rfl (RetVb.mk_ HO.out (below3V _ _ _ HB3.out HX.out.le))
 have q1:(s.toList == [116,114,117,101])=false:=by rw[beq_eq_false_iff_ne];exact ht
 by_cases hff:s.toList=[102,97,108,115,101]
 ·have HO:=Lib.hid (HO1.out.trans ((if_neg (by rw[←Go.ByteArray.toList_eq];exact ht)).trans (if_pos (by rw[←Go.ByteArray.toList_eq];exact hff))));have q2:(s.toList == [102,97,108,115,101])=true:=by rw[hff];rfl
  clear ht hff;go_enter Tryz.func93,Tryz.ntmps93
  go_upto_region 1 with (fail)
  rw[show (w.alloc (.cells #[.string sc,.int .i64 2,.int .i64 k,.bool cn] 56)).alloc (.cells #[.bool false,.int .i64 0,.string { data:=#[] }] 64)=BoxP w sc 2 k cn from rfl,←HWE.out];go_wp2_with fail
  refine (KN.out _).mono ?_;rintro _ _ ⟨rfl,rfl⟩;go_upto_region 8 with (fail)
  have bV:=Blk.new W0 64 #[.bool false,.int .i64 0,.string { data:=#[] }];have hb1:=below_new W0 (.cells #[.bool false,.int .i64 0,.string { data:=#[] }] 64);obtain ⟨W1,hW1⟩:∃ W,W=W0.alloc (.cells #[.bool false,.int .i64 0,.string { data:=#[] }] 64):=⟨_,rfl⟩
  rw[←hW1]at bV hb1 ⊢;obtain ⟨V,hV⟩:∃ V,V=W0.heap.size:=⟨_,rfl⟩
  rw[←hV]at bV ⊢;have HVN:=Lib.hid (show w.heap.size+1≠V by have:=HX.out.sz;omega);have HVL:=Lib.hid (show w.heap.size≤V by have:=HX.out.sz;omega);have HV1:=Lib.hid bV;have HR1:=Lib.hid (HX.out.r.below hb1 HX.out.r.lt);have HC1:=Lib.hid (HX.out.c.below hb1 HX.out.c.lt);have HB1:=Lib.hid (bst HX.out.below hb1);clear hW1 hV bV hb1 c1 c2 c3 r0 r1 r2 rf0 rf1 rf2;have c1:W1.cell? ⟨w.heap.size,1,none⟩=some (.int .i64 2):=HC1.out.cell 1;have c2:W1.cell? ⟨w.heap.size,2,none⟩=some (.int .i64 k):=HC1.out.cell 2;have r0:W1.cell? ⟨w.heap.size+1,0,none⟩=some (.bool false):=HR1.out.cell 0;have r1:W1.cell? ⟨w.heap.size+1,1,none⟩=some (.int .i64 0):=HR1.out.cell 1;have r2:W1.cell? ⟨w.heap.size+1,2,none⟩=some (.string { data:=#[] }):=HR1.out.cell 2;have rf0:=HR1.out.frozen 0;have rf1:=HR1.out.frozen 1;have rf2:=HR1.out.frozen 2;have v0:W1.cell? ⟨V,0,none⟩=some (.bool false):=HV1.out.cell 0;have v1:W1.cell? ⟨V,1,none⟩=some (.int .i64 0):=HV1.out.cell 1;have v2:W1.cell? ⟨V,2,none⟩=some (.string { data:=#[] }):=HV1.out.cell 2;go_wp2;have b3:=blk3V (.bool false) (.int .i64 0) (.string { data:=#[] }) HR1.out;have q0:_=some (Value.bool false):=b3.cell 0;have q1:_=some (Value.int .i64 0):=b3.cell 1;have q2:_=some (Value.string { data:=#[] }):=b3.cell 2;exact bodyPost_ret (v:=.tuple #[.agg #[.bool false,.int .i64 0,.string { data:=#[] }],.int .i64 0]) (by simp[results,Tryz.results93,go_sem,q0,q1,q2]) rfl (RetVb.mk_ HO.out (below3V _ _ _ HB1.out HX.out.le))
 ·have HO:=Lib.hid (HO1.out.trans ((if_neg (by rw[←Go.ByteArray.toList_eq];exact ht)).trans (if_neg (by rw[←Go.ByteArray.toList_eq];exact hff))));have q2:(s.toList == [102,97,108,115,101])=false:=by rw[beq_eq_false_iff_ne];exact hff
  clear ht hff;go_enter Tryz.func93,Tryz.ntmps93
  go_upto_region 1 with (fail)
  rw[show (w.alloc (.cells #[.string sc,.int .i64 2,.int .i64 k,.bool cn] 56)).alloc (.cells #[.bool false,.int .i64 0,.string { data:=#[] }] 64)=BoxP w sc 2 k cn from rfl,←HWE.out];go_wp2_with fail
  refine (KN.out _).mono ?_;rintro _ _ ⟨rfl,rfl⟩;go_upto_region 8 with (fail)
  have bV:=Blk.new W0 64 #[.bool false,.int .i64 0,.string { data:=#[] }];have hb1:=below_new W0 (.cells #[.bool false,.int .i64 0,.string { data:=#[] }] 64);obtain ⟨W1,hW1⟩:∃ W,W=W0.alloc (.cells #[.bool false,.int .i64 0,.string { data:=#[] }] 64):=⟨_,rfl⟩
  rw[←hW1]at bV hb1 ⊢;obtain ⟨V,hV⟩:∃ V,V=W0.heap.size:=⟨_,rfl⟩
  rw[←hV]at bV ⊢;have HVN:=Lib.hid (show w.heap.size+1≠V by have:=HX.out.sz;omega);have HVL:=Lib.hid (show w.heap.size≤V by have:=HX.out.sz;omega);have HV1:=Lib.hid bV;have HR1:=Lib.hid (HX.out.r.below hb1 HX.out.r.lt);have HC1:=Lib.hid (HX.out.c.below hb1 HX.out.c.lt);have HB1:=Lib.hid (bst HX.out.below hb1);clear hW1 hV bV hb1 c1 c2 c3 r0 r1 r2 rf0 rf1 rf2;have c1:W1.cell? ⟨w.heap.size,1,none⟩=some (.int .i64 2):=HC1.out.cell 1;have c2:W1.cell? ⟨w.heap.size,2,none⟩=some (.int .i64 k):=HC1.out.cell 2;have r0:W1.cell? ⟨w.heap.size+1,0,none⟩=some (.bool false):=HR1.out.cell 0;have r1:W1.cell? ⟨w.heap.size+1,1,none⟩=some (.int .i64 0):=HR1.out.cell 1;have r2:W1.cell? ⟨w.heap.size+1,2,none⟩=some (.string { data:=#[] }):=HR1.out.cell 2;have rf0:=HR1.out.frozen 0;have rf1:=HR1.out.frozen 1;have rf2:=HR1.out.frozen 2;have v0:W1.cell? ⟨V,0,none⟩=some (.bool false):=HV1.out.cell 0;have v1:W1.cell? ⟨V,1,none⟩=some (.int .i64 0):=HV1.out.cell 1;have v2:W1.cell? ⟨V,2,none⟩=some (.string { data:=#[] }):=HV1.out.cell 2;go_wp2;have b3:=blk3V (.bool false) (.int .i64 0) (.string { data:=#[] }) HR1.out;have q0:_=some (Value.bool false):=b3.cell 0;have q1:_=some (Value.int .i64 0):=b3.cell 1;have q2:_=some (Value.string { data:=#[] }):=b3.cell 2;exact bodyPost_ret (v:=.tuple #[.agg #[.bool false,.int .i64 0,.string { data:=#[] }],.int .i64 2]) (by simp[results,Tryz.results93,go_sem,q0,q1,q2]) rfl (RetVb.mk_ HO.out (below3V _ _ _ HB1.out HX.out.le))
set_option maxRecDepth 100000 in
set_option maxHeartbeats 1000000 in
theorem vp_t3 (k:Int) (sc:ByteArray) (cn:Bool) (s:ByteArray) (w:World) (hE:Env w) (hs:s.size≤140737488351232) (hn:s.toList≠[110,117,108,108]):Calls Tryz.prog 93 #[.agg #[.string sc,.int .i64 3,.int .i64 k,.bool cn],.string s] w (RetVb w (vparV 3 k cn s.data.toList)):=by
 have HO1:=Lib.hid (show vparV 3 k cn s.data.toList=vbyt s.data.toList from (vpar_rest (t:=3) (k:=k) (cn:=cn) (l:=s.data.toList) (by omega) (by rw[←Go.ByteArray.toList_eq];exact hn)).trans (by simp));have KN:=Lib.hid (fun X=>known_any 3 true (by decide) X);have qn:(s.toList == [110,117,108,108])=false:=by rw[beq_eq_false_iff_ne];exact hn
 have HE:=Lib.hid hE;clear hn hE;have HX:=Lib.hid (boxP_ok w sc 3 k cn);obtain ⟨W0,hW0⟩:∃ W,W=BoxP w sc 3 k cn:=⟨_,rfl⟩
 rw[←hW0]at HX;have HWE:=Lib.hid hW0;clear hW0;have c1:W0.cell? ⟨w.heap.size,1,none⟩=some (.int .i64 3):=HX.out.c.cell 1;have c2:W0.cell? ⟨w.heap.size,2,none⟩=some (.int .i64 k):=HX.out.c.cell 2;have c3:W0.cell? ⟨w.heap.size,3,none⟩=some (.bool cn):=HX.out.c.cell 3;have r0:W0.cell? ⟨w.heap.size+1,0,none⟩=some (.bool false):=HX.out.r.cell 0;have r1:W0.cell? ⟨w.heap.size+1,1,none⟩=some (.int .i64 0):=HX.out.r.cell 1;have r2:W0.cell? ⟨w.heap.size+1,2,none⟩=some (.string { data:=#[] }):=HX.out.r.cell 2;have rf0:=HX.out.r.frozen 0;have rf1:=HX.out.r.frozen 1;have rf2:=HX.out.r.frozen 2;obtain ⟨⟨ql,f⟩,hr⟩:∃ r,bytV s.data.toList=r:=⟨_,rfl⟩
 obtain ⟨S,hS⟩:∃ S:ByteArray,S.data.toList=ql:=⟨⟨ql.toArray⟩,by simp⟩
 have HO2:=Lib.hid (vbyt_eq hr);have HSL:=Lib.hid hS;have HZE:=Lib.hid (show f≠0→ql=[] from fun hf=>by
  have h:=hr;unfold bytV at h
  split at h
  ·injection h with h _;exact h.symm
  ·split at h
   ·injection h with h _;exact h.symm
   ·split at h
    ·injection h with h _;exact h.symm
    ·injection h with _ h;exact absurd h.symm hf)
 have CI:=Lib.hid (fun X=>rd_of (by rw[hr];exact hS) (by rw[hr]) (bytes_any s X hs));clear hr hS;by_cases hf:f=0
 ·subst hf;have HO:=Lib.hid (HO1.out.trans (HO2.out.trans (by rw[←HSL.out])));go_enter Tryz.func93,Tryz.ntmps93
  go_upto_region 1 with (fail)
  rw[show (w.alloc (.cells #[.string sc,.int .i64 3,.int .i64 k,.bool cn] 56)).alloc (.cells #[.bool false,.int .i64 0,.string { data:=#[] }] 64)=BoxP w sc 3 k cn from rfl,←HWE.out];go_wp2_with fail
  refine (KN.out _).mono ?_;rintro _ _ ⟨rfl,rfl⟩;go_upto_region 8 with (fail)
  have bV:=Blk.new W0 64 #[.bool false,.int .i64 0,.string { data:=#[] }];have hb1:=below_new W0 (.cells #[.bool false,.int .i64 0,.string { data:=#[] }] 64);obtain ⟨W1,hW1⟩:∃ W,W=W0.alloc (.cells #[.bool false,.int .i64 0,.string { data:=#[] }] 64):=⟨_,rfl⟩
  rw[←hW1]at bV hb1 ⊢;obtain ⟨V,hV⟩:∃ V,V=W0.heap.size:=⟨_,rfl⟩
  rw[←hV]at bV ⊢;have HVN:=Lib.hid (show w.heap.size+1≠V by have:=HX.out.sz;omega);have HVL:=Lib.hid (show w.heap.size≤V by have:=HX.out.sz;omega);have HV1:=Lib.hid bV;have HR1:=Lib.hid (HX.out.r.below hb1 HX.out.r.lt);have HC1:=Lib.hid (HX.out.c.below hb1 HX.out.c.lt);have HB1:=Lib.hid (bst HX.out.below hb1);clear hW1 hV bV hb1 c1 c2 c3 r0 r1 r2 rf0 rf1 rf2;have c1:W1.cell? ⟨w.heap.size,1,none⟩=some (.int .i64 3):=HC1.out.cell 1;have c2:W1.cell? ⟨w.heap.size,2,none⟩=some (.int .i64 k):=HC1.out.cell 2;go_wp2_with fail
  refine (CI.out _).mono ?_;rintro _ w2 ⟨rfl,hb2⟩;have HB2:=Lib.hid (bst HB1.out hb2);have HV2:=Lib.hid (HV1.out.below hb2 HV1.out.lt);have HR2:=Lib.hid (HR1.out.below hb2 HR1.out.lt);clear hb2 c1 c2;have vc:w2.cell? ⟨V,2,none⟩=some (.string { data:=#[] }):=HV2.out.cell 2;have vf:=HV2.out.frozen 2;go_upto_region 26 with (fail)
  have HV3:=Lib.hid (HV2.out.set_ 2 (.string S));have HR3:=Lib.hid (HR2.out.far (p:=⟨V,2,none⟩) HVN.out (.string S));have HB3:=Lib.hid (HB2.out.setCell (p:=⟨V,2,none⟩) HVL.out (.string S));obtain ⟨W3,hW3⟩:∃ W,W=w2.setCell ⟨V,2,none⟩ (.string S):=⟨_,rfl⟩
  rw[←hW3]at HV3 HR3 HB3 ⊢;clear hW3 vc vf;have r0:W3.cell? ⟨w.heap.size+1,0,none⟩=some (.bool false):=HR3.out.cell 0;have r1:W3.cell? ⟨w.heap.size+1,1,none⟩=some (.int .i64 0):=HR3.out.cell 1;have r2:W3.cell? ⟨w.heap.size+1,2,none⟩=some (.string { data:=#[] }):=HR3.out.cell 2;have rf0:=HR3.out.frozen 0;have rf1:=HR3.out.frozen 1;have rf2:=HR3.out.frozen 2;have v0:W3.cell? ⟨V,0,none⟩=some (.bool false):=HV3.out.cell 0;have v1:W3.cell? ⟨V,1,none⟩=some (.int .i64 0):=HV3.out.cell 1;have v2:W3.cell? ⟨V,2,none⟩=some (.string S):=HV3.out.cell 2;go_wp2;have b3:=blk3V (.bool false) (.int .i64 0) (.string S) HR3.out;have q0:_=some (Value.bool false):=b3.cell 0;have q1:_=some (Value.int .i64 0):=b3.cell 1;have q2:_=some (Value.string S):=b3.cell 2;exact bodyPost_ret (v:=.tuple #[.agg #[.bool false,.int .i64 0,.string S],.int .i64 0]) (by simp[results,Tryz.results93,go_sem,q0,q1,q2]) rfl (RetVb.mk_ HO.out (below3V _ _ _ HB3.out HX.out.le))
 ·have HO:=Lib.hid (HO1.out.trans (HO2.out.trans (by rw[HZE.out hf])));have qf:(f != 0)=true:=by simpa using hf
  clear hf;go_enter Tryz.func93,Tryz.ntmps93
  go_upto_region 1 with (fail)
  rw[show (w.alloc (.cells #[.string sc,.int .i64 3,.int .i64 k,.bool cn] 56)).alloc (.cells #[.bool false,.int .i64 0,.string { data:=#[] }] 64)=BoxP w sc 3 k cn from rfl,←HWE.out];go_wp2_with fail
  refine (KN.out _).mono ?_;rintro _ _ ⟨rfl,rfl⟩;go_upto_region 8 with (fail)
  have bV:=Blk.new W0 64 #[.bool false,.int .i64 0,.string { data:=#[] }];have hb1:=below_new W0 (.cells #[.bool false,.int .i64 0,.string { data:=#[] }] 64);obtain ⟨W1,hW1⟩:∃ W,W=W0.alloc (.cells #[.bool false,.int .i64 0,.string { data:=#[] }] 64):=⟨_,rfl⟩
  rw[←hW1]at bV hb1 ⊢;obtain ⟨V,hV⟩:∃ V,V=W0.heap.size:=⟨_,rfl⟩
  rw[←hV]at bV ⊢;have HVN:=Lib.hid (show w.heap.size+1≠V by have:=HX.out.sz;omega);have HVL:=Lib.hid (show w.heap.size≤V by have:=HX.out.sz;omega);have HV1:=Lib.hid bV;have HR1:=Lib.hid (HX.out.r.below hb1 HX.out.r.lt);have HC1:=Lib.hid (HX.out.c.below hb1 HX.out.c.lt);have HB1:=Lib.hid (bst HX.out.below hb1);clear hW1 hV bV hb1 c1 c2 c3 r0 r1 r2 rf0 rf1 rf2;have c1:W1.cell? ⟨w.heap.size,1,none⟩=some (.int .i64 3):=HC1.out.cell 1;have c2:W1.cell? ⟨w.heap.size,2,none⟩=some (.int .i64 k):=HC1.out.cell 2;go_wp2_with fail
  refine (CI.out _).mono ?_;rintro _ w2 ⟨rfl,hb2⟩;have HB2:=Lib.hid (bst HB1.out hb2);have HV2:=Lib.hid (HV1.out.below hb2 HV1.out.lt);have HR2:=Lib.hid (HR1.out.below hb2 HR1.out.lt);clear hb2 c1 c2;have vc:w2.cell? ⟨V,2,none⟩=some (.string { data:=#[] }):=HV2.out.cell 2;have vf:=HV2.out.frozen 2;go_upto_region 26 with (fail)
  have HV3:=Lib.hid (HV2.out.set_ 2 (.string S));have HR3:=Lib.hid (HR2.out.far (p:=⟨V,2,none⟩) HVN.out (.string S));have HB3:=Lib.hid (HB2.out.setCell (p:=⟨V,2,none⟩) HVL.out (.string S));obtain ⟨W3,hW3⟩:∃ W,W=w2.setCell ⟨V,2,none⟩ (.string S):=⟨_,rfl⟩
  rw[←hW3]at HV3 HR3 HB3 ⊢;clear hW3 vc vf;have r0:W3.cell? ⟨w.heap.size+1,0,none⟩=some (.bool false):=HR3.out.cell 0;have r1:W3.cell? ⟨w.heap.size+1,1,none⟩=some (.int .i64 0):=HR3.out.cell 1;have r2:W3.cell? ⟨w.heap.size+1,2,none⟩=some (.string { data:=#[] }):=HR3.out.cell 2;have rf0:=HR3.out.frozen 0;have rf1:=HR3.out.frozen 1;have rf2:=HR3.out.frozen 2;have v0:W3.cell? ⟨V,0,none⟩=some (.bool false):=HV3.out.cell 0;have v1:W3.cell? ⟨V,1,none⟩=some (.int .i64 0):=HV3.out.cell 1;have v2:W3.cell? ⟨V,2,none⟩=some (.string S):=HV3.out.cell 2;go_wp2;have b3:=blk3V (.bool false) (.int .i64 0) (.string { data:=#[] }) HR3.out;have q0:_=some (Value.bool false):=b3.cell 0;have q1:_=some (Value.int .i64 0):=b3.cell 1;have q2:_=some (Value.string { data:=#[] }):=b3.cell 2;exact bodyPost_ret (v:=.tuple #[.agg #[.bool false,.int .i64 0,.string { data:=#[] }],.int .i64 f]) (by simp[results,Tryz.results93,go_sem,q0,q1,q2]) rfl (RetVb.mk_ HO.out (below3V _ _ _ HB3.out HX.out.le))
set_option maxRecDepth 100000 in
set_option maxHeartbeats 1000000 in
theorem vp_t4 (k:Int) (sc:ByteArray) (cn:Bool) (s:ByteArray) (w:World) (hE:Env w) (hs:s.size≤140737488351232) (hn:s.toList≠[110,117,108,108]):Calls Tryz.prog 93 #[.agg #[.string sc,.int .i64 4,.int .i64 k,.bool cn],.string s] w (RetVb w (vparV 4 k cn s.data.toList)):=by
 have HO1:=Lib.hid (show vparV 4 k cn s.data.toList=outN (dparV s.data.toList) from (vpar_rest (t:=4) (k:=k) (cn:=cn) (l:=s.data.toList) (by omega) (by rw[←Go.ByteArray.toList_eq];exact hn)).trans (by simp));have KN:=Lib.hid (fun X=>known_any 4 true (by decide) X);have qn:(s.toList == [110,117,108,108])=false:=by rw[beq_eq_false_iff_ne];exact hn
 have HE:=Lib.hid hE;clear hn hE;have HX:=Lib.hid (boxP_ok w sc 4 k cn);obtain ⟨W0,hW0⟩:∃ W,W=BoxP w sc 4 k cn:=⟨_,rfl⟩
 rw[←hW0]at HX;have HWE:=Lib.hid hW0;clear hW0;have c1:W0.cell? ⟨w.heap.size,1,none⟩=some (.int .i64 4):=HX.out.c.cell 1;have c2:W0.cell? ⟨w.heap.size,2,none⟩=some (.int .i64 k):=HX.out.c.cell 2;have c3:W0.cell? ⟨w.heap.size,3,none⟩=some (.bool cn):=HX.out.c.cell 3;have r0:W0.cell? ⟨w.heap.size+1,0,none⟩=some (.bool false):=HX.out.r.cell 0;have r1:W0.cell? ⟨w.heap.size+1,1,none⟩=some (.int .i64 0):=HX.out.r.cell 1;have r2:W0.cell? ⟨w.heap.size+1,2,none⟩=some (.string { data:=#[] }):=HX.out.r.cell 2;have rf0:=HX.out.r.frozen 0;have rf1:=HX.out.r.frozen 1;have rf2:=HX.out.r.frozen 2;obtain ⟨⟨x,f⟩,hr⟩:∃ r,dparV s.data.toList=r:=⟨_,rfl⟩
 rw[hr]at HO1;have CI:=Lib.hid (fun X (h:Env X)=>rs_of hr (datepar_any s X (by omega)));clear hr;by_cases hf:f=0
 ·subst hf;have HO:=Lib.hid (HO1.out.trans (outN_ok x));go_enter Tryz.func93,Tryz.ntmps93
  go_upto_region 1 with (fail)
  rw[show (w.alloc (.cells #[.string sc,.int .i64 4,.int .i64 k,.bool cn] 56)).alloc (.cells #[.bool false,.int .i64 0,.string { data:=#[] }] 64)=BoxP w sc 4 k cn from rfl,←HWE.out];go_wp2_with fail
  refine (KN.out _).mono ?_;rintro _ _ ⟨rfl,rfl⟩;go_upto_region 8 with (fail)
  have bV:=Blk.new W0 64 #[.bool false,.int .i64 0,.string { data:=#[] }];have hb1:=below_new W0 (.cells #[.bool false,.int .i64 0,.string { data:=#[] }] 64);obtain ⟨W1,hW1⟩:∃ W,W=W0.alloc (.cells #[.bool false,.int .i64 0,.string { data:=#[] }] 64):=⟨_,rfl⟩
  rw[←hW1]at bV hb1 ⊢;obtain ⟨V,hV⟩:∃ V,V=W0.heap.size:=⟨_,rfl⟩
  rw[←hV]at bV ⊢;have HVN:=Lib.hid (show w.heap.size+1≠V by have:=HX.out.sz;omega);have HVL:=Lib.hid (show w.heap.size≤V by have:=HX.out.sz;omega);have HV1:=Lib.hid bV;have HR1:=Lib.hid (HX.out.r.below hb1 HX.out.r.lt);have HC1:=Lib.hid (HX.out.c.below hb1 HX.out.c.lt);have HB1:=Lib.hid (bst HX.out.below hb1);clear hW1 hV bV hb1 c1 c2 c3 r0 r1 r2 rf0 rf1 rf2;have c1:W1.cell? ⟨w.heap.size,1,none⟩=some (.int .i64 4):=HC1.out.cell 1;have c2:W1.cell? ⟨w.heap.size,2,none⟩=some (.int .i64 k):=HC1.out.cell 2;go_wp2_with fail
  refine (CI.out _ (HE.out.below HB1.out)).mono ?_;rintro _ w2 ⟨rfl,hb2⟩;have HB2:=Lib.hid (bst HB1.out hb2);have HV2:=Lib.hid (HV1.out.below hb2 HV1.out.lt);have HR2:=Lib.hid (HR1.out.below hb2 HR1.out.lt);clear hb2 c1 c2;have vc:w2.cell? ⟨V,1,none⟩=some (.int .i64 0):=HV2.out.cell 1;have vf:=HV2.out.frozen 1;go_upto_region 26 with (fail)
  have HV3:=Lib.hid (HV2.out.set_ 1 (.int .i64 x));have HR3:=Lib.hid (HR2.out.far (p:=⟨V,1,none⟩) HVN.out (.int .i64 x));have HB3:=Lib.hid (HB2.out.setCell (p:=⟨V,1,none⟩) HVL.out (.int .i64 x));obtain ⟨W3,hW3⟩:∃ W,W=w2.setCell ⟨V,1,none⟩ (.int .i64 x):=⟨_,rfl⟩
  rw[←hW3]at HV3 HR3 HB3 ⊢;clear hW3 vc vf;have r0:W3.cell? ⟨w.heap.size+1,0,none⟩=some (.bool false):=HR3.out.cell 0;have r1:W3.cell? ⟨w.heap.size+1,1,none⟩=some (.int .i64 0):=HR3.out.cell 1;have r2:W3.cell? ⟨w.heap.size+1,2,none⟩=some (.string { data:=#[] }):=HR3.out.cell 2;have rf0:=HR3.out.frozen 0;have rf1:=HR3.out.frozen 1;have rf2:=HR3.out.frozen 2;have v0:W3.cell? ⟨V,0,none⟩=some (.bool false):=HV3.out.cell 0;have v1:W3.cell? ⟨V,1,none⟩=some (.int .i64 x):=HV3.out.cell 1;have v2:W3.cell? ⟨V,2,none⟩=some (.string { data:=#[] }):=HV3.out.cell 2;go_wp2;have b3:=blk3V (.bool false) (.int .i64 x) (.string { data:=#[] }) HR3.out;have q0:_=some (Value.bool false):=b3.cell 0;have q1:_=some (Value.int .i64 x):=b3.cell 1;have q2:_=some (Value.string { data:=#[] }):=b3.cell 2;exact bodyPost_ret (v:=.tuple #[.agg #[.bool false,.int .i64 x,.string { data:=#[] }],.int .i64 0]) (by simp[results,Tryz.results93,go_sem,q0,q1,q2]) rfl (RetVb.mk_ HO.out (below3V _ _ _ HB3.out HX.out.le))
 ·have HO:=Lib.hid (HO1.out.trans (outN_err hf));have qf:(f != 0)=true:=by simpa using hf
  clear hf;go_enter Tryz.func93,Tryz.ntmps93
  go_upto_region 1 with (fail)
  rw[show (w.alloc (.cells #[.string sc,.int .i64 4,.int .i64 k,.bool cn] 56)).alloc (.cells #[.bool false,.int .i64 0,.string { data:=#[] }] 64)=BoxP w sc 4 k cn from rfl,←HWE.out];go_wp2_with fail
  refine (KN.out _).mono ?_;rintro _ _ ⟨rfl,rfl⟩;go_upto_region 8 with (fail)
  have bV:=Blk.new W0 64 #[.bool false,.int .i64 0,.string { data:=#[] }];have hb1:=below_new W0 (.cells #[.bool false,.int .i64 0,.string { data:=#[] }] 64);obtain ⟨W1,hW1⟩:∃ W,W=W0.alloc (.cells #[.bool false,.int .i64 0,.string { data:=#[] }] 64):=⟨_,rfl⟩
  rw[←hW1]at bV hb1 ⊢;obtain ⟨V,hV⟩:∃ V,V=W0.heap.size:=⟨_,rfl⟩
  rw[←hV]at bV ⊢;have HVN:=Lib.hid (show w.heap.size+1≠V by have:=HX.out.sz;omega);have HVL:=Lib.hid (show w.heap.size≤V by have:=HX.out.sz;omega);have HV1:=Lib.hid bV;have HR1:=Lib.hid (HX.out.r.below hb1 HX.out.r.lt);have HC1:=Lib.hid (HX.out.c.below hb1 HX.out.c.lt);have HB1:=Lib.hid (bst HX.out.below hb1);clear hW1 hV bV hb1 c1 c2 c3 r0 r1 r2 rf0 rf1 rf2;have c1:W1.cell? ⟨w.heap.size,1,none⟩=some (.int .i64 4):=HC1.out.cell 1;have c2:W1.cell? ⟨w.heap.size,2,none⟩=some (.int .i64 k):=HC1.out.cell 2;go_wp2_with fail
  refine (CI.out _ (HE.out.below HB1.out)).mono ?_;rintro _ w2 ⟨rfl,hb2⟩;have HB2:=Lib.hid (bst HB1.out hb2);have HV2:=Lib.hid (HV1.out.below hb2 HV1.out.lt);have HR2:=Lib.hid (HR1.out.below hb2 HR1.out.lt);clear hb2 c1 c2;have vc:w2.cell? ⟨V,1,none⟩=some (.int .i64 0):=HV2.out.cell 1;have vf:=HV2.out.frozen 1;go_upto_region 26 with (fail)
  have HV3:=Lib.hid (HV2.out.set_ 1 (.int .i64 x));have HR3:=Lib.hid (HR2.out.far (p:=⟨V,1,none⟩) HVN.out (.int .i64 x));have HB3:=Lib.hid (HB2.out.setCell (p:=⟨V,1,none⟩) HVL.out (.int .i64 x));obtain ⟨W3,hW3⟩:∃ W,W=w2.setCell ⟨V,1,none⟩ (.int .i64 x):=⟨_,rfl⟩
  rw[←hW3]at HV3 HR3 HB3 ⊢;clear hW3 vc vf;have r0:W3.cell? ⟨w.heap.size+1,0,none⟩=some (.bool false):=HR3.out.cell 0;have r1:W3.cell? ⟨w.heap.size+1,1,none⟩=some (.int .i64 0):=HR3.out.cell 1;have r2:W3.cell? ⟨w.heap.size+1,2,none⟩=some (.string { data:=#[] }):=HR3.out.cell 2;have rf0:=HR3.out.frozen 0;have rf1:=HR3.out.frozen 1;have rf2:=HR3.out.frozen 2;have v0:W3.cell? ⟨V,0,none⟩=some (.bool false):=HV3.out.cell 0;have v1:W3.cell? ⟨V,1,none⟩=some (.int .i64 x):=HV3.out.cell 1;have v2:W3.cell? ⟨V,2,none⟩=some (.string { data:=#[] }):=HV3.out.cell 2;go_wp2;have b3:=blk3V (.bool false) (.int .i64 0) (.string { data:=#[] }) HR3.out;have q0:_=some (Value.bool false):=b3.cell 0;have q1:_=some (Value.int .i64 0):=b3.cell 1;have q2:_=some (Value.string { data:=#[] }):=b3.cell 2;exact bodyPost_ret (v:=.tuple #[.agg #[.bool false,.int .i64 0,.string { data:=#[] }],.int .i64 f]) (by simp[results,Tryz.results93,go_sem,q0,q1,q2]) rfl (RetVb.mk_ HO.out (below3V _ _ _ HB3.out HX.out.le))
set_option maxRecDepth 100000 in
set_option maxHeartbeats 1000000 in
theorem vp_t5 (k:Int) (h0:0≤k) (h1:k≤18) (sc:ByteArray) (cn:Bool) (s:ByteArray) (w:World) (hE:Env w) (hs:s.size≤140737488351232) (hn:s.toList≠[110,117,108,108]):Calls Tryz.prog 93 #[.agg #[.string sc,.int .i64 5,.int .i64 k,.bool cn],.string s] w (RetVb w (vparV 5 k cn s.data.toList)):=by
 have HO1:=Lib.hid (show vparV 5 k cn s.data.toList=outN (decP s.data.toList k) from (vpar_rest (t:=5) (k:=k) (cn:=cn) (l:=s.data.toList) (by unfold scaB;simp;omega) (by rw[←Go.ByteArray.toList_eq];exact hn)).trans (by simp));have KN:=Lib.hid (fun X=>known_any 5 true (by decide) X);have qn:(s.toList == [110,117,108,108])=false:=by rw[beq_eq_false_iff_ne];exact hn
 have HE:=Lib.hid hE;clear hn hE;have g0:¬k<0:=by omega
 have g1:¬18<k:=by omega
 have HX:=Lib.hid (boxP_ok w sc 5 k cn);obtain ⟨W0,hW0⟩:∃ W,W=BoxP w sc 5 k cn:=⟨_,rfl⟩
 rw[←hW0]at HX;have HWE:=Lib.hid hW0;clear hW0;have c1:W0.cell? ⟨w.heap.size,1,none⟩=some (.int .i64 5):=HX.out.c.cell 1;have c2:W0.cell? ⟨w.heap.size,2,none⟩=some (.int .i64 k):=HX.out.c.cell 2;have c3:W0.cell? ⟨w.heap.size,3,none⟩=some (.bool cn):=HX.out.c.cell 3;have r0:W0.cell? ⟨w.heap.size+1,0,none⟩=some (.bool false):=HX.out.r.cell 0;have r1:W0.cell? ⟨w.heap.size+1,1,none⟩=some (.int .i64 0):=HX.out.r.cell 1;have r2:W0.cell? ⟨w.heap.size+1,2,none⟩=some (.string { data:=#[] }):=HX.out.r.cell 2;have rf0:=HX.out.r.frozen 0;have rf1:=HX.out.r.frozen 1;have rf2:=HX.out.r.frozen 2;obtain ⟨⟨x,f⟩,hr⟩:∃ r,decP s.data.toList k=r:=⟨_,rfl⟩
 rw[hr]at HO1;have CI:=Lib.hid (fun X (h:Env X)=>rb_of hr (decpar_any s k X h hs));clear hr;by_cases hf:f=0
 ·subst hf;have HO:=Lib.hid (HO1.out.trans (outN_ok x));go_enter Tryz.func93,Tryz.ntmps93
  go_upto_region 1 with (fail)
  rw[show (w.alloc (.cells #[.string sc,.int .i64 5,.int .i64 k,.bool cn] 56)).alloc (.cells #[.bool false,.int .i64 0,.string { data:=#[] }] 64)=BoxP w sc 5 k cn from rfl,←HWE.out];go_wp2_with fail
  refine (KN.out _).mono ?_;rintro _ _ ⟨rfl,rfl⟩;go_upto_region 8 with (fail)
  have bV:=Blk.new W0 64 #[.bool false,.int .i64 0,.string { data:=#[] }];have hb1:=below_new W0 (.cells #[.bool false,.int .i64 0,.string { data:=#[] }] 64);obtain ⟨W1,hW1⟩:∃ W,W=W0.alloc (.cells #[.bool false,.int .i64 0,.string { data:=#[] }] 64):=⟨_,rfl⟩
  rw[←hW1]at bV hb1 ⊢;obtain ⟨V,hV⟩:∃ V,V=W0.heap.size:=⟨_,rfl⟩
  rw[←hV]at bV ⊢;have HVN:=Lib.hid (show w.heap.size+1≠V by have:=HX.out.sz;omega);have HVL:=Lib.hid (show w.heap.size≤V by have:=HX.out.sz;omega);have HV1:=Lib.hid bV;have HR1:=Lib.hid (HX.out.r.below hb1 HX.out.r.lt);have HC1:=Lib.hid (HX.out.c.below hb1 HX.out.c.lt);have HB1:=Lib.hid (bst HX.out.below hb1);clear hW1 hV bV hb1 c1 c2 c3 r0 r1 r2 rf0 rf1 rf2;have c1:W1.cell? ⟨w.heap.size,1,none⟩=some (.int .i64 5):=HC1.out.cell 1;have c2:W1.cell? ⟨w.heap.size,2,none⟩=some (.int .i64 k):=HC1.out.cell 2;go_wp2_with fail
  refine (CI.out _ (HE.out.below HB1.out)).mono ?_;rintro _ w2 ⟨rfl,hb2⟩;have HB2:=Lib.hid (bst HB1.out hb2);have HV2:=Lib.hid (HV1.out.below hb2 HV1.out.lt);have HR2:=Lib.hid (HR1.out.below hb2 HR1.out.lt);clear hb2 c1 c2;have vc:w2.cell? ⟨V,1,none⟩=some (.int .i64 0):=HV2.out.cell 1;have vf:=HV2.out.frozen 1;go_upto_region 26 with (fail)
  have HV3:=Lib.hid (HV2.out.set_ 1 (.int .i64 x));have HR3:=Lib.hid (HR2.out.far (p:=⟨V,1,none⟩) HVN.out (.int .i64 x));have HB3:=Lib.hid (HB2.out.setCell (p:=⟨V,1,none⟩) HVL.out (.int .i64 x));obtain ⟨W3,hW3⟩:∃ W,W=w2.setCell ⟨V,1,none⟩ (.int .i64 x):=⟨_,rfl⟩
  rw[←hW3]at HV3 HR3 HB3 ⊢;clear hW3 vc vf;have r0:W3.cell? ⟨w.heap.size+1,0,none⟩=some (.bool false):=HR3.out.cell 0;have r1:W3.cell? ⟨w.heap.size+1,1,none⟩=some (.int .i64 0):=HR3.out.cell 1;have r2:W3.cell? ⟨w.heap.size+1,2,none⟩=some (.string { data:=#[] }):=HR3.out.cell 2;have rf0:=HR3.out.frozen 0;have rf1:=HR3.out.frozen 1;have rf2:=HR3.out.frozen 2;have v0:W3.cell? ⟨V,0,none⟩=some (.bool false):=HV3.out.cell 0;have v1:W3.cell? ⟨V,1,none⟩=some (.int .i64 x):=HV3.out.cell 1;have v2:W3.cell? ⟨V,2,none⟩=some (.string { data:=#[] }):=HV3.out.cell 2;go_wp2;have b3:=blk3V (.bool false) (.int .i64 x) (.string { data:=#[] }) HR3.out;have q0:_=some (Value.bool false):=b3.cell 0;have q1:_=some (Value.int .i64 x):=b3.cell 1;have q2:_=some (Value.string { data:=#[] }):=b3.cell 2;exact bodyPost_ret (v:=.tuple #[.agg #[.bool false,.int .i64 x,.string { data:=#[] }],.int .i64 0]) (by simp[results,Tryz.results93,go_sem,q0,q1,q2]) rfl (RetVb.mk_ HO.out (below3V _ _ _ HB3.out HX.out.le))
 ·have HO:=Lib.hid (HO1.out.trans (outN_err hf));have qf:(f != 0)=true:=by simpa using hf
  clear hf;go_enter Tryz.func93,Tryz.ntmps93
  go_upto_region 1 with (fail)
  rw[show (w.alloc (.cells #[.string sc,.int .i64 5,.int .i64 k,.bool cn] 56)).alloc (.cells #[.bool false,.int .i64 0,.string { data:=#[] }] 64)=BoxP w sc 5 k cn from rfl,←HWE.out];go_wp2_with fail
  refine (KN.out _).mono ?_;rintro _ _ ⟨rfl,rfl⟩;go_upto_region 8 with (fail)
  have bV:=Blk.new W0 64 #[.bool false,.int .i64 0,.string { data:=#[] }];have hb1:=below_new W0 (.cells #[.bool false,.int .i64 0,.string { data:=#[] }] 64);obtain ⟨W1,hW1⟩:∃ W,W=W0.alloc (.cells #[.bool false,.int .i64 0,.string { data:=#[] }] 64):=⟨_,rfl⟩
  rw[←hW1]at bV hb1 ⊢;obtain ⟨V,hV⟩:∃ V,V=W0.heap.size:=⟨_,rfl⟩
  rw[←hV]at bV ⊢;have HVN:=Lib.hid (show w.heap.size+1≠V by have:=HX.out.sz;omega);have HVL:=Lib.hid (show w.heap.size≤V by have:=HX.out.sz;omega);have HV1:=Lib.hid bV;have HR1:=Lib.hid (HX.out.r.below hb1 HX.out.r.lt);have HC1:=Lib.hid (HX.out.c.below hb1 HX.out.c.lt);have HB1:=Lib.hid (bst HX.out.below hb1);clear hW1 hV bV hb1 c1 c2 c3 r0 r1 r2 rf0 rf1 rf2;have c1:W1.cell? ⟨w.heap.size,1,none⟩=some (.int .i64 5):=HC1.out.cell 1;have c2:W1.cell? ⟨w.heap.size,2,none⟩=some (.int .i64 k):=HC1.out.cell 2;go_wp2_with fail
  refine (CI.out _ (HE.out.below HB1.out)).mono ?_;rintro _ w2 ⟨rfl,hb2⟩;have HB2:=Lib.hid (bst HB1.out hb2);have HV2:=Lib.hid (HV1.out.below hb2 HV1.out.lt);have HR2:=Lib.hid (HR1.out.below hb2 HR1.out.lt);clear hb2 c1 c2;have vc:w2.cell? ⟨V,1,none⟩=some (.int .i64 0):=HV2.out.cell 1;have vf:=HV2.out.frozen 1;go_upto_region 26 with (fail)
  have HV3:=Lib.hid (HV2.out.set_ 1 (.int .i64 x));have HR3:=Lib.hid (HR2.out.far (p:=⟨V,1,none⟩) HVN.out (.int .i64 x));have HB3:=Lib.hid (HB2.out.setCell (p:=⟨V,1,none⟩) HVL.out (.int .i64 x));obtain ⟨W3,hW3⟩:∃ W,W=w2.setCell ⟨V,1,none⟩ (.int .i64 x):=⟨_,rfl⟩
  rw[←hW3]at HV3 HR3 HB3 ⊢;clear hW3 vc vf;have r0:W3.cell? ⟨w.heap.size+1,0,none⟩=some (.bool false):=HR3.out.cell 0;have r1:W3.cell? ⟨w.heap.size+1,1,none⟩=some (.int .i64 0):=HR3.out.cell 1;have r2:W3.cell? ⟨w.heap.size+1,2,none⟩=some (.string { data:=#[] }):=HR3.out.cell 2;have rf0:=HR3.out.frozen 0;have rf1:=HR3.out.frozen 1;have rf2:=HR3.out.frozen 2;have v0:W3.cell? ⟨V,0,none⟩=some (.bool false):=HV3.out.cell 0;have v1:W3.cell? ⟨V,1,none⟩=some (.int .i64 x):=HV3.out.cell 1;have v2:W3.cell? ⟨V,2,none⟩=some (.string { data:=#[] }):=HV3.out.cell 2;go_wp2;have b3:=blk3V (.bool false) (.int .i64 0) (.string { data:=#[] }) HR3.out;have q0:_=some (Value.bool false):=b3.cell 0;have q1:_=some (Value.int .i64 0):=b3.cell 1;have q2:_=some (Value.string { data:=#[] }):=b3.cell 2;exact bodyPost_ret (v:=.tuple #[.agg #[.bool false,.int .i64 0,.string { data:=#[] }],.int .i64 f]) (by simp[results,Tryz.results93,go_sem,q0,q1,q2]) rfl (RetVb.mk_ HO.out (below3V _ _ _ HB3.out HX.out.le))
theorem vpar_any (sc:ByteArray) (t k:Int) (cn:Bool) (s:ByteArray) (w:World) (hE:Env w) (hs:s.size≤140737488351232):Calls Tryz.prog 93 #[.agg #[.string sc,.int .i64 t,.int .i64 k,.bool cn],.string s] w (RetVb w (vparV t k cn s.data.toList)):=by
 by_cases h:t<1∨5<t
 ·exact vp_type t k h sc cn s w
 have h5:t=1∨t=2∨t=3∨t=4∨t=5:=by omega
 by_cases hn:s.toList=[110,117,108,108]
 ·rcases h5 with rfl | rfl | rfl | rfl | rfl
  ·exact vp_null1 k sc cn s w hn
  ·exact vp_null2 k sc cn s w hn
  ·exact vp_null3 k sc cn s w hn
  ·exact vp_null4 k sc cn s w hn
  ·by_cases hk:k<0∨18<k
   ·exact vp_scale k hk sc cn s w
   ·exact vp_null5 k (by omega) (by omega) sc cn s w hn
 ·rcases h5 with rfl | rfl | rfl | rfl | rfl
  ·exact vp_t1 k sc cn s w hE hs hn
  ·exact vp_t2 k sc cn s w hE hs hn
  ·exact vp_t3 k sc cn s w hE hs hn
  ·exact vp_t4 k sc cn s w hE hs hn
  ·by_cases hk:k<0∨18<k
   ·exact vp_scale k hk sc cn s w
   ·exact vp_t5 k (by omega) (by omega) sc cn s w hE hs hn
end Go.Proofs.YtjnamjkdjcndiaaGreatDoor
