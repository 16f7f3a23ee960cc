/-
 The contract of ref6.Parse.
-/
import Derived.Test.YtjnamjkdjcndiaaGreatDoorVPar
import Derived.Test.YtjnamjkdjcndiaaGreatDoorRDate
import Derived.Test.YtjnamjkdjcndiaaGreatDoorM10
namespace Go.Proofs.YtjnamjkdjcndiaaGreatDoor
open Go.RowKit Go.Sort
set_option linter.unusedVariables false
theorem vb_of {w:World} {r:(Bool×Int×List UInt8)×Int} {S:ByteArray} {f:Int} (h:r=((false,0,S.data.toList),f)) {P:Program} {g:FuncId} {args:Array Value} (hc:Calls P g args w (RetVb w r)):Calls P g args w fun e w'=>e=.returned (.tuple #[.agg #[.bool false,.int .i64 0,.string S],.int .i64 f])∧Below w.heap.size w w':=by
 subst h;exact hc
set_option maxRecDepth 100000 in
set_option maxHeartbeats 1000000 in
theorem rvp_type (t k:Int) (h:t<1∨5<t) (sc:ByteArray) (cn:Bool) (s:ByteArray) (w:World):Calls Tryz.prog 124 #[.agg #[.string sc,.int .i64 t,.int .i64 k,.bool cn],.string s] w (RetVb w (vparV t k cn s.data.toList)):=by
 have HO:=Lib.hid (vpar_bad (k:=k) (cn:=cn) (l:=s.data.toList) (.inl h));have KN:=Lib.hid (fun X=>typed_any t false (by symm;rw[decide_eq_false_iff_not];omega) X);have HX:=Lib.hid (boxP_ok w sc t k cn);obtain ⟨W0,hW0⟩:∃ W,W=BoxP w sc t k cn:=⟨_,rfl⟩
 rw[←hW0]at HX;have HWE:=Lib.hid hW0;clear hW0;have c1:W0.cell? ⟨w.heap.size,1,none⟩=some (.int .i64 t):=HX.out.c.cell 1;have c2:W0.cell? ⟨w.heap.size,2,none⟩=some (.int .i64 k):=HX.out.c.cell 2;have c3:W0.cell? ⟨w.heap.size,3,none⟩=some (.bool cn):=HX.out.c.cell 3;have r0:W0.cell? ⟨w.heap.size+1,0,none⟩=some (.bool false):=HX.out.r.cell 0;have r1:W0.cell? ⟨w.heap.size+1,1,none⟩=some (.int .i64 0):=HX.out.r.cell 1;have r2:W0.cell? ⟨w.heap.size+1,2,none⟩=some (.string { data:=#[] }):=HX.out.r.cell 2;have rf0:=HX.out.r.frozen 0;have rf1:=HX.out.r.frozen 1;have rf2:=HX.out.r.frozen 2;go_enter Tryz.func124,Tryz.ntmps124
 go_upto_region 1 with (fail)
 rw[show (w.alloc (.cells #[.string sc,.int .i64 t,.int .i64 k,.bool cn] 56)).alloc (.cells #[.bool false,.int .i64 0,.string { data:=#[] }] 64)=BoxP w sc t k cn from rfl,←HWE.out];go_wp2_with fail
 refine (KN.out _).mono ?_;rintro _ _ ⟨rfl,rfl⟩;go_wp2;have b3:=blk3V (.bool false) (.int .i64 0) (.string { data:=#[] }) HX.out.r;have q0:_=some (Value.bool false):=b3.cell 0;have q1:_=some (Value.int .i64 0):=b3.cell 1;have q2:_=some (Value.string { data:=#[] }):=b3.cell 2;exact bodyPost_ret (v:=.tuple #[.agg #[.bool false,.int .i64 0,.string { data:=#[] }],.int .i64 1]) (by simp[results,Tryz.results124,go_sem,q0,q1,q2]) rfl (RetVb.mk_ HO.out (below3V _ _ _ HX.out.below HX.out.le))
set_option maxRecDepth 100000 in
set_option maxHeartbeats 1000000 in
theorem rvp_scale (k:Int) (h:k<0∨18<k) (sc:ByteArray) (cn:Bool) (s:ByteArray) (w:World):Calls Tryz.prog 124 #[.agg #[.string sc,.int .i64 5,.int .i64 k,.bool cn],.string s] w (RetVb w (vparV 5 k cn s.data.toList)):=by
 have HO:=Lib.hid (vpar_bad (t:=5) (k:=k) (cn:=cn) (l:=s.data.toList) (.inr ⟨rfl,by unfold scaB;simp;omega⟩));have KN:=Lib.hid (fun X=>typed_any 5 true (by decide) X);have h2:k<0∨(¬k<0∧18<k):=by omega
 clear h;have HX:=Lib.hid (boxP_ok w sc 5 k cn);obtain ⟨W0,hW0⟩:∃ W,W=BoxP w sc 5 k cn:=⟨_,rfl⟩
 rw[←hW0]at HX;have HWE:=Lib.hid hW0;clear hW0;have c1:W0.cell? ⟨w.heap.size,1,none⟩=some (.int .i64 5):=HX.out.c.cell 1;have c2:W0.cell? ⟨w.heap.size,2,none⟩=some (.int .i64 k):=HX.out.c.cell 2;have c3:W0.cell? ⟨w.heap.size,3,none⟩=some (.bool cn):=HX.out.c.cell 3;have r0:W0.cell? ⟨w.heap.size+1,0,none⟩=some (.bool false):=HX.out.r.cell 0;have r1:W0.cell? ⟨w.heap.size+1,1,none⟩=some (.int .i64 0):=HX.out.r.cell 1;have r2:W0.cell? ⟨w.heap.size+1,2,none⟩=some (.string { data:=#[] }):=HX.out.r.cell 2;have rf0:=HX.out.r.frozen 0;have rf1:=HX.out.r.frozen 1;have rf2:=HX.out.r.frozen 2;rcases h2 with h|⟨h,h'⟩
 all_goals
  go_enter Tryz.func124,Tryz.ntmps124
  go_upto_region 1 with (fail)
  rw[show (w.alloc (.cells #[.string sc,.int .i64 5,.int .i64 k,.bool cn] 56)).alloc (.cells #[.bool false,.int .i64 0,.string { data:=#[] }] 64)=BoxP w sc 5 k cn from rfl,←HWE.out];go_wp2_with fail
  refine (KN.out _).mono ?_;rintro _ _ ⟨rfl,rfl⟩;go_wp2;have b3:=blk3V (.bool false) (.int .i64 0) (.string { data:=#[] }) HX.out.r;have q0:_=some (Value.bool false):=b3.cell 0;have q1:_=some (Value.int .i64 0):=b3.cell 1;have q2:_=some (Value.string { data:=#[] }):=b3.cell 2;exact bodyPost_ret (v:=.tuple #[.agg #[.bool false,.int .i64 0,.string { data:=#[] }],.int .i64 1]) (by simp[results,Tryz.results124,go_sem,q0,q1,q2]) rfl (RetVb.mk_ HO.out (below3V _ _ _ HX.out.below HX.out.le))
set_option maxRecDepth 100000 in
set_option maxHeartbeats 1000000 in
theorem rvp_null1 (k:Int) (sc:ByteArray) (cn:Bool) (s:ByteArray) (w:World) (hn:s.toList=[110,117,108,108]):Calls Tryz.prog 124 #[.agg #[.string sc,.int .i64 1,.int .i64 k,.bool cn],.string s] w (RetVb w (vparV 1 k cn s.data.toList)):=by
 have HO1:=Lib.hid (vpar_null (t:=1) (k:=k) (cn:=cn) (l:=s.data.toList) (by omega) (by rw[←Go.ByteArray.toList_eq];exact hn));have KN:=Lib.hid (fun X=>typed_any 1 true (by decide) X);have qn:(s.toList == [110,117,108,108])=true:=by rw[hn];rfl
 clear hn;have HX:=Lib.hid (boxP_ok w sc 1 k cn);obtain ⟨W0,hW0⟩:∃ W,W=BoxP w sc 1 k cn:=⟨_,rfl⟩
 rw[←hW0]at HX;have HWE:=Lib.hid hW0;clear hW0;have c1:W0.cell? ⟨w.heap.size,1,none⟩=some (.int .i64 1):=HX.out.c.cell 1;have c2:W0.cell? ⟨w.heap.size,2,none⟩=some (.int .i64 k):=HX.out.c.cell 2;have c3:W0.cell? ⟨w.heap.size,3,none⟩=some (.bool cn):=HX.out.c.cell 3;have r0:W0.cell? ⟨w.heap.size+1,0,none⟩=some (.bool false):=HX.out.r.cell 0;have r1:W0.cell? ⟨w.heap.size+1,1,none⟩=some (.int .i64 0):=HX.out.r.cell 1;have r2:W0.cell? ⟨w.heap.size+1,2,none⟩=some (.string { data:=#[] }):=HX.out.r.cell 2;have rf0:=HX.out.r.frozen 0;have rf1:=HX.out.r.frozen 1;have rf2:=HX.out.r.frozen 2;cases cn with
 | true =>
  have HO:=Lib.hid (HO1.out.trans (if_pos rfl));go_enter Tryz.func124,Tryz.ntmps124
  go_upto_region 1 with (fail)
  rw[show (w.alloc (.cells #[.string sc,.int .i64 1,.int .i64 k,.bool true] 56)).alloc (.cells #[.bool false,.int .i64 0,.string { data:=#[] }] 64)=BoxP w sc 1 k true from rfl,←HWE.out];go_wp2_with fail
  refine (KN.out _).mono ?_;rintro _ _ ⟨rfl,rfl⟩;go_wp2;have b3:=blk3V (.bool true) (.int .i64 0) (.string { data:=#[] }) HX.out.r;have q0:_=some (Value.bool true):=b3.cell 0;have q1:_=some (Value.int .i64 0):=b3.cell 1;have q2:_=some (Value.string { data:=#[] }):=b3.cell 2;exact bodyPost_ret (v:=.tuple #[.agg #[.bool true,.int .i64 0,.string { data:=#[] }],.int .i64 0]) (by simp[results,Tryz.results124,go_sem,q0,q1,q2]) rfl (RetVb.mk_ HO.out (below3V _ _ _ HX.out.below HX.out.le))
 | false =>
  have HO:=Lib.hid (HO1.out.trans (if_neg (by decide)));go_enter Tryz.func124,Tryz.ntmps124
  go_upto_region 1 with (fail)
  rw[show (w.alloc (.cells #[.string sc,.int .i64 1,.int .i64 k,.bool false] 56)).alloc (.cells #[.bool false,.int .i64 0,.string { data:=#[] }] 64)=BoxP w sc 1 k false from rfl,←HWE.out];go_wp2_with fail
  refine (KN.out _).mono ?_;rintro _ _ ⟨rfl,rfl⟩;go_wp2;have b3:=blk3V (.bool false) (.int .i64 0) (.string { data:=#[] }) HX.out.r;have q0:_=some (Value.bool false):=b3.cell 0;have q1:_=some (Value.int .i64 0):=b3.cell 1;have q2:_=some (Value.string { data:=#[] }):=b3.cell 2;exact bodyPost_ret (v:=.tuple #[.agg #[.bool false,.int .i64 0,.string { data:=#[] }],.int .i64 12]) (by simp[results,Tryz.results124,go_sem,q0,q1,q2]) rfl (RetVb.mk_ HO.out (below3V _ _ _ HX.out.below HX.out.le))
set_option maxRecDepth 100000 in
set_option maxHeartbeats 1000000 in
theorem rvp_null2 (k:Int) (sc:ByteArray) (cn:Bool) (s:ByteArray) (w:World) (hn:s.toList=[110,117,108,108]):Calls Tryz.prog 124 #[.agg #[.string sc,.int .i64 2,.int .i64 k,.bool cn],.string s] w (RetVb w (vparV 2 k cn s.data.toList)):=by
 have HO1:=Lib.hid (vpar_null (t:=2) (k:=k) (cn:=cn) (l:=s.data.toList) (by omega) (by rw[←Go.ByteArray.toList_eq];exact hn));have KN:=Lib.hid (fun X=>typed_any 2 true (by decide) X);have qn:(s.toList == [110,117,108,108])=true:=by rw[hn];rfl
 clear hn;have HX:=Lib.hid (boxP_ok w sc 2 k cn);obtain ⟨W0,hW0⟩:∃ W,W=BoxP w sc 2 k cn:=⟨_,rfl⟩
 rw[←hW0]at HX;have HWE:=Lib.hid hW0;clear hW0;have c1:W0.cell? ⟨w.heap.size,1,none⟩=some (.int .i64 2):=HX.out.c.cell 1;have c2:W0.cell? ⟨w.heap.size,2,none⟩=some (.int .i64 k):=HX.out.c.cell 2;have c3:W0.cell? ⟨w.heap.size,3,none⟩=some (.bool cn):=HX.out.c.cell 3;have r0:W0.cell? ⟨w.heap.size+1,0,none⟩=some (.bool false):=HX.out.r.cell 0;have r1:W0.cell? ⟨w.heap.size+1,1,none⟩=some (.int .i64 0):=HX.out.r.cell 1;have r2:W0.cell? ⟨w.heap.size+1,2,none⟩=some (.string { data:=#[] }):=HX.out.r.cell 2;have rf0:=HX.out.r.frozen 0;have rf1:=HX.out.r.frozen 1;have rf2:=HX.out.r.frozen 2;cases cn with
 | true =>
  have HO:=Lib.hid (HO1.out.trans (if_pos rfl));go_enter Tryz.func124,Tryz.ntmps124
  go_upto_region 1 with (fail)
  rw[show (w.alloc (.cells #[.string sc,.int .i64 2,.int .i64 k,.bool true] 56)).alloc (.cells #[.bool false,.int .i64 0,.string { data:=#[] }] 64)=BoxP w sc 2 k true from rfl,←HWE.out];go_wp2_with fail
  refine (KN.out _).mono ?_;rintro _ _ ⟨rfl,rfl⟩;go_wp2;have b3:=blk3V (.bool true) (.int .i64 0) (.string { data:=#[] }) HX.out.r;have q0:_=some (Value.bool true):=b3.cell 0;have q1:_=some (Value.int .i64 0):=b3.cell 1;have q2:_=some (Value.string { data:=#[] }):=b3.cell 2;exact bodyPost_ret (v:=.tuple #[.agg #[.bool true,.int .i64 0,.string { data:=#[] }],.int .i64 0]) (by simp[results,Tryz.results124,go_sem,q0,q1,q2]) rfl (RetVb.mk_ HO.out (below3V _ _ _ HX.out.below HX.out.le))
 | false =>
  have HO:=Lib.hid (HO1.out.trans (if_neg (by decide)));go_enter Tryz.func124,Tryz.ntmps124
  go_upto_region 1 with (fail)
  rw[show (w.alloc (.cells #[.string sc,.int .i64 2,.int .i64 k,.bool false] 56)).alloc (.cells #[.bool false,.int .i64 0,.string { data:=#[] }] 64)=BoxP w sc 2 k false from rfl,←HWE.out];go_wp2_with fail
  refine (KN.out _).mono ?_;rintro _ _ ⟨rfl,rfl⟩;go_wp2;have b3:=blk3V (.bool false) (.int .i64 0) (.string { data:=#[] }) HX.out.r;have q0:_=some (Value.bool false):=b3.cell 0;have q1:_=some (Value.int .i64 0):=b3.cell 1;have q2:_=some (Value.string { data:=#[] }):=b3.cell 2;exact bodyPost_ret (v:=.tuple #[.agg #[.bool false,.int .i64 0,.string { data:=#[] }],.int .i64 12]) (by simp[results,Tryz.results124,go_sem,q0,q1,q2]) rfl (RetVb.mk_ HO.out (below3V _ _ _ HX.out.below HX.out.le))
set_option maxRecDepth 100000 in
set_option maxHeartbeats 1000000 in
theorem rvp_null3 (k:Int) (sc:ByteArray) (cn:Bool) (s:ByteArray) (w:World) (hn:s.toList=[110,117,108,108]):Calls Tryz.prog 124 #[.agg #[.string sc,.int .i64 3,.int .i64 k,.bool cn],.string s] w (RetVb w (vparV 3 k cn s.data.toList)):=by
 have HO1:=Lib.hid (vpar_null (t:=3) (k:=k) (cn:=cn) (l:=s.data.toList) (by omega) (by rw[←Go.ByteArray.toList_eq];exact hn));have KN:=Lib.hid (fun X=>typed_any 3 true (by decide) X);have qn:(s.toList == [110,117,108,108])=true:=by rw[hn];rfl
 clear hn;have HX:=Lib.hid (boxP_ok w sc 3 k cn);obtain ⟨W0,hW0⟩:∃ W,W=BoxP w sc 3 k cn:=⟨_,rfl⟩
 rw[←hW0]at HX;have HWE:=Lib.hid hW0;clear hW0;have c1:W0.cell? ⟨w.heap.size,1,none⟩=some (.int .i64 3):=HX.out.c.cell 1;have c2:W0.cell? ⟨w.heap.size,2,none⟩=some (.int .i64 k):=HX.out.c.cell 2;have c3:W0.cell? ⟨w.heap.size,3,none⟩=some (.bool cn):=HX.out.c.cell 3;have r0:W0.cell? ⟨w.heap.size+1,0,none⟩=some (.bool false):=HX.out.r.cell 0;have r1:W0.cell? ⟨w.heap.size+1,1,none⟩=some (.int .i64 0):=HX.out.r.cell 1;have r2:W0.cell? ⟨w.heap.size+1,2,none⟩=some (.string { data:=#[] }):=HX.out.r.cell 2;have rf0:=HX.out.r.frozen 0;have rf1:=HX.out.r.frozen 1;have rf2:=HX.out.r.frozen 2;cases cn with
 | true =>
  have HO:=Lib.hid (HO1.out.trans (if_pos rfl));go_enter Tryz.func124,Tryz.ntmps124
  go_upto_region 1 with (fail)
  rw[show (w.alloc (.cells #[.string sc,.int .i64 3,.int .i64 k,.bool true] 56)).alloc (.cells #[.bool false,.int .i64 0,.string { data:=#[] }] 64)=BoxP w sc 3 k true from rfl,←HWE.out];go_wp2_with fail
  refine (KN.out _).mono ?_;rintro _ _ ⟨rfl,rfl⟩;go_wp2;have b3:=blk3V (.bool true) (.int .i64 0) (.string { data:=#[] }) HX.out.r;have q0:_=some (Value.bool true):=b3.cell 0;have q1:_=some (Value.int .i64 0):=b3.cell 1;have q2:_=some (Value.string { data:=#[] }):=b3.cell 2;exact bodyPost_ret (v:=.tuple #[.agg #[.bool true,.int .i64 0,.string { data:=#[] }],.int .i64 0]) (by simp[results,Tryz.results124,go_sem,q0,q1,q2]) rfl (RetVb.mk_ HO.out (below3V _ _ _ HX.out.below HX.out.le))
 | false =>
  have HO:=Lib.hid (HO1.out.trans (if_neg (by decide)));go_enter Tryz.func124,Tryz.ntmps124
  go_upto_region 1 with (fail)
  rw[show (w.alloc (.cells #[.string sc,.int .i64 3,.int .i64 k,.bool false] 56)).alloc (.cells #[.bool false,.int .i64 0,.string { data:=#[] }] 64)=BoxP w sc 3 k false from rfl,←HWE.out];go_wp2_with fail
  refine (KN.out _).mono ?_;rintro _ _ ⟨rfl,rfl⟩;go_wp2;have b3:=blk3V (.bool false) (.int .i64 0) (.string { data:=#[] }) HX.out.r;have q0:_=some (Value.bool false):=b3.cell 0;have q1:_=some (Value.int .i64 0):=b3.cell 1;have q2:_=some (Value.string { data:=#[] }):=b3.cell 2;exact bodyPost_ret (v:=.tuple #[.agg #[.bool false,.int .i64 0,.string { data:=#[] }],.int .i64 12]) (by simp[results,Tryz.results124,go_sem,q0,q1,q2]) rfl (RetVb.mk_ HO.out (below3V _ _ _ HX.out.below HX.out.le))
set_option maxRecDepth 100000 in
set_option maxHeartbeats 1000000 in
theorem rvp_null4 (k:Int) (sc:ByteArray) (cn:Bool) (s:ByteArray) (w:World) (hn:s.toList=[110,117,108,108]):Calls Tryz.prog 124 #[.agg #[.string sc,.int .i64 4,.int .i64 k,.bool cn],.string s] w (RetVb w (vparV 4 k cn s.data.toList)):=by
 have HO1:=Lib.hid (vpar_null (t:=4) (k:=k) (cn:=cn) (l:=s.data.toList) (by omega) (by rw[←Go.ByteArray.toList_eq];exact hn));have KN:=Lib.hid (fun X=>typed_any 4 true (by decide) X);have qn:(s.toList == [110,117,108,108])=true:=by rw[hn];rfl
 clear hn;have HX:=Lib.hid (boxP_ok w sc 4 k cn);obtain ⟨W0,hW0⟩:∃ W,W=BoxP w sc 4 k cn:=⟨_,rfl⟩
 rw[←hW0]at HX;have HWE:=Lib.hid hW0;clear hW0;have c1:W0.cell? ⟨w.heap.size,1,none⟩=some (.int .i64 4):=HX.out.c.cell 1;have c2:W0.cell? ⟨w.heap.size,2,none⟩=some (.int .i64 k):=HX.out.c.cell 2;have c3:W0.cell? ⟨w.heap.size,3,none⟩=some (.bool cn):=HX.out.c.cell 3;have r0:W0.cell? ⟨w.heap.size+1,0,none⟩=some (.bool false):=HX.out.r.cell 0;have r1:W0.cell? ⟨w.heap.size+1,1,none⟩=some (.int .i64 0):=HX.out.r.cell 1;have r2:W0.cell? ⟨w.heap.size+1,2,none⟩=some (.string { data:=#[] }):=HX.out.r.cell 2;have rf0:=HX.out.r.frozen 0;have rf1:=HX.out.r.frozen 1;have rf2:=HX.out.r.frozen 2;cases cn with
 | true =>
  have HO:=Lib.hid (HO1.out.trans (if_pos rfl));go_enter Tryz.func124,Tryz.ntmps124
  go_upto_region 1 with (fail)
  rw[show (w.alloc (.cells #[.string sc,.int .i64 4,.int .i64 k,.bool true] 56)).alloc (.cells #[.bool false,.int .i64 0,.string { data:=#[] }] 64)=BoxP w sc 4 k true from rfl,←HWE.out];go_wp2_with fail
  refine (KN.out _).mono ?_;rintro _ _ ⟨rfl,rfl⟩;go_wp2;have b3:=blk3V (.bool true) (.int .i64 0) (.string { data:=#[] }) HX.out.r;have q0:_=some (Value.bool true):=b3.cell 0;have q1:_=some (Value.int .i64 0):=b3.cell 1;have q2:_=some (Value.string { data:=#[] }):=b3.cell 2;exact bodyPost_ret (v:=.tuple #[.agg #[.bool true,.int .i64 0,.string { data:=#[] }],.int .i64 0]) (by simp[results,Tryz.results124,go_sem,q0,q1,q2]) rfl (RetVb.mk_ HO.out (below3V _ _ _ HX.out.below HX.out.le))
 | false =>
  have HO:=Lib.hid (HO1.out.trans (if_neg (by decide)));go_enter Tryz.func124,Tryz.ntmps124
  go_upto_region 1 with (fail)
  rw[show (w.alloc (.cells #[.string sc,.int .i64 4,.int .i64 k,.bool false] 56)).alloc (.cells #[.bool false,.int .i64 0,.string { data:=#[] }] 64)=BoxP w sc 4 k false from rfl,←HWE.out];go_wp2_with fail
  refine (KN.out _).mono ?_;rintro _ _ ⟨rfl,rfl⟩;go_wp2;have b3:=blk3V (.bool false) (.int .i64 0) (.string { data:=#[] }) HX.out.r;have q0:_=some (Value.bool false):=b3.cell 0;have q1:_=some (Value.int .i64 0):=b3.cell 1;have q2:_=some (Value.string { data:=#[] }):=b3.cell 2;exact bodyPost_ret (v:=.tuple #[.agg #[.bool false,.int .i64 0,.string { data:=#[] }],.int .i64 12]) (by simp[results,Tryz.results124,go_sem,q0,q1,q2]) rfl (RetVb.mk_ HO.out (below3V _ _ _ HX.out.below HX.out.le))
set_option maxRecDepth 100000 in
set_option maxHeartbeats 1000000 in
theorem rvp_null5 (k:Int) (h0:0≤k) (h1:k≤18) (sc:ByteArray) (cn:Bool) (s:ByteArray) (w:World) (hn:s.toList=[110,117,108,108]):Calls Tryz.prog 124 #[.agg #[.string sc,.int .i64 5,.int .i64 k,.bool cn],.string s] w (RetVb w (vparV 5 k cn s.data.toList)):=by
 have HO1:=Lib.hid (vpar_null (t:=5) (k:=k) (cn:=cn) (l:=s.data.toList) (by unfold scaB;simp;omega) (by rw[←Go.ByteArray.toList_eq];exact hn));have KN:=Lib.hid (fun X=>typed_any 5 true (by decide) X);have qn:(s.toList == [110,117,108,108])=true:=by rw[hn];rfl
 clear hn;have g0:¬k<0:=by omega
 have g1:¬18<k:=by omega
 have HX:=Lib.hid (boxP_ok w sc 5 k cn);obtain ⟨W0,hW0⟩:∃ W,W=BoxP w sc 5 k cn:=⟨_,rfl⟩
 rw[←hW0]at HX;have HWE:=Lib.hid hW0;clear hW0;have c1:W0.cell? ⟨w.heap.size,1,none⟩=some (.int .i64 5):=HX.out.c.cell 1;have c2:W0.cell? ⟨w.heap.size,2,none⟩=some (.int .i64 k):=HX.out.c.cell 2;have c3:W0.cell? ⟨w.heap.size,3,none⟩=some (.bool cn):=HX.out.c.cell 3;have r0:W0.cell? ⟨w.heap.size+1,0,none⟩=some (.bool false):=HX.out.r.cell 0;have r1:W0.cell? ⟨w.heap.size+1,1,none⟩=some (.int .i64 0):=HX.out.r.cell 1;have r2:W0.cell? ⟨w.heap.size+1,2,none⟩=some (.string { data:=#[] }):=HX.out.r.cell 2;have rf0:=HX.out.r.frozen 0;have rf1:=HX.out.r.frozen 1;have rf2:=HX.out.r.frozen 2;cases cn with
 | true =>
  have HO:=Lib.hid (HO1.out.trans (if_pos rfl));go_enter Tryz.func124,Tryz.ntmps124
  go_upto_region 1 with (fail)
  rw[show (w.alloc (.cells #[.string sc,.int .i64 5,.int .i64 k,.bool true] 56)).alloc (.cells #[.bool false,.int .i64 0,.string { data:=#[] }] 64)=BoxP w sc 5 k true from rfl,←HWE.out];go_wp2_with fail
  refine (KN.out _).mono ?_;rintro _ _ ⟨rfl,rfl⟩;go_wp2;have b3:=blk3V (.bool true) (.int .i64 0) (.string { data:=#[] }) HX.out.r;have q0:_=some (Value.bool true):=b3.cell 0;have q1:_=some (Value.int .i64 0):=b3.cell 1;have q2:_=some (Value.string { data:=#[] }):=b3.cell 2;exact bodyPost_ret (v:=.tuple #[.agg #[.bool true,.int .i64 0,.string { data:=#[] }],.int .i64 0]) (by simp[results,Tryz.results124,go_sem,q0,q1,q2]) rfl (RetVb.mk_ HO.out (below3V _ _ _ HX.out.below HX.out.le))
 | false =>
  have HO:=Lib.hid (HO1.out.trans (if_neg (by decide)));go_enter Tryz.func124,Tryz.ntmps124
  go_upto_region 1 with (fail)
  rw[show (w.alloc (.cells #[.string sc,.int .i64 5,.int .i64 k,.bool false] 56)).alloc (.cells #[.bool false,.int .i64 0,.string { data:=#[] }] 64)=BoxP w sc 5 k false from rfl,←HWE.out];go_wp2_with fail
  refine (KN.out _).mono ?_;rintro _ _ ⟨rfl,rfl⟩;go_wp2;have b3:=blk3V (.bool false) (.int .i64 0) (.string { data:=#[] }) HX.out.r;have q0:_=some (Value.bool false):=b3.cell 0;have q1:_=some (Value.int .i64 0):=b3.cell 1;have q2:_=some (Value.string { data:=#[] }):=b3.cell 2;exact bodyPost_ret (v:=.tuple #[.agg #[.bool false,.int .i64 0,.string { data:=#[] }],.int .i64 12]) (by simp[results,Tryz.results124,go_sem,q0,q1,q2]) rfl (RetVb.mk_ HO.out (below3V _ _ _ HX.out.below HX.out.le))
set_option maxRecDepth 100000 in
set_option maxHeartbeats 1000000 in
theorem rvp_t1 (k:Int) (sc:ByteArray) (cn:Bool) (s:ByteArray) (w:World) (hE:Env w) (hs:s.size≤140737488351232) (hn:s.toList≠[110,117,108,108]):Calls Tryz.prog 124 #[.agg #[.string sc,.int .i64 1,.int .i64 k,.bool cn],.string s] w (RetVb w (vparV 1 k cn s.data.toList)):=by
 have HO1:=Lib.hid (show vparV 1 k cn s.data.toList=outN (readV s.data.toList) from (vpar_rest (t:=1) (k:=k) (cn:=cn) (l:=s.data.toList) (by omega) (by rw[←Go.ByteArray.toList_eq];exact hn)).trans (by simp));have KN:=Lib.hid (fun X=>typed_any 1 true (by decide) X);have qn:(s.toList == [110,117,108,108])=false:=by rw[beq_eq_false_iff_ne];exact hn
 have HE:=Lib.hid hE;clear hn hE;have HX:=Lib.hid (boxP_ok w sc 1 k cn);obtain ⟨W0,hW0⟩:∃ W,W=BoxP w sc 1 k cn:=⟨_,rfl⟩
 rw[←hW0]at HX;have HWE:=Lib.hid hW0;clear hW0;have c1:W0.cell? ⟨w.heap.size,1,none⟩=some (.int .i64 1):=HX.out.c.cell 1;have c2:W0.cell? ⟨w.heap.size,2,none⟩=some (.int .i64 k):=HX.out.c.cell 2;have c3:W0.cell? ⟨w.heap.size,3,none⟩=some (.bool cn):=HX.out.c.cell 3;have r0:W0.cell? ⟨w.heap.size+1,0,none⟩=some (.bool false):=HX.out.r.cell 0;have r1:W0.cell? ⟨w.heap.size+1,1,none⟩=some (.int .i64 0):=HX.out.r.cell 1;have r2:W0.cell? ⟨w.heap.size+1,2,none⟩=some (.string { data:=#[] }):=HX.out.r.cell 2;have rf0:=HX.out.r.frozen 0;have rf1:=HX.out.r.frozen 1;have rf2:=HX.out.r.frozen 2;obtain ⟨⟨x,f⟩,hr⟩:∃ r,readV s.data.toList=r:=⟨_,rfl⟩
 rw[hr]at HO1;have CI:=Lib.hid (fun X=>rs_of hr (readnum_any s X (by omega)));clear hr;by_cases hf:f=0
 ·subst hf;have HO:=Lib.hid (HO1.out.trans (outN_ok x));go_enter Tryz.func124,Tryz.ntmps124
  go_upto_region 1 with (fail)
  rw[show (w.alloc (.cells #[.string sc,.int .i64 1,.int .i64 k,.bool cn] 56)).alloc (.cells #[.bool false,.int .i64 0,.string { data:=#[] }] 64)=BoxP w sc 1 k cn from rfl,←HWE.out];go_wp2_with fail
  refine (KN.out _).mono ?_;rintro _ _ ⟨rfl,rfl⟩;go_wp2_with fail
  refine (CI.out _).mono ?_;rintro _ w2 ⟨rfl,hb2⟩;have HB2:=Lib.hid (bst HX.out.below hb2);have HR2:=Lib.hid (HX.out.r.below hb2 HX.out.r.lt);clear hb2 c1 c2 c3 r0 r1 r2 rf0 rf1 rf2;have r0:w2.cell? ⟨w.heap.size+1,0,none⟩=some (.bool false):=HR2.out.cell 0;have r1:w2.cell? ⟨w.heap.size+1,1,none⟩=some (.int .i64 0):=HR2.out.cell 1;have r2:w2.cell? ⟨w.heap.size+1,2,none⟩=some (.string { data:=#[] }):=HR2.out.cell 2;have rf0:=HR2.out.frozen 0;have rf1:=HR2.out.frozen 1;have rf2:=HR2.out.frozen 2;go_wp2;have b3:=blk3V (.bool false) (.int .i64 x) (.string { data:=#[] }) HR2.out;have q0:_=some (Value.bool false):=b3.cell 0;have q1:_=some (Value.int .i64 x):=b3.cell 1;have q2:_=some (Value.string { data:=#[] }):=b3.cell 2;exact bodyPost_ret (v:=.tuple #[.agg #[.bool false,.int .i64 x,.string { data:=#[] }],.int .i64 0]) (by simp[results,Tryz.results124,go_sem,q0,q1,q2]) rfl (RetVb.mk_ HO.out (below3V _ _ _ HB2.out HX.out.le))
 ·have HO:=Lib.hid (HO1.out.trans (outN_err hf));have qf:(f != 0)=true:=by simpa using hf
  clear hf;go_enter Tryz.func124,Tryz.ntmps124
  go_upto_region 1 with (fail)
  rw[show (w.alloc (.cells #[.string sc,.int .i64 1,.int .i64 k,.bool cn] 56)).alloc (.cells #[.bool false,.int .i64 0,.string { data:=#[] }] 64)=BoxP w sc 1 k cn from rfl,←HWE.out];go_wp2_with fail
  refine (KN.out _).mono ?_;rintro _ _ ⟨rfl,rfl⟩;go_wp2_with fail
  refine (CI.out _).mono ?_;rintro _ w2 ⟨rfl,hb2⟩;have HB2:=Lib.hid (bst HX.out.below hb2);have HR2:=Lib.hid (HX.out.r.below hb2 HX.out.r.lt);clear hb2 c1 c2 c3 r0 r1 r2 rf0 rf1 rf2;have r0:w2.cell? ⟨w.heap.size+1,0,none⟩=some (.bool false):=HR2.out.cell 0;have r1:w2.cell? ⟨w.heap.size+1,1,none⟩=some (.int .i64 0):=HR2.out.cell 1;have r2:w2.cell? ⟨w.heap.size+1,2,none⟩=some (.string { data:=#[] }):=HR2.out.cell 2;have rf0:=HR2.out.frozen 0;have rf1:=HR2.out.frozen 1;have rf2:=HR2.out.frozen 2;go_wp2;have b3:=blk3V (.bool false) (.int .i64 0) (.string { data:=#[] }) HR2.out;have q0:_=some (Value.bool false):=b3.cell 0;have q1:_=some (Value.int .i64 0):=b3.cell 1;have q2:_=some (Value.string { data:=#[] }):=b3.cell 2;exact bodyPost_ret (v:=.tuple #[.agg #[.bool false,.int .i64 0,.string { data:=#[] }],.int .i64 f]) (by simp[results,Tryz.results124,go_sem,q0,q1,q2]) rfl (RetVb.mk_ HO.out (below3V _ _ _ HB2.out HX.out.le))
set_option maxRecDepth 100000 in
set_option maxHeartbeats 1000000 in
theorem rvp_t2 (k:Int) (sc:ByteArray) (cn:Bool) (s:ByteArray) (w:World) (hE:Env w) (hs:s.size≤140737488351232) (hn:s.toList≠[110,117,108,108]):Calls Tryz.prog 124 #[.agg #[.string sc,.int .i64 2,.int .i64 k,.bool cn],.string s] w (RetVb w (vparV 2 k cn s.data.toList)):=by
 have HO1:=Lib.hid (show vparV 2 k cn s.data.toList=boolV s.data.toList from (vpar_rest (t:=2) (k:=k) (cn:=cn) (l:=s.data.toList) (by omega) (by rw[←Go.ByteArray.toList_eq];exact hn)).trans (by simp));have KN:=Lib.hid (fun X=>typed_any 2 true (by decide) X);have qn:(s.toList == [110,117,108,108])=false:=by rw[beq_eq_false_iff_ne];exact hn
 have HE:=Lib.hid hE;clear hn hE;have HX:=Lib.hid (boxP_ok w sc 2 k cn);obtain ⟨W0,hW0⟩:∃ W,W=BoxP w sc 2 k cn:=⟨_,rfl⟩
 rw[←hW0]at HX;have HWE:=Lib.hid hW0;clear hW0;have c1:W0.cell? ⟨w.heap.size,1,none⟩=some (.int .i64 2):=HX.out.c.cell 1;have c2:W0.cell? ⟨w.heap.size,2,none⟩=some (.int .i64 k):=HX.out.c.cell 2;have c3:W0.cell? ⟨w.heap.size,3,none⟩=some (.bool cn):=HX.out.c.cell 3;have r0:W0.cell? ⟨w.heap.size+1,0,none⟩=some (.bool false):=HX.out.r.cell 0;have r1:W0.cell? ⟨w.heap.size+1,1,none⟩=some (.int .i64 0):=HX.out.r.cell 1;have r2:W0.cell? ⟨w.heap.size+1,2,none⟩=some (.string { data:=#[] }):=HX.out.r.cell 2;have rf0:=HX.out.r.frozen 0;have rf1:=HX.out.r.frozen 1;have rf2:=HX.out.r.frozen 2;by_cases ht:s.toList=[116,114,117,101]
 ·have HO:=Lib.hid (HO1.out.trans (if_pos (by rw[←Go.ByteArray.toList_eq];exact ht)));have q1:(s.toList == [116,114,117,101])=true:=by rw[ht];rfl
  clear ht;go_enter Tryz.func124,Tryz.ntmps124
  go_upto_region 1 with (fail)
  rw[show (w.alloc (.cells #[.string sc,.int .i64 2,.int .i64 k,.bool cn] 56)).alloc (.cells #[.bool false,.int .i64 0,.string { data:=#[] }] 64)=BoxP w sc 2 k cn from rfl,←HWE.out];go_wp2_with fail
  refine (KN.out _).mono ?_;rintro _ _ ⟨rfl,rfl⟩;go_wp2;have b3:=blk3V (.bool false) (.int .i64 1) (.string { data:=#[] }) HX.out.r;have q0:_=some (Value.bool false):=b3.cell 0;have q1:_=some (Value.int .i64 1):=b3.cell 1;have q2:_=some (Value.string { data:=#[] }):=b3.cell 2;exact bodyPost_ret (v:=.tuple #[.agg #[.bool false,.int .i64 1,.string { data:=#[] }],.int .i64 0]) (by simp[results,Tryz.results124,go_sem,q0,q1,q2]) rfl (RetVb.mk_ HO.out (below3V _ _ _ HX.out.below HX.out.le))
 have q1:(s.toList == [116,114,117,101])=false:=by rw[beq_eq_false_iff_ne];exact ht
 by_cases hff:s.toList=[102,97,108,115,101]
 ·have HO:=Lib.hid (HO1.out.trans ((if_neg (by rw[←Go.ByteArray.toList_eq];exact ht)).trans (if_pos (by rw[←Go.ByteArray.toList_eq];exact hff))));have q2:(s.toList == [102,97,108,115,101])=true:=by rw[hff];rfl
  clear ht hff;go_enter Tryz.func124,Tryz.ntmps124
  go_upto_region 1 with (fail)
  rw[show (w.alloc (.cells #[.string sc,.int .i64 2,.int .i64 k,.bool cn] 56)).alloc (.cells #[.bool false,.int .i64 0,.string { data:=#[] }] 64)=BoxP w sc 2 k cn from rfl,←HWE.out];go_wp2_with fail
  refine (KN.out _).mono ?_;rintro _ _ ⟨rfl,rfl⟩;go_wp2;have b3:=blk3V (.bool false) (.int .i64 0) (.string { data:=#[] }) HX.out.r;have q0:_=some (Value.bool false):=b3.cell 0;have q1:_=some (Value.int .i64 0):=b3.cell 1;have q2:_=some (Value.string { data:=#[] }):=b3.cell 2;exact bodyPost_ret (v:=.tuple #[.agg #[.bool false,.int .i64 0,.string { data:=#[] }],.int .i64 0]) (by simp[results,Tryz.results124,go_sem,q0,q1,q2]) rfl (RetVb.mk_ HO.out (below3V _ _ _ HX.out.below HX.out.le))
 ·have HO:=Lib.hid (HO1.out.trans ((if_neg (by rw[←Go.ByteArray.toList_eq];exact ht)).trans (if_neg (by rw[←Go.ByteArray.toList_eq];exact hff))));have q2:(s.toList == [102,97,108,115,101])=false:=by rw[beq_eq_false_iff_ne];exact hff
  clear ht hff;go_enter Tryz.func124,Tryz.ntmps124
  go_upto_region 1 with (fail)
  rw[show (w.alloc (.cells #[.string sc,.int .i64 2,.int .i64 k,.bool cn] 56)).alloc (.cells #[.bool false,.int .i64 0,.string { data:=#[] }] 64)=BoxP w sc 2 k cn from rfl,←HWE.out];go_wp2_with fail
  refine (KN.out _).mono ?_;rintro _ _ ⟨rfl,rfl⟩;go_wp2;have b3:=blk3V (.bool false) (.int .i64 0) (.string { data:=#[] }) HX.out.r;have q0:_=some (Value.bool false):=b3.cell 0;have q1:_=some (Value.int .i64 0):=b3.cell 1;have q2:_=some (Value.string { data:=#[] }):=b3.cell 2;exact bodyPost_ret (v:=.tuple #[.agg #[.bool false,.int .i64 0,.string { data:=#[] }],.int .i64 2]) (by simp[results,Tryz.results124,go_sem,q0,q1,q2]) rfl (RetVb.mk_ HO.out (below3V _ _ _ HX.out.below HX.out.le))
set_option maxRecDepth 100000 in
set_option maxHeartbeats 1000000 in
theorem rvp_t3 (k:Int) (sc:ByteArray) (cn:Bool) (s:ByteArray) (w:World) (hE:Env w) (hs:s.size≤140737488351232) (hn:s.toList≠[110,117,108,108]):Calls Tryz.prog 124 #[.agg #[.string sc,.int .i64 3,.int .i64 k,.bool cn],.string s] w (RetVb w (vparV 3 k cn s.data.toList)):=by
 have HO1:=Lib.hid (show vparV 3 k cn s.data.toList=vbyt s.data.toList from (vpar_rest (t:=3) (k:=k) (cn:=cn) (l:=s.data.toList) (by omega) (by rw[←Go.ByteArray.toList_eq];exact hn)).trans (by simp));have KN:=Lib.hid (fun X=>typed_any 3 true (by decide) X);have qn:(s.toList == [110,117,108,108])=false:=by rw[beq_eq_false_iff_ne];exact hn
 have HE:=Lib.hid hE;clear hn hE;have HX:=Lib.hid (boxP_ok w sc 3 k cn);obtain ⟨W0,hW0⟩:∃ W,W=BoxP w sc 3 k cn:=⟨_,rfl⟩
 rw[←hW0]at HX;have HWE:=Lib.hid hW0;clear hW0;have c1:W0.cell? ⟨w.heap.size,1,none⟩=some (.int .i64 3):=HX.out.c.cell 1;have c2:W0.cell? ⟨w.heap.size,2,none⟩=some (.int .i64 k):=HX.out.c.cell 2;have c3:W0.cell? ⟨w.heap.size,3,none⟩=some (.bool cn):=HX.out.c.cell 3;have r0:W0.cell? ⟨w.heap.size+1,0,none⟩=some (.bool false):=HX.out.r.cell 0;have r1:W0.cell? ⟨w.heap.size+1,1,none⟩=some (.int .i64 0):=HX.out.r.cell 1;have r2:W0.cell? ⟨w.heap.size+1,2,none⟩=some (.string { data:=#[] }):=HX.out.r.cell 2;have rf0:=HX.out.r.frozen 0;have rf1:=HX.out.r.frozen 1;have rf2:=HX.out.r.frozen 2;obtain ⟨S,f,hS,hv⟩:∃ (S:ByteArray) (f:Int),S.data.toList=(bytV s.data.toList).1∧vbyt s.data.toList=((false,0,S.data.toList),f):=⟨⟨(bytV s.data.toList).1.toArray⟩,(bytV s.data.toList).2,by simp,by unfold vbyt;simp⟩
 have CI:=Lib.hid (fun X=>vb_of hv (rbytes_any s X hs));have HO:=Lib.hid (HO1.out.trans hv);clear hS hv;go_enter Tryz.func124,Tryz.ntmps124
 go_upto_region 1 with (fail)
 rw[show (w.alloc (.cells #[.string sc,.int .i64 3,.int .i64 k,.bool cn] 56)).alloc (.cells #[.bool false,.int .i64 0,.string { data:=#[] }] 64)=BoxP w sc 3 k cn from rfl,←HWE.out];go_wp2_with fail
 refine (KN.out _).mono ?_;rintro _ _ ⟨rfl,rfl⟩;go_wp2_with fail
 refine (CI.out _).mono ?_;rintro _ w2 ⟨rfl,hb2⟩;have HB2:=Lib.hid (bst HX.out.below hb2);have HR2:=Lib.hid (HX.out.r.below hb2 HX.out.r.lt);clear hb2 c1 c2 c3 r0 r1 r2 rf0 rf1 rf2;have r0:w2.cell? ⟨w.heap.size+1,0,none⟩=some (.bool false):=HR2.out.cell 0;have r1:w2.cell? ⟨w.heap.size+1,1,none⟩=some (.int .i64 0):=HR2.out.cell 1;have r2:w2.cell? ⟨w.heap.size+1,2,none⟩=some (.string { data:=#[] }):=HR2.out.cell 2;have rf0:=HR2.out.frozen 0;have rf1:=HR2.out.frozen 1;have rf2:=HR2.out.frozen 2;go_wp2;have b3:=blk3V (.bool false) (.int .i64 0) (.string S) HR2.out;have q0:_=some (Value.bool false):=b3.cell 0;have q1:_=some (Value.int .i64 0):=b3.cell 1;have q2:_=some (Value.string S):=b3.cell 2;exact bodyPost_ret (v:=.tuple #[.agg #[.bool false,.int .i64 0,.string S],.int .i64 f]) (by simp[results,Tryz.results124,go_sem,q0,q1,q2]) rfl (RetVb.mk_ HO.out (below3V _ _ _ HB2.out HX.out.le))
set_option maxRecDepth 100000 in
set_option maxHeartbeats 1000000 in
theorem rvp_t4 (k:Int) (sc:ByteArray) (cn:Bool) (s:ByteArray) (w:World) (hE:Env w) (hs:s.size≤140737488351232) (hn:s.toList≠[110,117,108,108]):Calls Tryz.prog 124 #[.agg #[.string sc,.int .i64 4,.int .i64 k,.bool cn],.string s] w (RetVb w (vparV 4 k cn s.data.toList)):=by
 have HO1:=Lib.hid (show vparV 4 k cn s.data.toList=outN (dparV s.data.toList) from (vpar_rest (t:=4) (k:=k) (cn:=cn) (l:=s.data.toList) (by omega) (by rw[←Go.ByteArray.toList_eq];exact hn)).trans (by simp));have KN:=Lib.hid (fun X=>typed_any 4 true (by decide) X);have qn:(s.toList == [110,117,108,108])=false:=by rw[beq_eq_false_iff_ne];exact hn
 have HE:=Lib.hid hE;clear hn hE;have HX:=Lib.hid (boxP_ok w sc 4 k cn);obtain ⟨W0,hW0⟩:∃ W,W=BoxP w sc 4 k cn:=⟨_,rfl⟩
 rw[←hW0]at HX;have HWE:=Lib.hid hW0;clear hW0;have c1:W0.cell? ⟨w.heap.size,1,none⟩=some (.int .i64 4):=HX.out.c.cell 1;have c2:W0.cell? ⟨w.heap.size,2,none⟩=some (.int .i64 k):=HX.out.c.cell 2;have c3:W0.cell? ⟨w.heap.size,3,none⟩=some (.bool cn):=HX.out.c.cell 3;have r0:W0.cell? ⟨w.heap.size+1,0,none⟩=some (.bool false):=HX.out.r.cell 0;have r1:W0.cell? ⟨w.heap.size+1,1,none⟩=some (.int .i64 0):=HX.out.r.cell 1;have r2:W0.cell? ⟨w.heap.size+1,2,none⟩=some (.string { data:=#[] }):=HX.out.r.cell 2;have rf0:=HX.out.r.frozen 0;have rf1:=HX.out.r.frozen 1;have rf2:=HX.out.r.frozen 2;obtain ⟨⟨x,f⟩,hr⟩:∃ r,dparV s.data.toList=r:=⟨_,rfl⟩
 rw[hr]at HO1;have CI:=Lib.hid (fun X=>rb_of hr (rdatepar_any s X (by omega)));clear hr;by_cases hf:f=0
 ·subst hf;have HO:=Lib.hid (HO1.out.trans (outN_ok x));go_enter Tryz.func124,Tryz.ntmps124
  go_upto_region 1 with (fail)
  rw[show (w.alloc (.cells #[.string sc,.int .i64 4,.int .i64 k,.bool cn] 56)).alloc (.cells #[.bool false,.int .i64 0,.string { data:=#[] }] 64)=BoxP w sc 4 k cn from rfl,←HWE.out];go_wp2_with fail
  refine (KN.out _).mono ?_;rintro _ _ ⟨rfl,rfl⟩;go_wp2_with fail
  refine (CI.out _).mono ?_;rintro _ w2 ⟨rfl,hb2⟩;have HB2:=Lib.hid (bst HX.out.below hb2);have HR2:=Lib.hid (HX.out.r.below hb2 HX.out.r.lt);clear hb2 c1 c2 c3 r0 r1 r2 rf0 rf1 rf2;have r0:w2.cell? ⟨w.heap.size+1,0,none⟩=some (.bool false):=HR2.out.cell 0;have r1:w2.cell? ⟨w.heap.size+1,1,none⟩=some (.int .i64 0):=HR2.out.cell 1;have r2:w2.cell? ⟨w.heap.size+1,2,none⟩=some (.string { data:=#[] }):=HR2.out.cell 2;have rf0:=HR2.out.frozen 0;have rf1:=HR2.out.frozen 1;have rf2:=HR2.out.frozen 2;go_wp2;have b3:=blk3V (.bool false) (.int .i64 x) (.string { data:=#[] }) HR2.out;have q0:_=some (Value.bool false):=b3.cell 0;have q1:_=some (Value.int .i64 x):=b3.cell 1;have q2:_=some (Value.string { data:=#[] }):=b3.cell 2;exact bodyPost_ret (v:=.tuple #[.agg #[.bool false,.int .i64 x,.string { data:=#[] }],.int .i64 0]) (by simp[results,Tryz.results124,go_sem,q0,q1,q2]) rfl (RetVb.mk_ HO.out (below3V _ _ _ HB2.out HX.out.le))
 ·have HO:=Lib.hid (HO1.out.trans (outN_err hf));have qf:(f != 0)=true:=by simpa using hf
  clear hf;go_enter Tryz.func124,Tryz.ntmps124
  go_upto_region 1 with (fail)
  rw[show (w.alloc (.cells #[.string sc,.int .i64 4,.int .i64 k,.bool cn] 56)).alloc (.cells #[.bool false,.int .i64 0,.string { data:=#[] }] 64)=BoxP w sc 4 k cn from rfl,←HWE.out];go_wp2_with fail
  refine (KN.out _).mono ?_;rintro _ _ ⟨rfl,rfl⟩;go_wp2_with fail
  refine (CI.out _).mono ?_;rintro _ w2 ⟨rfl,hb2⟩;have HB2:=Lib.hid (bst HX.out.below hb2);have HR2:=Lib.hid (HX.out.r.below hb2 HX.out.r.lt);clear hb2 c1 c2 c3 r0 r1 r2 rf0 rf1 rf2;have r0:w2.cell? ⟨w.heap.size+1,0,none⟩=some (.bool false):=HR2.out.cell 0;have r1:w2.cell? ⟨w.heap.size+1,1,none⟩=some (.int .i64 0):=HR2.out.cell 1;have r2:w2.cell? ⟨w.heap.size+1,2,none⟩=some (.string { data:=#[] }):=HR2.out.cell 2;have rf0:=HR2.out.frozen 0;have rf1:=HR2.out.frozen 1;have rf2:=HR2.out.frozen 2;go_wp2;have b3:=blk3V (.bool false) (.int .i64 0) (.string { data:=#[] }) HR2.out;have q0:_=some (Value.bool false):=b3.cell 0;have q1:_=some (Value.int .i64 0):=b3.cell 1;have q2:_=some (Value.string { data:=#[] }):=b3.cell 2;exact bodyPost_ret (v:=.tuple #[.agg #[.bool false,.int .i64 0,.string { data:=#[] }],.int .i64 f]) (by simp[results,Tryz.results124,go_sem,q0,q1,q2]) rfl (RetVb.mk_ HO.out (below3V _ _ _ HB2.out HX.out.le))
set_option maxRecDepth 100000 in
set_option maxHeartbeats 1000000 in
theorem rvp_t5 (k:Int) (h0:0≤k) (h1:k≤18) (sc:ByteArray) (cn:Bool) (s:ByteArray) (w:World) (hE:Env w) (hs:s.size≤140737488351232) (hn:s.toList≠[110,117,108,108]):Calls Tryz.prog 124 #[.agg #[.string sc,.int .i64 5,.int .i64 k,.bool cn],.string s] w (RetVb w (vparV 5 k cn s.data.toList)):=by
 have HO1:=Lib.hid (show vparV 5 k cn s.data.toList=outN (decP s.data.toList k) from (vpar_rest (t:=5) (k:=k) (cn:=cn) (l:=s.data.toList) (by unfold scaB;simp;omega) (by rw[←Go.ByteArray.toList_eq];exact hn)).trans (by simp));have KN:=Lib.hid (fun X=>typed_any 5 true (by decide) X);have qn:(s.toList == [110,117,108,108])=false:=by rw[beq_eq_false_iff_ne];exact hn
 have HE:=Lib.hid hE;clear hn hE;have g0:¬k<0:=by omega
 have g1:¬18<k:=by omega
 have HX:=Lib.hid (boxP_ok w sc 5 k cn);obtain ⟨W0,hW0⟩:∃ W,W=BoxP w sc 5 k cn:=⟨_,rfl⟩
 rw[←hW0]at HX;have HWE:=Lib.hid hW0;clear hW0;have c1:W0.cell? ⟨w.heap.size,1,none⟩=some (.int .i64 5):=HX.out.c.cell 1;have c2:W0.cell? ⟨w.heap.size,2,none⟩=some (.int .i64 k):=HX.out.c.cell 2;have c3:W0.cell? ⟨w.heap.size,3,none⟩=some (.bool cn):=HX.out.c.cell 3;have r0:W0.cell? ⟨w.heap.size+1,0,none⟩=some (.bool false):=HX.out.r.cell 0;have r1:W0.cell? ⟨w.heap.size+1,1,none⟩=some (.int .i64 0):=HX.out.r.cell 1;have r2:W0.cell? ⟨w.heap.size+1,2,none⟩=some (.string { data:=#[] }):=HX.out.r.cell 2;have rf0:=HX.out.r.frozen 0;have rf1:=HX.out.r.frozen 1;have rf2:=HX.out.r.frozen 2;obtain ⟨⟨x,f⟩,hr⟩:∃ r,decP s.data.toList k=r:=⟨_,rfl⟩
 rw[hr]at HO1;have CI:=Lib.hid (fun X=>rb_of hr (rdecpar_any s k X hs));clear hr;by_cases hf:f=0
 ·subst hf;have HO:=Lib.hid (HO1.out.trans (outN_ok x));go_enter Tryz.func124,Tryz.ntmps124
  go_upto_region 1 with (fail)
  rw[show (w.alloc (.cells #[.string sc,.int .i64 5,.int .i64 k,.bool cn] 56)).alloc (.cells #[.bool false,.int .i64 0,.string { data:=#[] }] 64)=BoxP w sc 5 k cn from rfl,←HWE.out];go_wp2_with fail
  refine (KN.out _).mono ?_;rintro _ _ ⟨rfl,rfl⟩;go_wp2_with fail
  refine (CI.out _).mono ?_;rintro _ w2 ⟨rfl,hb2⟩;have HB2:=Lib.hid (bst HX.out.below hb2);have HR2:=Lib.hid (HX.out.r.below hb2 HX.out.r.lt);clear hb2 c1 c2 c3 r0 r1 r2 rf0 rf1 rf2;have r0:w2.cell? ⟨w.heap.size+1,0,none⟩=some (.bool false):=HR2.out.cell 0;have r1:w2.cell? ⟨w.heap.size+1,1,none⟩=some (.int .i64 0):=HR2.out.cell 1;have r2:w2.cell? ⟨w.heap.size+1,2,none⟩=some (.string { data:=#[] }):=HR2.out.cell 2;have rf0:=HR2.out.frozen 0;have rf1:=HR2.out.frozen 1;have rf2:=HR2.out.frozen 2;go_wp2;have b3:=blk3V (.bool false) (.int .i64 x) (.string { data:=#[] }) HR2.out;have q0:_=some (Value.bool false):=b3.cell 0;have q1:_=some (Value.int .i64 x):=b3.cell 1;have q2:_=some (Value.string { data:=#[] }):=b3.cell 2;exact bodyPost_ret (v:=.tuple #[.agg #[.bool false,.int .i64 x,.string { data:=#[] }],.int .i64 0]) (by simp[results,Tryz.results124,go_sem,q0,q1,q2]) rfl (RetVb.mk_ HO.out (below3V _ _ _ HB2.out HX.out.le))
 ·have HO:=Lib.hid (HO1.out.trans (outN_err hf));have qf:(f != 0)=true:=by simpa using hf
  clear hf;go_enter Tryz.func124,Tryz.ntmps124
  go_upto_region 1 with (fail)
  rw[show (w.alloc (.cells #[.string sc,.int .i64 5,.int .i64 k,.bool cn] 56)).alloc (.cells #[.bool false,.int .i64 0,.string { data:=#[] }] 64)=BoxP w sc 5 k cn from rfl,←HWE.out];go_wp2_with fail
  refine (KN.out _).mono ?_;rintro _ _ ⟨rfl,rfl⟩;go_wp2_with fail
  refine (CI.out _).mono ?_;rintro _ w2 ⟨rfl,hb2⟩;have HB2:=Lib.hid (bst HX.out.below hb2);have HR2:=Lib.hid (HX.out.r.below hb2 HX.out.r.lt);clear hb2 c1 c2 c3 r0 r1 r2 rf0 rf1 rf2;have r0:w2.cell? ⟨w.heap.size+1,0,none⟩=some (.bool false):=HR2.out.cell 0;have r1:w2.cell? ⟨w.heap.size+1,1,none⟩=some (.int .i64 0):=HR2.out.cell 1;have r2:w2.cell? ⟨w.heap.size+1,2,none⟩=some (.string { data:=#[] }):=HR2.out.cell 2;have rf0:=HR2.out.frozen 0;have rf1:=HR2.out.frozen 1;have rf2:=HR2.out.frozen 2;go_wp2;have b3:=blk3V (.bool false) (.int .i64 0) (.string { data:=#[] }) HR2.out;have q0:_=some (Value.bool false):=b3.cell 0;have q1:_=some (Value.int .i64 0):=b3.cell 1;have q2:_=some (Value.string { data:=#[] }):=b3.cell 2;exact bodyPost_ret (v:=.tuple #[.agg #[.bool false,.int .i64 0,.string { data:=#[] }],.int .i64 f]) (by simp[results,Tryz.results124,go_sem,q0,q1,q2]) rfl (RetVb.mk_ HO.out (below3V _ _ _ HB2.out HX.out.le))
theorem rvpar_any (sc:ByteArray) (t k:Int) (cn:Bool) (s:ByteArray) (w:World) (hE:Env w) (hs:s.size≤140737488351232):Calls Tryz.prog 124 #[.agg #[.string sc,.int .i64 t,.int .i64 k,.bool cn],.string s] w (RetVb w (vparV t k cn s.data.toList)):=by
 by_cases h:t<1∨5<t
 ·exact rvp_type t k h sc cn s w
 have h5:t=1∨t=2∨t=3∨t=4∨t=5:=by omega
 by_cases hn:s.toList=[110,117,108,108]
 ·rcases h5 with rfl | rfl | rfl | rfl | rfl
  ·exact rvp_null1 k sc cn s w hn
  ·exact rvp_null2 k sc cn s w hn
  ·exact rvp_null3 k sc cn s w hn
  ·exact rvp_null4 k sc cn s w hn
  ·by_cases hk:k<0∨18<k
   ·exact rvp_scale k hk sc cn s w
   ·exact rvp_null5 k (by omega) (by omega) sc cn s w hn
 ·rcases h5 with rfl | rfl | rfl | rfl | rfl
  ·exact rvp_t1 k sc cn s w hE hs hn
  ·exact rvp_t2 k sc cn s w hE hs hn
  ·exact rvp_t3 k sc cn s w hE hs hn
  ·exact rvp_t4 k sc cn s w hE hs hn
  ·by_cases hk:k<0∨18<k
   ·exact rvp_scale k hk sc cn s w
   ·exact rvp_t5 k (by omega) (by omega) sc cn s w hE hs hn
end Go.Proofs.YtjnamjkdjcndiaaGreatDoor
