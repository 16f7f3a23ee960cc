/-
 The walk of the law ValueGets.
-/
import Derived.Test.YtncnhcmkhgfodaaM2
import Derived.Test.YtncnhcmkhgfodaaValPut
import Derived.Test.YtncnhcmkhgfodaaPick
import Derived.Laws.BytesArg
namespace Go.Proofs.Ytncnhcmkhgfodaa
open Go.RowKit
theorem getV_form (s:ByteArray) (n:Int):∃ b x u i e,getV s n=(.agg #[.bool b,.int .i64 x,.string u],i,e):=by
 unfold getV aggV
 split
 ·exact ⟨_,_,_,_,_,rfl⟩
 split
 ·exact ⟨_,_,_,_,_,rfl⟩
 split
 ·exact ⟨_,_,_,_,_,rfl⟩
 split
 ·exact ⟨_,_,_,_,_,rfl⟩
 simp only
 split
 ·exact ⟨_,_,_,_,_,rfl⟩
 split
 ·exact ⟨_,_,_,_,_,rfl⟩
 split
 ·exact ⟨_,_,_,_,_,rfl⟩
 exact ⟨_,_,_,_,_,rfl⟩
theorem retGV_of {w:World} {r:Value×Int×Int} {v:Value} {i x:Int} (h:r=(v,i,x)) {P:Program} {f:FuncId} {args:Array Value} (hc:Calls P f args w (RetGV w r)):Calls P f args w fun e w'=>e=.returned (.tuple #[v,.int .i64 i,.int .i64 x])∧Below w.heap.size w w':=by
 subst h;exact hc
theorem pick_eqB (v n:Int) (h0:0<n) (h1:n≤9223372036854775807):wrap64 ((IntKind.u64.wrap v).tmod n)=pick v n:=by
 have a:0≤IntKind.u64.wrap v:=by rw[IntKind.wrap_u64];omega
 rw[Int.tmod_eq_emod_of_nonneg a,IntKind.wrap_u64];have:=pick_lo v n h0
 have:=pick_hi v n h0
 exact IntWalk.wrap64_in _ ⟨by show _≤pick v n;omega,by show pick v n≤_;omega⟩
set_option maxHeartbeats 400000 in
theorem pick_anyB (v n:Int) (w:World) (h0:0<n) (h1:n≤9223372036854775807) :
  Calls Try.prog 5 #[.int .i64 v,.int .i64 n] w fun e w'=>e=.returned (.int .i64 (pick v n))∧w=w':=by
 go_enter Try.func5,Try.ntmps5
 go_wp2;go_ret;exact ⟨ret_int (pick_eqB v n h0 h1),rfl⟩
set_option maxRecDepth 100000 in
set_option maxHeartbeats 4000000 in
theorem valueGets_walk (s:ByteArray) (a n:Int) (w:World) (hs:s.size≤140737488351232) (h0:-9223372036854775808≤a) (h1:a≤9223372036854775807) (hn0:0≤n) (hn1:n≤255) :
  Calls Try.prog 3 #[.string s,.int .i64 a,.int .u8 n] w (RetB1' w true):=by
 have p0:=pick_lo a ((s.size:Int)+3) (by omega);have p1:=pick_hi a ((s.size:Int)+3) (by omega);obtain ⟨b1,x1,u1,i1,e1,g1⟩:=getV_form s (pick a ((s.size:Int)+3) - 1);obtain ⟨b2,x2,u2,i2,e2,g2⟩:=getV_form (strOfNums [n % 3]++s) 0;obtain ⟨b3,x3,u3,i3,e3,g3⟩:=getV_form s a;have CP:=Lib.hid (fun X=>pick_anyB a ((s.size:Int)+3) X (by omega) (by omega));have C1:=Lib.hid (fun X=>retGV_of g1 (valget_any s (pick a ((s.size:Int)+3) - 1) X (by omega) (by omega) (by omega)));have C2:=Lib.hid (fun X=>retGV_of g1 (rvalget_any s (pick a ((s.size:Int)+3) - 1) X (by omega) (by omega) (by omega)));have C5:=Lib.hid (fun X=>retGV_of g3 (valget_any s a X (by omega) (by omega) (by omega)));have C6:=Lib.hid (fun X=>retGV_of g3 (rvalget_any s a X (by omega) (by omega) (by omega)));have hcv:=run_convert_bytes_arg (P:=Try.prog) (w.alloc (.cells #[.int .u8 (n % 3)] 5)) 22 5 Try.underlying22 Try.underlying5 w.heap.size 0 1 1 [n % 3] rfl (by
  intro i hi
  obtain rfl:i=0:=by omega
  simp)
 have hsz:(strOfNums [n % 3]++s).size≤9223372036854775807:=by rw[ByteArray.size_append,strOfNums_size];simp only[List.length_cons,List.length_nil];omega
 have C3:=Lib.hid (fun X=>retGV_of g2 (valget_any (strOfNums [n % 3]++s) 0 X hsz (by omega) (by omega)));have C4:=Lib.hid (fun X=>retGV_of g2 (rvalget_any (strOfNums [n % 3]++s) 0 X hsz (by omega) (by omega)));have hb0:=(Below.refl w.heap.size w).alloc (Nat.le_refl _) (.cells #[.int .u8 (n % 3)] 5);clear hsz g1 g2 g3;have hsz:(strOfNums [n % 3]).size=1:=by rw[strOfNums_size];rfl
 go_enter Try.func3,Try.ntmps3
 go_wp2_with fail
 refine (CP.out _).mono ?_;rintro _ _ ⟨rfl,rfl⟩;go_wp2_with fail
 refine (C1.out _).mono ?_;rintro _ w1 ⟨rfl,hb1⟩;go_wp2_with fail
 refine (C2.out _).mono ?_;rintro _ w2 ⟨rfl,hb2⟩;go_wp2_with fail
 refine (C3.out _).mono ?_;rintro _ w3 ⟨rfl,hb3⟩;go_wp2_with fail
 refine (C4.out _).mono ?_;rintro _ w4 ⟨rfl,hb4⟩;go_wp2_with fail
 refine (C5.out _).mono ?_;rintro _ w5 ⟨rfl,hb5⟩;go_wp2_with fail
 refine (C6.out _).mono ?_;rintro _ w6 ⟨rfl,hb6⟩;go_wp2_with fail
 refine (awake6_any _).mono ?_;rintro _ w7 ⟨rfl,hb7⟩;have q1:=bst hb0 hb1;have q2:=bst (q1.alloc q1.size _) hb2;have q3:=bst (q2.alloc q2.size _) hb3;have q4:=bst (q3.alloc q3.size _) hb4;have q5:=bst (q4.alloc q4.size _) hb5;have q6:=bst (q5.alloc q5.size _) hb6;have q7:=bst (q6.alloc q6.size _) hb7;have B1:=(Blk.new w1 25 #[.bool b1,.int .i64 x1,.string u1]).below hb2 (Blk.new w1 _ _).lt;have B1:=(B1.alloc _).below hb3 (B1.alloc _).lt;have B1:=(B1.alloc _).below hb4 (B1.alloc _).lt;have B1:=(B1.alloc _).below hb5 (B1.alloc _).lt;have B1:=(B1.alloc _).below hb6 (B1.alloc _).lt;have B1:=(B1.alloc _).below hb7 (B1.alloc _).lt;have c10:=B1.cell 0;have c11:=B1.cell 1;have c12:=B1.cell 2;simp only[List.getElem?_toArray,List.getElem?_cons_zero,List.getElem?_cons_succ]at c10 c11 c12;have B2:=(Blk.new w2 25 #[.bool b1,.int .i64 x1,.string u1]).below hb3 (Blk.new w2 _ _).lt;have B2:=(B2.alloc _).below hb4 (B2.alloc _).lt;have B2:=(B2.alloc _).below hb5 (B2.alloc _).lt;have B2:=(B2.alloc _).below hb6 (B2.alloc _).lt;have B2:=(B2.alloc _).below hb7 (B2.alloc _).lt;have c20:=B2.cell 0;have c21:=B2.cell 1;have c22:=B2.cell 2;simp only[List.getElem?_toArray,List.getElem?_cons_zero,List.getElem?_cons_succ]at c20 c21 c22;have B3:=(Blk.new w3 25 #[.bool b2,.int .i64 x2,.string u2]).below hb4 (Blk.new w3 _ _).lt;have B3:=(B3.alloc _).below hb5 (B3.alloc _).lt;have B3:=(B3.alloc _).below hb6 (B3.alloc _).lt;have B3:=(B3.alloc _).below hb7 (B3.alloc _).lt;have c30:=B3.cell 0;have c31:=B3.cell 1;have c32:=B3.cell 2;simp only[List.getElem?_toArray,List.getElem?_cons_zero,List.getElem?_cons_succ]at c30 c31 c32;have B4:=(Blk.new w4 25 #[.bool b2,.int .i64 x2,.string u2]).below hb5 (Blk.new w4 _ _).lt;have B4:=(B4.alloc _).below hb6 (B4.alloc _).lt;have B4:=(B4.alloc _).below hb7 (B4.alloc _).lt;have c40:=B4.cell 0;have c41:=B4.cell 1;have c42:=B4.cell 2;simp only[List.getElem?_toArray,List.getElem?_cons_zero,List.getElem?_cons_succ]at c40 c41 c42;clear hb1 hb2 hb3 hb4 hb5 hb6 hb7 B1 B2 B3 B4 q1 q2 q3 q4 q5 q6 hb0;go_wp2;go_outline
 go_ret;exact ⟨by simp,q7⟩
end Go.Proofs.Ytncnhcmkhgfodaa
