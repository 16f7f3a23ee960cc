/-
  The contract of keep.Value.
-/
import Derived.Test.YtncnhcmkhgfodaaVGen
import Derived.Deep.RegionWith
namespace Go.Proofs.Ytncnhcmkhgfodaa
open Go.RowKit
theorem blk_new2 (w:World) (o:Obj) (t:TypeId) (cs:Array Value):Blk ((w.alloc o).alloc (.cells cs t)) (w.heap.size+1) t cs:=by
  have:=Blk.new (w.alloc o) t cs
  simpa using this
def RetKV (w:World) (t:Int) (cn:Bool) (e:Ending) (w':World):Prop :=
  ∃ (b:Bool) (n:Int) (s:ByteArray),e=.returned (.agg #[.bool b,.int .i64 n,.string s])∧ValOk t cn b n s∧Below w.heap.size w w'
set_option maxRecDepth 100000 in
set_option maxHeartbeats 2000000 in
theorem kvalue_any (cs:ByteArray) (t k:Int) (cn:Bool) (v:Value) (zs:List Int) (w:World) (ht1:1≤t) (ht2:t≤5) (hs:Sl w 1 v zs.length (ints zs)) (hl:zs.length≤9223372036854775807) (hr:∀ x ∈ zs,-9223372036854775808≤x∧x≤9223372036854775807) :
    Calls Try.prog 9 #[.agg #[.string cs,.int .i64 t,.int .i64 k,.bool cn],v] w (RetKV w t cn):=by
  obtain ⟨A,c,rfl,_,_⟩:=hs.form;have HF:=Lib.hid (fun (W:World) (h:Below w.heap.size w W)=>from_any _ zs W (hs.below h) hl hr);have HV:=Lib.hid (fun (W:World) (B g:Nat) (rest:List Int) (h:Src W B 54 g rest)=>value_any B g cs t k cn rest W h ht1 ht2);clear hr;obtain ⟨W,hW⟩:∃ W,W=((w.alloc (.cells #[.string cs,.int .i64 t,.int .i64 k,.bool cn] 34)).alloc (.cells #[.bool false,.int .i64 0,.string { data:=#[] }] 25)).drew:=⟨_,rfl⟩
  have HBW:=Lib.hid (show Below w.heap.size w W by rw[hW];exact (((Below.refl _ _).alloc (Nat.le_refl _) _).alloc (by simp) _).drew);have HZW:=Lib.hid (show W.heap.size=w.heap.size+1+1 by rw[hW];simp);have B1:=Lib.hid (show Blk W w.heap.size 34 #[.string cs,.int .i64 t,.int .i64 k,.bool cn] by rw[hW];exact ((Blk.new _ _ _).alloc _));have B2:=Lib.hid (show Blk W (w.heap.size+1) 25 #[.bool false,.int .i64 0,.string { data:=#[] }] by rw[hW];exact (blk_new2 w _ _ _).drewN 1);have HFW:=Lib.hid (HF.out W HBW.out);clear HF;go_enter Try.func9,Try.ntmps9
  go_wp2_with fail
  go_region_with (first
    | (go_at_call 18
       rw[←hW];refine HFW.out.mono ?_;rintro e w1 ⟨g,rfl,hbel,hsrc⟩;have hz:=HZW.out;have b1:=B1.out.below hbel (by omega);have b2:=B2.out.below hbel (by omega);have c0:w1.cell? ⟨w.heap.size,0,none⟩=some (.string cs):=b1.cell 0;have c1:w1.cell? ⟨w.heap.size,1,none⟩=some (.int .i64 t):=b1.cell 1;have c2:w1.cell? ⟨w.heap.size,2,none⟩=some (.int .i64 k):=b1.cell 2;have c3:w1.cell? ⟨w.heap.size,3,none⟩=some (.bool cn):=b1.cell 3;have hge:=hsrc.ge;have HSZ:=Lib.hid hz;clear hz)
    | (go_at_call 17
       refine (HV.out _ _ _ _ hsrc).mono ?_;rintro e w2 ⟨b,n,s,rest',rfl,hok,ho,hs2⟩;have hz:=HSZ.out;have b3:=b2.grown ho (by simp;omega);clear c0 c1 c2 c3;have c0:w2.cell? ⟨w.heap.size+1,0,none⟩=some (.bool false):=b3.cell 0;have c1:w2.cell? ⟨w.heap.size+1,1,none⟩=some (.int .i64 0):=b3.cell 1;have c2:w2.cell? ⟨w.heap.size+1,2,none⟩=some (.string { data:=#[] }):=b3.cell 2;have f0:=b3.frozen 0;have f1:=b3.frozen 1;have f2:=b3.frozen 2;have HW2:=Lib.hid (show Below w.heap.size w w2 from below_only (HBW.out.trans (hbel.mono HBW.out.size)) ho (by omega) (by have:=hbel.size;omega));have HOK:=Lib.hid hok;clear hz hok ho hs2 b1 b2 hsrc hbel))
  all_goals
    go_wp2;have h3:=((b3.set_ 0 (.bool b)).set_ 1 (.int .i64 n)).set_ 2 (.string s);have HX:=((HW2.out.setCell (p:=⟨w.heap.size+1,0,none⟩) (by simp) (.bool b)).setCell (p:=⟨w.heap.size+1,1,none⟩) (by simp) (.int .i64 n)).setCell (p:=⟨w.heap.size+1,2,none⟩) (by simp) (.string s);obtain ⟨X,hX⟩:∃ X,X=((w2.setCell ⟨w.heap.size+1,0,none⟩ (.bool b)).setCell ⟨w.heap.size+1,1,none⟩ (.int .i64 n)).setCell ⟨w.heap.size+1,2,none⟩ (.string s):=⟨_,rfl⟩
    rw[←hX]at h3 HX ⊢;have q0:X.cell? ⟨w.heap.size+1,0,none⟩=some (.bool b):=(h3.cell 0).trans (by simp);have q1:X.cell? ⟨w.heap.size+1,1,none⟩=some (.int .i64 n):=(h3.cell 1).trans (by simp);have q2:X.cell? ⟨w.heap.size+1,2,none⟩=some (.string s):=(h3.cell 2).trans (by simp);clear hX;exact bodyPost_ret (v:=.agg #[.bool b,.int .i64 n,.string s]) (by simp[results,Try.results9,go_sem,q0,q1,q2]) rfl ⟨b,n,s,rfl,HOK.out,HX⟩
end Go.Proofs.Ytncnhcmkhgfodaa
