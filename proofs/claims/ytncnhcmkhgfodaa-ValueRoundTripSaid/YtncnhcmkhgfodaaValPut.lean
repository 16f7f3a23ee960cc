/-
 The contract of value.Put,and of the helper awake of the statements of layer 6.
-/
import Derived.Test.YtncnhcmkhgfodaaVarPut
import Derived.Test.YtncnhcmkhgfodaaM2
import Derived.Test.YtncnhcmkhgfodaaM1
import Derived.WalkSpells
import Derived.Lib.QuietBelow
import Derived.BigQuiet
namespace Go.Proofs.Ytncnhcmkhgfodaa
open Go.RowKit Go.Sort
def putV (nul:Bool) (n:Int) (s:ByteArray):List UInt8:=if nul then [0] else (1::Lib.uvarint (Lib.zigzag n))++Lib.uvarint s.size++s.data.toList
theorem bs_append (a b:ByteArray):(a++b).data.toList=a.data.toList++b.data.toList:=by simp
theorem reg_str {P:Program} {f:FuncId} {args:Array Value} {w:World} {l:List UInt8} (h:∀ W,Calls P f args W (RetStr W l)):∀ d os,Calls P f args (grow (redrawn w d) os) fun e w''=>e=.returned (.string ⟨l.toArray⟩)∧∃ p:Regrown,w''=grow (redrawn w p.d) p.os :=
 fun d os=>Calls.regrown_of ((h (grow (redrawn w d) os)).mono fun _ _ h=>h)
theorem reg_same {P:Program} {f:FuncId} {args:Array Value} {w:World} {v:Value} (h:∀ W,Calls P f args W fun e w'=>e=.returned v∧W=w'):∀ d os,Calls P f args (grow (redrawn w d) os) fun e w''=>e=.returned v∧∃ p:Regrown,w''=grow (redrawn w p.d) p.os :=
 fun d os=>(h (grow (redrawn w d) os)).mono fun _ _ h=>⟨h.1,⟨d,os⟩,h.2.symm⟩
set_option maxRecDepth 100000 in
set_option maxHeartbeats 1000000 in
theorem vPut_any (nul:Bool) (n:Int) (s:ByteArray) (w:World) (h0:-9223372036854775808≤n) (h1:n≤9223372036854775807) (hs:s.size≤1000000000000000) :
  Calls Try.prog 11 #[.agg #[.bool nul,.int .i64 n,.string s]] w (RetStr w (putV nul n s)):=by
 have hb:=(Below.refl w.heap.size w).alloc (Nat.le_refl _) (.cells #[.bool nul,.int .i64 n,.string s] 25);cases nul
 ·have hz:=Lib.zigzag_lt h0 h1;obtain ⟨W,hW⟩:∃ W,W=w.alloc (.cells #[.bool false,.int .i64 n,.string s] 25):=⟨_,rfl⟩
  have HZ:=Lib.hid (reg_same (w:=W) (fun X=>zig_any n X h0 h1));have HP1:=Lib.hid (reg_str (w:=W) (fun X=>vput_any (Lib.zigzag n) X hz));have HP2:=Lib.hid (reg_str (w:=W) (fun X=>vput_any s.size X (by omega)));have k1:=cell_regrown (show W.cell? ⟨w.heap.size,1,none⟩=some (.int .i64 n) by rw[hW];simp);have k2:=cell_regrown (show W.cell? ⟨w.heap.size,2,none⟩=some (.string s) by rw[hW];simp);have hu1:=Lib.uvarint_length64 hz;have hu2:=Lib.uvarint_length64 (show s.size<18446744073709551616 by omega);have HF:=Lib.hid (show (1::Lib.uvarint (Lib.zigzag n))++Lib.uvarint s.size++s.data.toList=putV false n s by simp[putV]);have HB:=Lib.hid (show Below w.heap.size w W by rw[hW];exact hb);clear hz h0 h1 hb;go_enter Try.func11,Try.ntmps11
  go_wp2_with fail
  rw[←hW];clear hW;refine wp_region_quiet_below (by kernel_rfl) (by kernel_rfl) ?_
  repeat (go_big_quiet_step ((first | (go_at_call 20;with_reducible exact HZ.out _ _) | (go_at_call 19;with_reducible exact HP1.out _ _) | (go_at_call 19;with_reducible exact HP2.out _ _))))
  refine wpQuiet_nil ?_
  intro _ hw'
  obtain ⟨⟨dq,osq⟩,hw''⟩:=hw';subst hw'';go_wp2;go_ret;exact RetStr.mk_ (by rw[←HF.out];simp) (bst HB.out (below_regrown W dq osq))
 ·go_enter Try.func11,Try.ntmps11
  go_wp2;go_ret;exact ⟨rfl,hb⟩
def RetB1' (w:World) (b:Bool) (e:Ending) (w':World):Prop:=e=.returned (.bool b)∧Below w.heap.size w w'
theorem put3:putV false 3 ⟨#[]⟩=[1,6,0]:=by
 have e1:Lib.zigzag 3=6:=by decide
 have e2:(⟨#[]⟩:ByteArray).size=0:=rfl;simp[putV,e1,e2,Lib.uvarint_small]
set_option maxHeartbeats 400000 in
theorem awake6_any (w:World):Calls Try.prog 8 #[] w (RetB1' w true):=by
 have H1:=Lib.hid put3;have H2:=Lib.hid (show cmpV 1 true 0 ⟨#[]⟩ false 0 ⟨#[]⟩=-1 by decide);go_enter Try.func8,Try.ntmps8
 go_wp2_with fail
 refine (vPut_any false 3 ⟨#[]⟩ w (by decide) (by decide) (by decide)).mono ?_;rw[H1.out];rintro e w1 ⟨rfl,hb1⟩;go_wp2_with fail
 refine (compare_any 1 true 0 ⟨#[]⟩ false 0 ⟨#[]⟩ w1).mono ?_;rw[H2.out];rintro e w2 ⟨rfl,hb2⟩;go_wp2;go_ret;exact ⟨rfl,bst hb1 hb2⟩
end Go.Proofs.Ytncnhcmkhgfodaa
