/-
  Words, plain laws and contracts on which the walks lean, in one text.
-/
import Derived.Test.YtjnamjkdjcndiaaGreatDoorM3
import Derived.Test.YtjnamjkdjcndiaaGreatDoorM1
import Derived.Deep.QuietTactic
import Derived.BigQuiet
import Derived.Laws.StructEq
import Derived.Deep.DeepCutAuto
import Derived.Deep.CutBlock
namespace Go.Proofs.YtjnamjkdjcndiaaGreatDoor
open Go.RowKit Go.Sort
set_option linter.unusedVariables false
set_option linter.unusedVariables false
set_option maxRecDepth 100000 in
set_option maxHeartbeats 1000000 in
theorem sameV_eq (a b:Value) (xs:List Vl) (w:World) (ha:Sl w 3 a xs.length (vls xs)) (hb:Sl w 3 b xs.length (vls xs)) :
  Calls Tryz.prog 29 #[a,b] w (QuietB w true):=by
 obtain ⟨A,c,rfl,hc1,hc2⟩:=ha.form;obtain ⟨A',c',rfl,hc1',hc2'⟩:=hb.form;unfold maxLen at hc2 hc2'
 go_enter Tryz.func29,Tryz.ntmps29
 go_wp2;go_loopw [13] (fun i wr=>∃ (k:Nat),k≤xs.length∧i=.int .i64 k∧(∃ m,wr=w.drewN m))
  (fun i _=>xs.length - (intOf i).toNat)
 case atStart=>exact ⟨0,by omega,rfl,⟨0,rfl⟩⟩
 case round =>
  obtain ⟨k,hk,rfl,⟨m,rfl⟩⟩:=hrel;by_cases hlt:k<xs.length
  ·obtain ⟨ad,x,p,rfl,hx,hp,hX⟩:=ha.vl_load rfl hlt;obtain ⟨bd,y,q,rfl,hy,hq,hY⟩:=hb.vl_load rfl hlt;rw[hx]at hy;injection hy with hy
   subst hy;obtain ⟨_,x0,x1,x2⟩:=hX;obtain ⟨_,y0,y1,y2⟩:=hY;clear hx;go_wp2;go_quiet (fail)
   go_wp2;go_roundw
   case rel=>exact ⟨k+1,by omega,by go_num,⟨_,rfl⟩⟩
   case measure=>simp[intOf];omega
  ·go_wp2;go_ret;exact QuietB.mk_ _ rfl
end Go.Proofs.YtjnamjkdjcndiaaGreatDoor
