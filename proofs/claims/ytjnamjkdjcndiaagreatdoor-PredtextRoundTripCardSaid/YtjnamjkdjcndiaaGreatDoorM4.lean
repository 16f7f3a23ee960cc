/-
  Words, plain laws and contracts on which the walks lean, in one text.
-/
import Derived.Test.YtjnamjkdjcndiaaGreatDoorProg
import Derived.Test.YtjnamjkdjcndiaaGreatDoorM1
import Derived.IntWalk
namespace Go.Proofs.YtjnamjkdjcndiaaGreatDoor
open Go.RowKit
set_option maxHeartbeats 2000000 in
theorem name_any (s:ByteArray) (w:World) (_hs:s.size≤9223372036854775807) :
  Calls Tryz.prog 41 #[.string s] w (Ret0 w (nameB s.data.toList)):=by
 rcases Nat.eq_zero_or_pos s.size with h0|h0
 ·have H:=Lib.hid (name_empty h0);have e0:s.toList.isEmpty=true:=by rw[toList_nil h0];rfl
  have e1:s.toList=[]:=toList_nil h0;clear h0;go_enter Tryz.func41,Tryz.ntmps41
  go_wp2;go_ret;exact Ret0.mk_ H.out
 have e0:s.toList.isEmpty=false:=toList_ne h0;by_cases h1:16<s.size
 ·have H:=Lib.hid (name_long h1);go_enter Tryz.func41,Tryz.ntmps41
  go_wp2;go_ret;exact Ret0.mk_ H.out
 by_cases h2:(s[0].toNat:Int)<97
 ·have H:=Lib.hid (name_head h0 (.inl (by omega)));go_enter Tryz.func41,Tryz.ntmps41
  go_wp2;go_ret;exact Ret0.mk_ H.out
 by_cases h3:122<(s[0].toNat:Int)
 ·have H:=Lib.hid (name_head h0 (.inr (by omega)));go_enter Tryz.func41,Tryz.ntmps41
  go_wp2;go_ret;exact Ret0.mk_ H.out
 by_cases h4:s.toList=[107,101,121]
 ·have H:=Lib.hid (name_key (by rw[←Go.ByteArray.toList_eq];exact h4));have h5:(s.toList == [107,101,121])=true:=by rw[h4];rfl
  clear h4;go_enter Tryz.func41,Tryz.ntmps41
  go_wp2;go_ret;exact Ret0.mk_ H.out
 have h5:(s.toList == [107,101,121])=false:=by rw[beq_eq_false_iff_ne];exact h4
 have hlow:lowB s[0]=true:=by unfold lowB;rw[decide_eq_true_eq];omega
 have HL:=Lib.hid hlow;have H4:=Lib.hid (show s.data.toList≠[107,101,121] by rw[←Go.ByteArray.toList_eq];exact h4);clear hlow h4;go_enter Tryz.func41,Tryz.ntmps41
 go_wp2;go_loop [28] (fun i=>∃ k:Nat,k≤s.size∧i=.int .i64 k∧OkTo s k) (fun i=>s.size - (intOf i).toNat)
 case atStart=>exact ⟨0,by omega,rfl,fun j hj h=>by omega⟩
 case round =>
  obtain ⟨k,hk,rfl,hok⟩:=hrel;by_cases hlt:k<s.size
  ·rcases ok_cases s[k] with ⟨ho,hc⟩ | ⟨ho,hc⟩
   ·have HO:=Lib.hid (hok.next hlt ho);clear ho hok;rcases hc with ⟨o1,o2⟩|⟨o1,o2⟩|o1
    ·go_wp2;go_round
     case rel=>exact ⟨k+1,by omega,by go_num,HO.out⟩
     case measure=>simp[intOf];omega
    ·go_wp2;go_round
     case rel=>exact ⟨k+1,by omega,by go_num,HO.out⟩
     case measure=>simp[intOf];omega
    ·have o2:((s[k].toNat:Int) != 95)=false:=by simp;omega
     have o3:95≤(s[k].toNat:Int):=by omega
     have o4:(s[k].toNat:Int)≤95:=by omega
     clear o1;go_wp2;go_round
     case rel=>exact ⟨k+1,by omega,by go_num,HO.out⟩
     case measure=>simp[intOf];omega
   ·have HN:=Lib.hid (name_char hlt ho);clear ho hok;have hne:((s[k].toNat:Int) != 95)=true:=by simp;omega
    rcases hc with o1|⟨o1,o2⟩|o1|o1
    ·go_wp2;go_ret;exact Ret0.mk_ HN.out
    ·go_wp2;go_ret;exact Ret0.mk_ HN.out
    ·have o3:96≤(s[k].toNat:Int):=by omega
     have o4:(s[k].toNat:Int)≤96:=by omega
     clear o1;go_wp2;go_ret;exact Ret0.mk_ HN.out
    ·go_wp2;go_ret;exact Ret0.mk_ HN.out
  ·go_wp2;go_ret;exact Ret0.mk_ (name_yes h0 (by omega) H4.out HL.out (fun j hj=>hok j hj (by omega)))
def upN:Nat→Int→Option Int
 | 0,n=>some n
 | k+1,n=>if 99999999999999999<n∨n < -99999999999999999 then none else upN k (n * 10)
def withB (n:Int):Bool:=decide (-999999999999999999≤n)&&decide (n≤999999999999999999)
def scaB (k:Int):Bool:=decide (0≤k)&&decide (k≤18)
def RetRs (w:World) (r:Int×Int) (e:Ending) (w':World):Prop:=e=.returned (.tuple #[.int .i64 r.1,.int .i64 r.2])∧w=w'
theorem RetRs.mk_ {w:World} {r:Int×Int} {a b:Int} (h:r=(a,b)):RetRs w r (.returned (.tuple #[.int .i64 a,.int .i64 b])) w:=by subst h;exact ⟨rfl,rfl⟩
def outR (R:Option Int):Int×Int:=match R with | some x=>(x,0) | none=>(0,8)
theorem withB_bd {n:Int} (h:withB n=true):-999999999999999999≤n∧n≤999999999999999999:=by simpa [withB] using h
theorem scaB_bd {n:Int} (h:scaB n=true):0≤n∧n≤18:=by simpa [scaB] using h
theorem within_any (n:Int) (w:World):Calls Tryz.prog 117 #[.int .i64 n] w fun e w'=>e=.returned (.bool (withB n))∧w=w':=by
 by_cases h1:-999999999999999999≤n
 ·by_cases h2:n≤999999999999999999
  all_goals
   go_enter Tryz.func117,Tryz.ntmps117
   go_wp2;go_ret;exact ⟨ret_bool (by simp[withB];omega),rfl⟩
 ·go_enter Tryz.func117,Tryz.ntmps117
  go_wp2;go_ret;exact ⟨ret_bool (by simp[withB];omega),rfl⟩
theorem scales_any (n:Int) (w:World):Calls Tryz.prog 118 #[.int .i64 n] w fun e w'=>e=.returned (.bool (scaB n))∧w=w':=by
 by_cases h1:0≤n
 ·by_cases h2:n≤18
  all_goals
   go_enter Tryz.func118,Tryz.ntmps118
   go_wp2;go_ret;exact ⟨ret_bool (by simp[scaB];omega),rfl⟩
 ·go_enter Tryz.func118,Tryz.ntmps118
  go_wp2;go_ret;exact ⟨ret_bool (by simp[scaB];omega),rfl⟩
theorem name_head' {s:ByteArray} {k:Nat} (hk:k<s.size) (h0:k=0) (h:lowB s[k]=false):nameB s.data.toList=false:=by
 subst h0;have:lowB (s.data.toList.headD 0)=false:=by rw[head_data s hk];exact h
 unfold nameB
 rw[this];simp
theorem low_cases (c:UInt8):(lowB c=true∧97≤(c.toNat:Int)∧(c.toNat:Int)≤122)∨(lowB c=false∧((c.toNat:Int)<97∨122<(c.toNat:Int))):=by
 by_cases h:97≤c.toNat∧c.toNat≤122
 ·exact .inl ⟨by unfold lowB;rw[decide_eq_true_eq];exact h,by omega⟩
 ·exact .inr ⟨by unfold lowB;rw[decide_eq_false_iff_not];exact h,by omega⟩
theorem low_ok {c:UInt8} (h:lowB c=true):okB c=true:=by
 unfold lowB at h;unfold okB;rw[decide_eq_true_eq]at h ⊢;exact .inl h
def LowTo (s:ByteArray) (k:Nat):Prop:=∀ (h:0<s.size),0<k→lowB s[0]=true
set_option maxHeartbeats 4000000 in
theorem rname_any (s:ByteArray) (w:World) (_hs:s.size≤9223372036854775807) :
  Calls Tryz.prog 77 #[.string s] w (Ret0 w (nameB s.data.toList)):=by
 rcases Nat.eq_zero_or_pos s.size with h0|h0
 ·have H:=Lib.hid (name_empty h0);go_enter Tryz.func77,Tryz.ntmps77
  go_wp2;go_ret;exact Ret0.mk_ H.out
 by_cases h1:16<s.size
 ·have H:=Lib.hid (name_long h1);go_enter Tryz.func77,Tryz.ntmps77
  go_wp2;go_ret;exact Ret0.mk_ H.out
 by_cases h4:s.toList=[107,101,121]
 ·have H:=Lib.hid (name_key (by rw[←Go.ByteArray.toList_eq];exact h4));have h5:(s.toList == [107,101,121])=true:=by rw[h4];rfl
  clear h4;go_enter Tryz.func77,Tryz.ntmps77
  go_wp2;go_ret;exact Ret0.mk_ H.out
 have h5:(s.toList == [107,101,121])=false:=by rw[beq_eq_false_iff_ne];exact h4
 have H4:=Lib.hid (show s.data.toList≠[107,101,121] by rw[←Go.ByteArray.toList_eq];exact h4);clear h4;go_enter Tryz.func77,Tryz.ntmps77
 go_wp2;go_loop [3] (fun i=>∃ k:Nat,k≤s.size∧i=.int .i64 k∧OkTo s k∧LowTo s k) (fun i=>s.size - (intOf i).toNat)
 case atStart=>exact ⟨0,by omega,rfl,fun j hj h=>by omega,fun h h'=>by omega⟩
 case round =>
  obtain ⟨k,hk,rfl,hok,hlw⟩:=hrel;by_cases hlt:k<s.size
  ·rcases low_cases s[k] with ⟨ho,o1,o2⟩ | ⟨ho,hc⟩
   ·have HO:=Lib.hid (hok.next hlt (low_ok ho));have HL:=Lib.hid (show LowTo s (k+1) from fun h _=>by
     rcases Nat.eq_zero_or_pos k with hz|hz
     ·subst hz;exact ho
     ·exact hlw h hz)
    clear ho hok hlw;go_wp2;exact ⟨⟨k+1,by omega,by go_num,HO.out,HL.out⟩,by simp[intOf];omega⟩
   ·rcases Nat.eq_zero_or_pos k with hz | hz
    ·have HN:=Lib.hid (name_head' hlt hz ho);have he:((k:Int)==0)=true:=beq_iff_eq.2 (by omega);clear ho hok hlw hz;rcases hc with o1|o1
     ·go_wp2;go_ret;exact Ret0.mk_ HN.out
     ·have hd:decide ((s[k].toNat:Int)≤122)=false:=by simp;omega
      go_wp2;go_ret;exact Ret0.mk_ HN.out
    ·have he:((k:Int)==0)=false:=beq_eq_false_iff_ne.2 (by omega);rcases ok_cases s[k] with ⟨ho2,hc2⟩|⟨ho2,hc2⟩
     ·have HO:=Lib.hid (hok.next hlt ho2);have HL:=Lib.hid (show LowTo s (k+1) from fun h _=>hlw h hz);clear ho ho2 hok hlw;rcases hc2 with ⟨q1,q2⟩|⟨q1,q2⟩|q1
      ·exfalso;omega
      ·have hne:((s[k].toNat:Int) != 95)=true:=by simp;omega
       clear hc;go_wp2;exact ⟨⟨k+1,by omega,by go_num,HO.out,HL.out⟩,by simp[intOf];omega⟩
      ·have hne:((s[k].toNat:Int) != 95)=false:=by simp;omega
       have q2:(s[k].toNat:Int)≤95:=by omega
       clear hc q1;go_wp2;exact ⟨⟨k+1,by omega,by go_num,HO.out,HL.out⟩,by simp[intOf];omega⟩
     ·have HN:=Lib.hid (name_char hlt ho2);have hne:((s[k].toNat:Int) != 95)=true:=by simp;omega
      clear ho ho2 hok hlw;rcases hc2 with q1|⟨q1,q2⟩|q1|q1
      ·clear hc;go_wp2;go_ret;exact Ret0.mk_ HN.out
      ·clear hc;go_wp2;go_ret;exact Ret0.mk_ HN.out
      ·have q3:96≤(s[k].toNat:Int):=by omega
       have q4:(s[k].toNat:Int)≤96:=by omega
       clear hc q1;go_wp2;go_ret;exact Ret0.mk_ HN.out
      ·clear hc;have hd:decide ((s[k].toNat:Int)≤122)=false:=by simp;omega
       go_wp2;go_ret;exact Ret0.mk_ HN.out
  ·go_wp2;go_ret;exact Ret0.mk_ (name_yes h0 (by omega) H4.out (hlw h0 (by omega)) (fun j hj=>hok j hj (by omega)))
def pick (v n:Int):Int:=(v % 18446744073709551616) % n
theorem pick_lo (v n:Int) (h:0<n):0≤pick v n:=Int.emod_nonneg _ (by omega)
theorem pick_hi (v n:Int) (h:0<n):pick v n<n:=Int.emod_lt_of_pos _ h
theorem pick_eq (v n:Int) (h0:0<n) (h1:n≤4294967296):wrap64 ((IntKind.u64.wrap v).tmod n)=pick v n:=by
 have a:0≤IntKind.u64.wrap v:=by rw[IntKind.wrap_u64];omega
 rw[Int.tmod_eq_emod_of_nonneg a,IntKind.wrap_u64];have:=pick_lo v n h0
 have:=pick_hi v n h0
 exact IntWalk.wrap64_in _ ⟨by show _≤pick v n;omega,by show pick v n≤_;omega⟩
set_option maxHeartbeats 400000 in
theorem pick_any (v n:Int) (w:World) (h0:0<n) (h1:n≤4294967296) :
  Calls Tryz.prog 19 #[.int .i64 v,.int .i64 n] w fun e w'=>e=.returned (.int .i64 (pick v n))∧w=w':=by
 go_enter Tryz.func19,Tryz.ntmps19
 go_wp2;go_ret;exact ⟨ret_int (pick_eq v n h0 h1),rfl⟩
end Go.Proofs.YtjnamjkdjcndiaaGreatDoor
