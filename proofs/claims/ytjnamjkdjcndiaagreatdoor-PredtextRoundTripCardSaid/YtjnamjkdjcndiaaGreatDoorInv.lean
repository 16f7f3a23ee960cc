/-
 A region that draws its order,under an invariant: each operation is walked once.
-/
import Derived.RegionTactic
namespace Go.Proofs.YtjnamjkdjcndiaaGreatDoor
open Go
section
variable {P:Program} {ops:Array Oper} {Q:Exit→Act→World→Prop}
def upd (L:Nat→Bool) (i:Nat):Nat→Bool:=fun j=>if j=i then true else L j
def backward (ops:Array Oper):Bool:=(List.range ops.size).all fun i=>((ops[i]?).map (·.after.all fun e=>!Region.binds .any e || decide (e.on<i))).getD true
theorem ready_mem {listed:Array Bool} {i:Nat} (h:i ∈ Region.ready .any ops listed) :
  i<ops.size∧listed.getD i true=false∧∃ o,ops[i]?=some o∧∀ e ∈ o.after,Region.binds .any e=true→listed.getD e.on false=true:=by
 simp only[Region.ready,List.mem_filter,List.mem_range,Bool.and_eq_true,Bool.not_eq_true']at h;obtain ⟨h1,h2,h3⟩:=h;refine ⟨h1,h2,?_⟩
 cases ho:ops[i]? with
 | none=>simp[ho]at h3
 | some o =>
  refine ⟨o,rfl,fun e he hb=>?_⟩
  simp only[ho,Option.map_some,Option.getD_some,Array.all_eq_true_iff_forall_mem]at h3;have:=h3 e he
  simpa [hb] using this
theorem ready_nil (hb:backward ops=true) {listed:Array Bool} (hs:listed.size=ops.size) (h:Region.ready .any ops listed=[]) (i:Nat) :
  listed.getD i true=true:=by
 induction i using Nat.strongRecOn with
 | ind i ih =>
  by_cases hi:i<ops.size
  ·cases hl:listed.getD i true with
   | true=>rfl
   | false =>
    exfalso
    have hm:i ∈ Region.ready .any ops listed:=by
     simp only[Region.ready,List.mem_filter,List.mem_range,Bool.and_eq_true,Bool.not_eq_true'];refine ⟨hi,hl,?_⟩
     have ho:ops[i]?=some ops[i]:=Array.getElem?_eq_getElem hi;rw[ho];simp only[Option.map_some,Option.getD_some,Array.all_eq_true_iff_forall_mem];intro e he
     have hbi:=hb;simp only[backward,List.all_eq_true,List.mem_range]at hbi;have:=hbi i hi
     rw[ho]at this;simp only[Option.map_some,Option.getD_some,Array.all_eq_true_iff_forall_mem]at this;have:=this e he
     cases hbe:Region.binds .any e with
     | false=>simp
     | true =>
      simp only[hbe,Bool.not_true,Bool.false_or,decide_eq_true_eq]at this;have h2:=ih e.on this;have h3:e.on<listed.size:=by omega
      simp only[Array.getD_eq_getD_getElem?,Array.getElem?_eq_getElem h3,Option.getD_some]at h2 ⊢;simp[h2]
    rw[h]at hm;cases hm
  ·simp[Array.getD_eq_getD_getElem?,hs,hi]
theorem wpAny_inv (hb:backward ops=true) (I:(Nat→Bool)→Act→World→Prop)
  (hstep:∀ i o,ops[i]?=some o→∀ L a w,I L a w→L i=false→(∀ e ∈ o.after,Region.binds .any e=true→L e.on=true) →
   ∀ K:Act→World→Prop,(∀ a w,I (upd L i) a w→K a w)→if Region.wanted o (yielded ops a.tmps)=true then Oper.wp P o a w K Q else K (a.put o.dst undef) w)
  (hend:∀ a w,I (fun _=>true) a w→Q .normal a w) :
  ∀ (fuel:Nat) (listed:Array Bool) (a:Act) (w:World),listed.size=ops.size→listed.toList.count false≤fuel→I (fun j=>listed.getD j true) a w→wpAny P .any ops Q fuel listed a w:=by
 have hdone:∀ (listed:Array Bool) (a:Act) (w:World),listed.size=ops.size→I (fun j=>listed.getD j true) a w→Region.ready .any ops listed=[]→Q .normal a w:=by
  intro listed a w hs hi hr
  apply hend
  rw[show (fun _:Nat=>true)=(fun j=>listed.getD j true) from funext fun j=>(ready_nil hb hs hr j).symm];exact hi
 intro fuel
 induction fuel with
 | zero =>
  intro listed a w hs hc hi
  have hr:Region.ready .any ops listed=[]:=by
   rw[List.eq_nil_iff_forall_not_mem];intro i hm
   obtain ⟨h1,h2,_⟩:=ready_mem hm;have h3:i<listed.size:=by omega
   simp only[Array.getD_eq_getD_getElem?,Array.getElem?_eq_getElem h3,Option.getD_some]at h2;have:false ∈ listed.toList:=h2 ▸ (by simp)
   have:=List.count_pos_iff.2 this
   omega
  exact ⟨hr,hdone listed a w hs hi hr⟩
 | succ fuel ih =>
  intro listed a w hs hc hi
  refine ⟨hdone listed a w hs hi,fun i hm=>?_⟩
  obtain ⟨h1,h2,o,ho,hd⟩:=ready_mem hm;refine wpOp_step ho fun K hK=>?_
  refine hstep i o ho _ a w hi h2 (fun e he hbe=>?_) K fun a' w' hI=>hK a' w' (ih _ _ _ (by simpa using hs) ?_ ?_)
  ·have:=hd e he hbe
   rw[Array.getD_eq_getD_getElem?]at this ⊢;cases h:listed[e.on]? with
   | none=>rfl
   | some b=>rw[h]at this;simpa using this
  ·have h3:i<listed.size:=by omega
   have h4:listed[i]=false:=by simpa only[Array.getD_eq_getD_getElem?,Array.getElem?_eq_getElem h3,Option.getD_some] using h2
   have h5:(listed.setIfInBounds i true).toList=listed.toList.set i true:=by simp
   have h6:listed.toList[i]'(by simpa using h3)=false:=by simpa using h4
   have h7:false ∈ listed.toList:=by rw[←h6];exact List.getElem_mem _
   have:=List.count_pos_iff.2 h7
   rw[h5,List.count_set (by simpa using h3),h6];simp only[beq_self_eq_true,if_true,show (true==false)=false from rfl,Bool.false_eq_true,if_false];omega
  ·have he:(fun j=>(listed.setIfInBounds i true).getD j true)=upd (fun j=>listed.getD j true) i:=by
    funext j
    have h3:i<listed.size:=by omega
    by_cases hj:j=i
    ·subst hj;simp[upd,Array.getD_eq_getD_getElem?,h3]
    ·simp[upd,Array.getD_eq_getD_getElem?,hj,Array.getElem?_setIfInBounds_ne (Ne.symm hj)]
   rw[he];exact hI
def Steps (P:Program) (ops:Array Oper) (Q:Exit→Act→World→Prop) (I:(Nat→Bool)→Act→World→Prop):Nat→List Oper→Prop
 | _,[]=>True
 | i,o::r=>(∀ L a w,I L a w→L i=false→(o.after.toList.all fun e=>!Region.binds .any e || L e.on)=true →
   ∀ K:Act→World→Prop,(∀ a w,I (upd L i) a w→K a w)→if Region.wanted o (yielded ops a.tmps)=true then Oper.wp P o a w K Q else K (a.put o.dst undef) w)∧Steps P ops Q I (i+1) r
theorem Steps.get {I:(Nat→Bool)→Act→World→Prop}:∀ (l:List Oper) (k:Nat),Steps P ops Q I k l→∀ i o,l[i]?=some o→∀ L a w,I L a w→L (k+i)=false→(o.after.toList.all fun e=>!Region.binds .any e || L e.on)=true →
   ∀ K:Act→World→Prop,(∀ a w,I (upd L (k+i)) a w→K a w)→if Region.wanted o (yielded ops a.tmps)=true then Oper.wp P o a w K Q else K (a.put o.dst undef) w
 | [],_,_,i,o,h=>by simp at h
 | x::r,k,hs,0,o,h=>by simp at h;subst h;exact hs.1
 | x::r,k,hs,i+1,o,h=>by
  have:=Steps.get r (k+1) hs.2 i o (by simpa using h)
  rwa [show k+1+i=k+(i+1) by omega]at this
theorem wp_region_inv {id:Nat} {a:Act} {w:World} (hm:P.follows .mixedOrders=true) (hb:backward ops=true) (I:(Nat→Bool)→Act→World→Prop)
  (h0:I (fun j=>decide (ops.size≤j)) a w.drew)
  (hstep:Steps P ops Q I 0 ops.toList)
  (hend:∀ a w,I (fun _=>true) a w→Q .normal a w):(Code.region id ops true).wp P Q a w:=by
 refine wp_region_any hm (wpAny_inv hb I ?_ hend _ _ _ _ (by simp) (by simp) ?_)
 ·intro i o ho L a w hI hl hd K hK
  have:=Steps.get ops.toList 0 hstep i o (by simpa using ho) L a w hI (by simpa using hl) ?_ K (by simpa using hK)
  ·exact this
  ·rw[List.all_eq_true];intro e he
   cases hbe:Region.binds .any e with
   | false=>rfl
   | true=>simpa [hbe] using hd e (by simpa using he) hbe
 ·have:(fun j=>(Array.replicate ops.size false).getD j true)=fun j=>decide (ops.size≤j):=by
   funext j
   by_cases hj:j<ops.size
   ·simp[Array.getD_eq_getD_getElem?,hj]
   ·simp[Array.getD_eq_getD_getElem?,hj];omega
  rw[this];exact h0
end
theorem ex16 {A0 A1 A2 A3 A4 A5 A6 A7 A8 A9 A10 A11 A12 A13 A14 A15 : Sort _} {p : A0 → A1 → A2 → A3 → A4 → A5 → A6 → A7 → A8 → A9 → A10 → A11 → A12 → A13 → A14 → A15 → Prop} {r : Prop} (k : ∀ x0 x1 x2 x3 x4 x5 x6 x7 x8 x9 x10 x11 x12 x13 x14 x15, p x0 x1 x2 x3 x4 x5 x6 x7 x8 x9 x10 x11 x12 x13 x14 x15 → r) : (∃ x0 x1 x2 x3 x4 x5 x6 x7 x8 x9 x10 x11 x12 x13 x14 x15, p x0 x1 x2 x3 x4 x5 x6 x7 x8 x9 x10 x11 x12 x13 x14 x15) → r := fun ⟨x0, x1, x2, x3, x4, x5, x6, x7, x8, x9, x10, x11, x12, x13, x14, x15, h⟩ => k x0 x1 x2 x3 x4 x5 x6 x7 x8 x9 x10 x11 x12 x13 x14 x15 h
theorem un16 {a0 a1 a2 a3 a4 a5 a6 a7 a8 a9 a10 a11 a12 a13 a14 a15 e r : Prop} (k : a0 → a1 → a2 → a3 → a4 → a5 → a6 → a7 → a8 → a9 → a10 → a11 → a12 → a13 → a14 → a15 → e → r) : a0 ∧ a1 ∧ a2 ∧ a3 ∧ a4 ∧ a5 ∧ a6 ∧ a7 ∧ a8 ∧ a9 ∧ a10 ∧ a11 ∧ a12 ∧ a13 ∧ a14 ∧ a15 ∧ e → r := fun ⟨h0, h1, h2, h3, h4, h5, h6, h7, h8, h9, h10, h11, h12, h13, h14, h15, h⟩ => k h0 h1 h2 h3 h4 h5 h6 h7 h8 h9 h10 h11 h12 h13 h14 h15 h
theorem ex8 {A0 A1 A2 A3 A4 A5 A6 A7 : Sort _} {p : A0 → A1 → A2 → A3 → A4 → A5 → A6 → A7 → Prop} {r : Prop} (k : ∀ x0 x1 x2 x3 x4 x5 x6 x7, p x0 x1 x2 x3 x4 x5 x6 x7 → r) : (∃ x0 x1 x2 x3 x4 x5 x6 x7, p x0 x1 x2 x3 x4 x5 x6 x7) → r := fun ⟨x0, x1, x2, x3, x4, x5, x6, x7, h⟩ => k x0 x1 x2 x3 x4 x5 x6 x7 h
theorem un8 {a0 a1 a2 a3 a4 a5 a6 a7 e r : Prop} (k : a0 → a1 → a2 → a3 → a4 → a5 → a6 → a7 → e → r) : a0 ∧ a1 ∧ a2 ∧ a3 ∧ a4 ∧ a5 ∧ a6 ∧ a7 ∧ e → r := fun ⟨h0, h1, h2, h3, h4, h5, h6, h7, h⟩ => k h0 h1 h2 h3 h4 h5 h6 h7 h
theorem ex4 {A0 A1 A2 A3 : Sort _} {p : A0 → A1 → A2 → A3 → Prop} {r : Prop} (k : ∀ x0 x1 x2 x3, p x0 x1 x2 x3 → r) : (∃ x0 x1 x2 x3, p x0 x1 x2 x3) → r := fun ⟨x0, x1, x2, x3, h⟩ => k x0 x1 x2 x3 h
theorem un4 {a0 a1 a2 a3 e r : Prop} (k : a0 → a1 → a2 → a3 → e → r) : a0 ∧ a1 ∧ a2 ∧ a3 ∧ e → r := fun ⟨h0, h1, h2, h3, h⟩ => k h0 h1 h2 h3 h
theorem ex2 {A0 A1 : Sort _} {p : A0 → A1 → Prop} {r : Prop} (k : ∀ x0 x1, p x0 x1 → r) : (∃ x0 x1, p x0 x1) → r := fun ⟨x0, x1, h⟩ => k x0 x1 h
theorem un2 {a0 a1 e r : Prop} (k : a0 → a1 → e → r) : a0 ∧ a1 ∧ e → r := fun ⟨h0, h1, h⟩ => k h0 h1 h
theorem ex1 {A0 : Sort _} {p : A0 → Prop} {r : Prop} (k : ∀ x0, p x0 → r) : (∃ x0, p x0) → r := fun ⟨x0, h⟩ => k x0 h
theorem un1 {a0 e r : Prop} (k : a0 → e → r) : a0 ∧ e → r := fun ⟨h0, h⟩ => k h0 h
theorem jA {α : Type _} {xs : List α} {i : Nat} : xs.toArray[i]? = xs[i]? := List.getElem?_toArray
theorem jZ {α : Type _} {a : α} {s : List α} : (a :: s)[0]? = some a := List.getElem?_cons_zero
theorem jS {α : Type _} {a : α} {s : List α} {i : Nat} : (a :: s)[i + 1]? = s[i]? := List.getElem?_cons_succ
theorem jI {α : Type _} {xs : List α} {i : Nat} {a : α} : xs.toArray.setIfInBounds i a = (xs.set i a).toArray := List.setIfInBounds_toArray xs i a
theorem jY {α : Type _} {a b : α} {s : List α} : (a :: s).set 0 b = b :: s := List.set_cons_zero
theorem jT {α : Type _} {a b : α} {s : List α} {i : Nat} : (a :: s).set (i + 1) b = a :: s.set i b := List.set_cons_succ
end Go.Proofs.YtjnamjkdjcndiaaGreatDoor
