/-
  Words, plain laws and contracts on which the walks lean, in one text.
-/
import Derived.RegionTactic
import Derived.WalkKit
import Derived.Lib.Hide
import Derived.Deep.Draws
import Derived.WalkSpells
import Derived.Maps.AppendAt
import Derived.Test.YtoikgjhekemjdaaProg
import Derived.WalkLawsBesides
import Derived.Deep.AppendLies
import Derived.OwnWalk
import Derived.Test.YtoikgjhekemjdaaRows
import Derived.ProofKit
import Derived.OpenShut
import Derived.ShutString
import Derived.ChangeOld
import Derived.JoinedCond
import Derived.Lib.SmallJoins
namespace Go.Proofs.Ytoikgjhekemjdaa
open Go
section
variable {P : Program} {ops : Array Oper} {Q : Exit → Act → World → Prop}
def upd (L : Nat → Bool) (i : Nat) : Nat → Bool := fun j => if j = i then true else L j
def backward (ops : Array Oper) : Bool := (List.range ops.size).all fun i => ((ops[i]?).map (·.after.all fun e => !Region.binds .any e || decide (e.on < i))).getD true
theorem ready_mem {listed : Array Bool} {i : Nat} (h : i ∈ Region.ready .any ops listed) :
    i < ops.size ∧ listed.getD i true = false ∧ ∃ o, ops[i]? = some o ∧ ∀ e ∈ o.after, Region.binds .any e = true → listed.getD e.on false = true := by
  simp only [Region.ready, List.mem_filter, List.mem_range, Bool.and_eq_true, Bool.not_eq_true'] at h
  obtain ⟨h1, h2, h3⟩ := h
  refine ⟨h1, h2, ?_⟩
  cases ho : ops[i]? with
  | none => simp [ho] at h3
  | some o =>
    refine ⟨o, rfl, fun e he hb => ?_⟩
    simp only [ho, Option.map_some, Option.getD_some, Array.all_eq_true_iff_forall_mem] at h3
    have := h3 e he
    simpa [hb] using this
theorem ready_nil (hb : backward ops = true) {listed : Array Bool} (hs : listed.size = ops.size) (h : Region.ready .any ops listed = []) (i : Nat) :
    listed.getD i true = true := by
  induction i using Nat.strongRecOn with
  | ind i ih =>
    by_cases hi : i < ops.size
    · cases hl : listed.getD i true with
      | true => rfl
      | false =>
        exfalso
        have hm : i ∈ Region.ready .any ops listed := by
          simp only [Region.ready, List.mem_filter, List.mem_range, Bool.and_eq_true, Bool.not_eq_true']
          refine ⟨hi, hl, ?_⟩
          have ho : ops[i]? = some ops[i] := Array.getElem?_eq_getElem hi
          rw [ho]
          simp only [Option.map_some, Option.getD_some, Array.all_eq_true_iff_forall_mem]
          intro e he
          have hbi := hb
          simp only [backward, List.all_eq_true, List.mem_range] at hbi
          have := hbi i hi
          rw [ho] at this
          simp only [Option.map_some, Option.getD_some, Array.all_eq_true_iff_forall_mem] at this
          have := this e he
          cases hbe : Region.binds .any e with
          | false => simp
          | true =>
            simp only [hbe, Bool.not_true, Bool.false_or, decide_eq_true_eq] at this
            have h2 := ih e.on this
            have h3 : e.on < listed.size := by omega
            simp only [Array.getD_eq_getD_getElem?, Array.getElem?_eq_getElem h3, Option.getD_some] at h2 ⊢
            simp [h2]
        rw [h] at hm
        cases hm
    · simp [Array.getD_eq_getD_getElem?, hs, hi]
theorem wpAny_inv (hb : backward ops = true) (I : (Nat → Bool) → Act → World → Prop)
    (hstep : ∀ i o, ops[i]? = some o → ∀ L a w, I L a w → L i = false → (∀ e ∈ o.after, Region.binds .any e = true → L e.on = true) →
      ∀ K : Act → World → Prop, (∀ a w, I (upd L i) a w → K a w) → if Region.wanted o (yielded ops a.tmps) = true then Oper.wp P o a w K Q else K (a.put o.dst undef) w)
    (hend : ∀ a w, I (fun _ => true) a w → Q .normal a w) :
    ∀ (fuel : Nat) (listed : Array Bool) (a : Act) (w : World), listed.size = ops.size → listed.toList.count false ≤ fuel → I (fun j => listed.getD j true) a w → wpAny P .any ops Q fuel listed a w := by
  have hdone : ∀ (listed : Array Bool) (a : Act) (w : World), listed.size = ops.size → I (fun j => listed.getD j true) a w → Region.ready .any ops listed = [] → Q .normal a w := by
    intro listed a w hs hi hr
    apply hend
    rw [show (fun _ : Nat => true) = (fun j => listed.getD j true) from funext fun j => (ready_nil hb hs hr j).symm]
    exact hi
  intro fuel
  induction fuel with
  | zero =>
    intro listed a w hs hc hi
    have hr : Region.ready .any ops listed = [] := by
      rw [List.eq_nil_iff_forall_not_mem]
      intro i hm
      obtain ⟨h1, h2, _⟩ := ready_mem hm
      have h3 : i < listed.size := by omega
      simp only [Array.getD_eq_getD_getElem?, Array.getElem?_eq_getElem h3, Option.getD_some] at h2
      have : false ∈ listed.toList := h2 ▸ (by simp)
      have := List.count_pos_iff.2 this
      omega
    exact ⟨hr, hdone listed a w hs hi hr⟩
  | succ fuel ih =>
    intro listed a w hs hc hi
    refine ⟨hdone listed a w hs hi, fun i hm => ?_⟩
    obtain ⟨h1, h2, o, ho, hd⟩ := ready_mem hm
    refine wpOp_step ho fun K hK => ?_
    refine hstep i o ho _ a w hi h2 (fun e he hbe => ?_) K fun a' w' hI => hK a' w' (ih _ _ _ (by simpa using hs) ?_ ?_)
    · have := hd e he hbe
      rw [Array.getD_eq_getD_getElem?] at this ⊢
      cases h : listed[e.on]? with
      | none => rfl
      | some b => rw [h] at this; simpa using this
    · have h3 : i < listed.size := by omega
      have h4 : listed[i] = false := by simpa only [Array.getD_eq_getD_getElem?, Array.getElem?_eq_getElem h3, Option.getD_some] using h2
      have h5 : (listed.setIfInBounds i true).toList = listed.toList.set i true := by simp
      have h6 : listed.toList[i]'(by simpa using h3) = false := by simpa using h4
      have h7 : false ∈ listed.toList := by rw [← h6]; exact List.getElem_mem _
      have := List.count_pos_iff.2 h7
      rw [h5, List.count_set (by simpa using h3), h6]
      simp only [beq_self_eq_true, if_true, show (true == false) = false from rfl, Bool.false_eq_true, if_false]
      omega
    · have he : (fun j => (listed.setIfInBounds i true).getD j true) = upd (fun j => listed.getD j true) i := by
        funext j
        have h3 : i < listed.size := by omega
        by_cases hj : j = i
        · subst hj; simp [upd, Array.getD_eq_getD_getElem?, h3]
        · simp [upd, Array.getD_eq_getD_getElem?, hj, Array.getElem?_setIfInBounds_ne (Ne.symm hj)]
      rw [he]; exact hI
def Steps (P : Program) (ops : Array Oper) (Q : Exit → Act → World → Prop) (I : (Nat → Bool) → Act → World → Prop) : Nat → List Oper → Prop
  | _, [] => True
  | i, o :: r => (∀ L a w, I L a w → L i = false → (o.after.toList.all fun e => !Region.binds .any e || L e.on) = true →
      ∀ K : Act → World → Prop, (∀ a w, I (upd L i) a w → K a w) → if Region.wanted o (yielded ops a.tmps) = true then Oper.wp P o a w K Q else K (a.put o.dst undef) w) ∧ Steps P ops Q I (i + 1) r
theorem Steps.get {I : (Nat → Bool) → Act → World → Prop} : ∀ (l : List Oper) (k : Nat), Steps P ops Q I k l → ∀ i o, l[i]? = some o → ∀ L a w, I L a w → L (k + i) = false → (o.after.toList.all fun e => !Region.binds .any e || L e.on) = true →
      ∀ K : Act → World → Prop, (∀ a w, I (upd L (k + i)) a w → K a w) → if Region.wanted o (yielded ops a.tmps) = true then Oper.wp P o a w K Q else K (a.put o.dst undef) w
  | [], _, _, i, o, h => by simp at h
  | x :: r, k, hs, 0, o, h => by simp at h; subst h; exact hs.1
  | x :: r, k, hs, i + 1, o, h => by
    have := Steps.get r (k + 1) hs.2 i o (by simpa using h)
    rwa [show k + 1 + i = k + (i + 1) by omega] at this
theorem wp_region_inv {id : Nat} {a : Act} {w : World} (hm : P.follows .mixedOrders = true) (hb : backward ops = true) (I : (Nat → Bool) → Act → World → Prop)
    (h0 : I (fun j => decide (ops.size ≤ j)) a w.drew)
    (hstep : Steps P ops Q I 0 ops.toList)
    (hend : ∀ a w, I (fun _ => true) a w → Q .normal a w) : (Code.region id ops true).wp P Q a w := by
  refine wp_region_any hm (wpAny_inv hb I ?_ hend _ _ _ _ (by simp) (by simp) ?_)
  · intro i o ho L a w hI hl hd K hK
    have := Steps.get ops.toList 0 hstep i o (by simpa using ho) L a w hI (by simpa using hl) ?_ K (by simpa using hK)
    · exact this
    · rw [List.all_eq_true]
      intro e he
      cases hbe : Region.binds .any e with
      | false => rfl
      | true => simpa [hbe] using hd e (by simpa using he) hbe
  · have : (fun j => (Array.replicate ops.size false).getD j true) = fun j => decide (ops.size ≤ j) := by
      funext j
      by_cases hj : j < ops.size
      · simp [Array.getD_eq_getD_getElem?, hj]
      · simp [Array.getD_eq_getD_getElem?, hj]; omega
    rw [this]; exact h0
end
end Go.Proofs.Ytoikgjhekemjdaa
namespace Go.Proofs.Ytoikgjhekemjdaa
open Go.RowKit

theorem block_of_add (a : Addr) (n : Nat) : (a.add n).block = a.block := by unfold Addr.add; split <;> rfl
theorem add_of_add (a : Addr) (i j : Nat) : (a.add i).add j = a.add (i + j) := by
  unfold Addr.add
  by_cases hi : i = 0 <;> by_cases hj : j = 0 <;> simp [hi, hj, Nat.add_assoc]

/-- The slice value v of n elements (size cells each) reads as the cells xs. -/
def Sl (w : World) (size : Nat) (v : Value) (n : Nat) (xs : List Value) : Prop :=
  ∃ A c, v = .slice A n c ∧ n ≤ c ∧ c ≤ maxLen ∧ xs.length = n * size ∧ (0 < n → ∃ ad, A = some ad ∧ ad.block < w.heap.size ∧ ∀ j u, xs[j]? = some u → w.cell? (ad.add j) = some u)

section
variable {w w' : World} {B size n : Nat} {v : Value} {xs : List Value}
theorem Sl.nil (w : World) (size : Nat) : Sl w size (.slice none 0 0) 0 [] := ⟨none, 0, rfl, Nat.le_refl _, by simp [maxLen], by simp, fun h => absurd h (by omega)⟩
theorem Sl.keep (h : Sl w size v n xs) (hs : w.heap.size ≤ w'.heap.size) (hk : ∀ p : Addr, p.block < w.heap.size → w'.cell? p = w.cell? p) : Sl w' size v n xs := by
  obtain ⟨A, c, e, h1, h2, h3, h4⟩ := h
  refine ⟨A, c, e, h1, h2, h3, fun hn => ?_⟩
  obtain ⟨ad, e, hb, hc⟩ := h4 hn
  exact ⟨ad, e, by omega, fun j u hu => (hk _ (by rw [block_of_add]; exact hb)).trans (hc j u hu)⟩
theorem Sl.below (h : Sl w size v n xs) (hb : Below w.heap.size w w') : Sl w' size v n xs := h.keep hb.size fun _ hp => hb.cell hp
theorem Sl.drew (h : Sl w size v n xs) : Sl w.drew size v n xs := h
theorem Sl.drewN (h : Sl w size v n xs) (k : Nat) : Sl (w.drewN k) size v n xs := h
theorem Sl.alloc (h : Sl w size v n xs) (o : Obj) : Sl (w.alloc o) size v n xs := h.keep (by simp) fun p hp => World.cell?_alloc_lt w o p (by omega)
theorem Sl.of_own {base : Nat} {e : TypeId} (h : w.ownsRow base e size v n xs) : Sl w size v n xs := by
  obtain ⟨h1, h2⟩ := h
  rcases h2 with ⟨rfl, rfl⟩ | ⟨g, cap, cur, rfl, hb, hg, hn, hc, hcs, ht⟩
  · exact ⟨none, 0, rfl, Nat.le_refl _, by simp [maxLen], h1, fun h => absurd h (by omega)⟩
  · refine ⟨some ⟨g, 0, none⟩, cap, rfl, hn, hc, h1, fun _ => ⟨_, rfl, (Array.getElem?_eq_some_iff.1 hg).1, ?_⟩⟩
    exact World.ownsRow.cells (base := base) (e := e) ⟨h1, .inr ⟨g, cap, cur, rfl, hb, hg, hn, hc, hcs, ht⟩⟩ rfl
/-- One-cell elements: the cell of element k. -/
theorem Sl.at_ {A : Option Addr} {c k : Nat} (h : Sl w 1 (.slice A n c) n xs) (hk : k < n) : ∃ ad u, A = some ad ∧ ad.block < w.heap.size ∧ xs[k]? = some u ∧ w.cell? (ad.add k) = some u := by
  obtain ⟨A', c', e, h1, h2, h3, h4⟩ := h
  injection e with e1 e2 e3
  subst e1
  obtain ⟨ad, e, hb, hc⟩ := h4 (by omega)
  have hl : k < xs.length := by omega
  exact ⟨ad, xs[k], e, hb, List.getElem?_eq_getElem hl, hc k _ (List.getElem?_eq_getElem hl)⟩
theorem Sl.form (h : Sl w size v n xs) : ∃ A c, v = .slice A n c ∧ n ≤ c ∧ c ≤ maxLen := by
  obtain ⟨A, c, e, h1, h2, _⟩ := h
  exact ⟨A, c, e, h1, h2⟩
end

/-- Only new blocks: nothing that was there has turned. -/
theorem Below.step {B : Nat} {a w w' : World} (h : Below B a w) (hB : B ≤ w.heap.size) (k : Below w.heap.size w w') : Below B a w' := h.trans (k.mono hB)
theorem bst {a w w' : World} (h : Below a.heap.size a w) (k : Below w.heap.size w w') : Below a.heap.size a w' := h.trans (k.mono h.size)
theorem below_drewN {B : Nat} {a w : World} (h : Below B a w) (n : Nat) : Below B a (w.drewN n) := ⟨h.os, h.tape, h.output, h.size, h.block⟩

theorem bcell {W w1 : World} (hb : Below W.heap.size W w1) : (∀ b o, b < W.heap.size → w1.cell? ⟨b, o, none⟩ = W.cell? ⟨b, o, none⟩) ∧ (∀ b o, b < W.heap.size → w1.frozen? ⟨b, o, none⟩ = W.frozen? ⟨b, o, none⟩) :=
  ⟨fun b o h => hb.cell (p := ⟨b, o, none⟩) h, fun b o h => hb.frozen (p := ⟨b, o, none⟩) h⟩

/-- What is owned stays owned over calls that only make new memory. -/
theorem own_below {w w' : World} {base : Nat} {e : TypeId} {size : Nat} {v : Value} {n : Nat} {xs : List Value} (h : w.ownsRow base e size v n xs) (hb : Below w.heap.size w w') : w'.ownsRow base e size v n xs := by
  obtain ⟨h1, h2⟩ := h
  refine ⟨h1, ?_⟩
  rcases h2 with h2 | ⟨g, cap, cur, rfl, hb', hg, r⟩
  · exact .inl h2
  · exact .inr ⟨g, cap, cur, rfl, hb', by rw [hb.block g (Array.getElem?_eq_some_iff.1 hg).1]; exact hg, r⟩
theorem own_mono {w : World} {base base' : Nat} {e : TypeId} {size : Nat} {v : Value} {n : Nat} {xs : List Value} (h : w.ownsRow base e size v n xs) (hb : base' ≤ base) : w.ownsRow base' e size v n xs := by
  obtain ⟨h1, h2⟩ := h
  refine ⟨h1, ?_⟩
  rcases h2 with h2 | ⟨g, cap, cur, rfl, hb', r⟩
  · exact .inl h2
  · exact .inr ⟨g, cap, cur, rfl, by omega, r⟩
/-- A cell that is there is there behind a new block. -/
theorem cell_alloc {w : World} {p : Addr} {v : Value} (h : w.cell? p = some v) (o : Obj) : (w.alloc o).cell? p = some v := (World.cell?_alloc_lt w o p (World.block_lt_of_cell? w p h)).trans h
theorem ret_int {k : IntKind} {a b : Int} (h : a = b) : Ending.returned (.int k a) = .returned (.int k b) := by rw [h]
theorem ret_bool {a b : Bool} (h : a = b) : Ending.returned (.bool a) = .returned (.bool b) := by rw [h]

/-- The call returns a slice in new memory that owns the n elements whose cells are xs; nothing that was there has turned. -/
def RetRow (w : World) (e : TypeId) (size n : Nat) (xs : List Value) (d : Ending) (w' : World) : Prop := ∃ v, d = .returned v ∧ Below w.heap.size w w' ∧ w'.ownsRow w.heap.size e size v n xs
theorem RetRow.nil_ (w : World) (e : TypeId) (size : Nat) {n : Nat} {xs : List Value} (h : xs = []) (hn : n = 0) : RetRow w e size n xs (.returned (.slice none 0 0)) w := by
  subst h; subst hn; exact ⟨_, rfl, Below.refl _ _, World.ownsRow_nil _ _ _ _⟩
theorem RetRow.mk_ {w w' : World} {e : TypeId} {size n n' : Nat} {v : Value} {xs xs' : List Value} (hb : Below w.heap.size w w') (h : w'.ownsRow w.heap.size e size v n xs) (hn : n = n') (hx : xs = xs') : RetRow w e size n' xs' (.returned v) w' := by
  subst hn; subst hx; exact ⟨v, rfl, hb, h⟩

/-- The new cell of 'append(out, x)'. -/
theorem news_one {w : World} {u : Value} {t : TypeId} : ∀ j v, ([u] : List Value)[j]? = some v → (w.alloc (.cells #[u] t)).cell? ((⟨w.heap.size, 0, none⟩ : Addr).add j) = some v := by
  intro j v hj
  match j, hj with
  | 0, hj => simp at hj; subst hj; simp [Addr.add]
theorem grown_trans' {a b c : World} {row : Option Nat} (h : a.grownBy b row) (k : b.grownBy c row) : a.grownBy c row :=
  ⟨k.os.trans h.os, k.tape.trans h.tape, k.output.trans h.output, Nat.le_trans h.size k.size, fun i hi hne => (k.block i (Nat.lt_of_lt_of_le hi h.size) hne).trans (h.block i hi hne)⟩

/-- 'out = append(out, x)', out the call's own: behind it out owns one element more; nothing else that was there has turned. -/
theorem app1 {P : Program} {w w0 : World} {B : Nat} {ops : Array Oper} {rest : List Oper} {o : Oper} {a : Act} {Q : Exit → Act → World → Prop} (s x : Operand) {t e : TypeId} {z : Value} {size bytes base : Nat} {v : Value} {n : Nat} {xs : List Value} {us : Array Value}
    (hown : w.ownsRow base e size v n xs) (hbel : Below B w0 w) (hB : B ≤ base) (hbase : base ≤ w.heap.size)
    (ht : P.underlying t = some (.slice e)) (hinfo : (P.info? e).map (fun i => (i.zero, i.size, i.bytes)) = some (some z, size, bytes)) (hzs : z.cells.size = size) (hsz : 0 < size)
    (hus : us.size = size) (h1 : ∀ u ∈ us.toList, u.oneCell' = true) (hbytes : (n + 1) * bytes ≤ 140737488355328) (hn : n < 140737488355328)
    (hgd : o.guard = none) (ho : o.op = .call { callee := .builtin .append, args := #[s, x], argTypes := #[t, t] })
    (hs : a.eval s = v) (hx : a.eval x = .slice (some ⟨w.heap.size, 0, none⟩) 1 1)
    (h : ∀ g cap w', w'.ownsRow base e size (.slice (some ⟨g, 0, none⟩) (n + 1) cap) (n + 1) (xs ++ us.toList) → Below B w0 w' → w.grownBy w' v.ownBlock → ((Value.slice (some ⟨g, 0, none⟩) (n + 1) cap).ownBlock = v.ownBlock ∨ ∃ b, (Value.slice (some ⟨g, 0, none⟩) (n + 1) cap).ownBlock = some b ∧ w.heap.size ≤ b) → wpList P ops Q rest (a.put o.dst (.slice (some ⟨g, 0, none⟩) (n + 1) cap)) w') :
    wpList P ops Q (o :: rest) a (w.alloc (.cells us e)) := by
  obtain ⟨i, hi, hz, hs1, hby⟩ := info_parts hinfo
  have hnews : ∀ j u, us.toList[j]? = some u → (w.alloc (.cells us e)).cell? ((⟨w.heap.size, 0, none⟩ : Addr).add j) = some u := by
    intro j u hj
    have hj' : us[j]? = some u := by simpa using hj
    have e1 : (⟨w.heap.size, 0, none⟩ : Addr).add j = ⟨w.heap.size, j, none⟩ := by unfold Addr.add; split <;> simp_all
    rw [e1, cell_of_row _ w.heap.size j us e (0, 0) (heap_alloc_new w _)]
    exact hj'
  obtain ⟨v', w', hrun, h2, h3, _, h5⟩ := run_append_own_at (P := P) (w.alloc (.cells us e)) base t o.type e i z size bytes ht hi hz hs1 hby hzs hsz v n xs (hown.alloc _) ⟨w.heap.size, 0, none⟩ 1 1 us.toList (by simp [hus]) hnews h1 (by unfold maxLen; omega) hbytes (by simp; omega)
  refine wpList_plain hgd fun K hK => ?_
  unfold Oper.wp execOp
  simp only [ho, resolve, invoke, builtin, Sem.run_bind, Sem.run_pure, Result.andThen_ok, List.map_toArray, List.map_cons, List.map_nil, hs, hx, hrun]
  refine hK _ _ ?_
  have hg : w.grownBy w' v.ownBlock := grown_trans' (World.grownBy_alloc w _ _) h3
  obtain ⟨g, cap, rfl⟩ : ∃ g cap, v' = .slice (some ⟨g, 0, none⟩) (n + 1) cap := by
    rcases h2.2 with ⟨_, h0⟩ | ⟨g, cap, _, hv, _⟩
    · omega
    · exact ⟨g, cap, hv⟩
  refine h g cap w' h2 (hbel.grown hg (by omega) (fun k hk => by have := (hown.lt k hk).1; omega)) hg ?_
  rcases h5 with h5 | h5
  · exact .inl h5
  · exact .inr ⟨_, h5, by simp⟩
end Go.Proofs.Ytoikgjhekemjdaa
namespace Go.Proofs.Ytoikgjhekemjdaa
open Go.RowKit
def pick (v n : Int) : Int := (v % 18446744073709551616) % n
theorem pick_lo (v n : Int) (h : 0 < n) : 0 ≤ pick v n := Int.emod_nonneg _ (by omega)
theorem pick_hi (v n : Int) (h : 0 < n) : pick v n < n := Int.emod_lt_of_pos _ h
theorem pick_eq (v n : Int) (h0 : 0 < n) (h1 : n ≤ 4294967296) : wrap64 ((IntKind.u64.wrap v).tmod n) = pick v n := by
  have a : 0 ≤ IntKind.u64.wrap v := by rw [IntKind.wrap_u64]; omega
  rw [Int.tmod_eq_emod_of_nonneg a, IntKind.wrap_u64]
  have := pick_lo v n h0
  have := pick_hi v n h0
  exact IntWalk.wrap64_in _ ⟨by show _ ≤ pick v n; omega, by show pick v n ≤ _; omega⟩
set_option maxHeartbeats 400000 in
theorem pick_any (v n : Int) (w : World) (h0 : 0 < n) (h1 : n ≤ 4294967296) :
    Calls Try.prog 24 #[.int .i64 v, .int .i64 n] w fun e w' => e = .returned (.int .i64 (pick v n)) ∧ w = w' := by
  go_enter Try.func24, Try.ntmps24
  go_wp2
  go_ret
  exact ⟨ret_int (pick_eq v n h0 h1), rfl⟩
end Go.Proofs.Ytoikgjhekemjdaa
namespace Go.Proofs.Ytoikgjhekemjdaa
open Go.RowKit
/-- The call answers the bool b; of the world only the count of draws has turned. -/
def QuietB (w : World) (b : Bool) (e : Ending) (w' : World) : Prop := e = .returned (.bool b) ∧ ∃ n, w' = w.drewN n
theorem QuietB.mk_ {w : World} {b b' : Bool} (n : Nat) (h : b' = b) : QuietB w b (.returned (.bool b')) (w.drewN n) := by subst h; exact ⟨rfl, n, rfl⟩
theorem QuietB.mk0 {w : World} {b b' : Bool} (h : b' = b) : QuietB w b (.returned (.bool b')) w := by subst h; exact ⟨rfl, 0, rfl⟩
/-- The first k elements agree. -/
def Pre {α : Type} (xs ys : List α) (k : Nat) : Prop := ∀ j : Nat, j < k → xs[j]? = ys[j]?
theorem Pre.zero {α : Type} (xs ys : List α) : Pre xs ys 0 := fun j h => by omega
theorem Pre.next {α : Type} {xs ys : List α} {k : Nat} (h : Pre xs ys k) (he : xs[k]? = ys[k]?) : Pre xs ys (k + 1) := fun j hj => by
  by_cases e : j = k
  · subst e; exact he
  · exact h j (by omega)
theorem Pre.all {α : Type} {xs ys : List α} (hl : xs.length = ys.length) (h : Pre xs ys xs.length) : xs = ys := by
  apply List.ext_getElem?
  intro j
  by_cases hj : j < xs.length
  · exact h j hj
  · rw [List.getElem?_eq_none (by omega), List.getElem?_eq_none (by omega)]
theorem quiet_b {P : Program} {f : FuncId} {args : Array Value} {w : World} {n : Nat} {b : Bool} (h : Calls P f args (w.drewN n) (QuietB (w.drewN n) b)) : Calls P f args (w.drewN n) fun e w' => e = .returned (.bool b) ∧ ∃ m, w' = w.drewN m :=
  h.mono fun _ _ ⟨he, m, hm⟩ => ⟨he, n + m, by rw [hm, World.drewN_drewN]⟩
theorem quiet_b2 {P : Program} {f : FuncId} {args : Array Value} {w : World} {a n : Nat} {b : Bool} (h : Calls P f args (w.drewN (a + n)) (QuietB (w.drewN (a + n)) b)) : Calls P f args (w.drewN (a + n)) fun e w' => e = .returned (.bool b) ∧ ∃ m, w' = w.drewN (a + m) :=
  h.mono fun _ _ ⟨he, m, hm⟩ => ⟨he, n + m, by rw [hm, World.drewN_drewN, Nat.add_assoc]⟩
end Go.Proofs.Ytoikgjhekemjdaa
namespace Go.Proofs.Ytoikgjhekemjdaa
open Go.RowKit
def ordI (a b : Int) : Int := if a < b then -1 else if b < a then 1 else 0
def ordS (a b : List UInt8) : Int := if a < b then -1 else if a = b then 0 else 1
/-- The order of two values of type t: null first. -/
def cmpV (t : Int) (na : Bool) (xa : Int) (sa : ByteArray) (nb : Bool) (xb : Int) (sb : ByteArray) : Int :=
  if na && nb then 0 else if na then -1 else if nb then 1 else if t = 3 then ordS sa.data.toList sb.data.toList else ordI xa xb
/-- The call answers the number x; the world is as it was. -/
def RetI0 (w : World) (x : Int) (e : Ending) (w' : World) : Prop := e = .returned (.int .i64 x) ∧ w = w'
theorem RetI0.mk_ {w : World} {x x' : Int} (h : x = x') : RetI0 w x (.returned (.int .i64 x')) w := by subst h; exact ⟨rfl, rfl⟩
/-- The call answers the number x; nothing that was there has turned. -/
def RetN (w : World) (x : Int) (e : Ending) (w' : World) : Prop := e = .returned (.int .i64 x) ∧ Below w.heap.size w w'
theorem RetN.mk_ {w w' : World} {x x' : Int} (h : x = x') (hb : Below w.heap.size w w') : RetN w x (.returned (.int .i64 x')) w' := by subst h; exact ⟨rfl, hb⟩
/-- The model's '<' on strings is the lexical order of the bytes. -/
theorem less_lex : ∀ (x y : List UInt8), Op.bytesLess x y = decide (x < y)
  | [], [] => by simp [Op.bytesLess]
  | _ :: _, [] => by simp [Op.bytesLess]
  | [], _ :: _ => by simp [Op.bytesLess]
  | a :: x, b :: y => by
    rw [Op.bytesLess, less_lex x y]
    simp only [List.cons_lt_cons_iff]
    by_cases h1 : a < b <;> by_cases h2 : a = b <;> by_cases h3 : x < y <;> simp [h1, h2, h3]
theorem less_of (a b : ByteArray) : Op.bytesLess a.toList b.toList = decide (a.data.toList < b.data.toList) := by
  rw [Go.ByteArray.toList_eq, Go.ByteArray.toList_eq]; exact less_lex _ _
theorem ordS_eq (a b : List UInt8) : (if decide (a < b) then (-1 : Int) else if a == b then 0 else 1) = ordS a b := by simp [ordS]
theorem ordI_eq (a b : Int) : (if decide (a < b) then (-1 : Int) else if a == b then 0 else 1) = ordI a b := by
  unfold ordI
  by_cases h : a < b
  · simp [h]
  · by_cases h2 : b < a
    · have : a ≠ b := by omega
      simp [h, h2, this]
    · have : a = b := by omega
      simp [this]
end Go.Proofs.Ytoikgjhekemjdaa
namespace Go.Proofs.Ytoikgjhekemjdaa
open Go.RowKit
set_option maxHeartbeats 400000 in
theorem order_any (x y : Bool) (w : World) : Calls Try.prog 118 #[.bool x, .bool y] w (RetI0 w (if x then -1 else if y then 0 else 1)) := by
  cases x <;> cases y
  all_goals
    go_enter Try.func118, Try.ntmps118
    go_wp2
    go_ret
    exact RetI0.mk_ (by simp)
set_option maxHeartbeats 1000000 in
theorem rcompare_any (t : Int) (na : Bool) (xa : Int) (sa : ByteArray) (nb : Bool) (xb : Int) (sb : ByteArray) (w : World) :
    Calls Try.prog 111 #[.int .i64 t, .agg #[.bool na, .int .i64 xa, .string sa], .agg #[.bool nb, .int .i64 xb, .string sb]] w (RetN w (cmpV t na xa sa nb xb sb)) := by
  have hb2 := ((Below.refl w.heap.size w).alloc (Nat.le_refl _) (.cells #[.bool na, .int .i64 xa, .string sa] 30)).alloc (by simp) (.cells #[.bool nb, .int .i64 xb, .string sb] 30)
  cases na <;> cases nb
  · by_cases ht : t = 3
    · have H := Lib.hid (show (if Op.bytesLess sa.toList sb.toList then (-1 : Int) else if sa.toList == sb.toList then 0 else 1) = cmpV t false xa sa false xb sb by
        rw [less_of, Go.ByteArray.toList_eq, Go.ByteArray.toList_eq, ordS_eq]; simp [cmpV, ht])
      have ht' : (t == 3) = true := by simpa using ht
      clear ht
      go_enter Try.func111, Try.ntmps111
      go_wp2_with fail
      refine (order_any _ _ _).mono ?_
      rintro e w1 ⟨rfl, rfl⟩
      rw [H.out]
      go_wp2
      go_ret
      exact RetN.mk_ rfl hb2
    · have H := Lib.hid (show (if decide (xa < xb) then (-1 : Int) else if xa == xb then 0 else 1) = cmpV t false xa sa false xb sb by rw [ordI_eq]; simp [cmpV, ht])
      have ht' : (t == 3) = false := by simpa using ht
      clear ht
      go_enter Try.func111, Try.ntmps111
      go_wp2_with fail
      refine (order_any _ _ _).mono ?_
      rintro e w1 ⟨rfl, rfl⟩
      rw [H.out]
      go_wp2
      go_ret
      exact RetN.mk_ rfl hb2
  all_goals
    go_enter Try.func111, Try.ntmps111
    go_wp2
    go_ret
    exact RetN.mk_ (by simp [cmpV]) hb2
end Go.Proofs.Ytoikgjhekemjdaa
namespace Go.Proofs.Ytoikgjhekemjdaa
open Go.RowKit
section
variable {P : Program}
theorem run_append_none (w : World) (base : Nat) (t ty e : TypeId) (i : TypeInfo) (size : Nat) (ht : P.underlying t = some (.slice e)) (hi : P.info? e = some i)
    (v : Value) (n : Nat) (xs : List Value) (hown : w.ownsRow base e size v n xs) (c : Nat) : (Builtin.append_ #[t, t] ty #[v, .slice none 0 c]).run P w = .ok v w := by
  rcases hown.2 with ⟨rfl, rfl⟩ | ⟨g, cap, cur, rfl, _, _, hnc, _⟩
  · simp [Builtin.append_, run_underlying ht, sizeOf, typeInfo, hi, Builtin.lenOf, Builtin.firstCells]
  · simp [Builtin.append_, run_underlying ht, sizeOf, typeInfo, hi, Builtin.lenOf, Builtin.firstCells, hnc, storeCells]
theorem run_append_sl {w : World} {base : Nat} {t ty e : TypeId} {z : Value} {size bytes : Nat} (ht : P.underlying t = some (.slice e)) (hinfo : (P.info? e).map (fun i => (i.zero, i.size, i.bytes)) = some (some z, size, bytes)) (hzs : z.cells.size = size) (hsz : 0 < size)
    {v u : Value} {n m : Nat} {xs news : List Value} (hown : w.ownsRow base e size v n xs) (hr : Sl w size u m news) (h1 : ∀ y ∈ news, y.oneCell' = true)
    (h63 : n + m ≤ maxLen) (hbytes : (n + m) * bytes ≤ 140737488355328) (hbase : base ≤ w.heap.size) :
    ∃ v' w', (Builtin.append_ #[t, t] ty #[v, u]).run P w = .ok v' w' ∧ w'.ownsRow base e size v' (n + m) (xs ++ news) ∧ w.grownBy w' v.ownBlock ∧ (v'.ownBlock = v.ownBlock ∨ v'.ownBlock = some w.heap.size) := by
  obtain ⟨i, hi, hz, hs1, hby⟩ := info_parts hinfo
  obtain ⟨A, c, rfl, _, _, hlen, hc⟩ := hr
  rcases A with _ | ad
  · have hm : m = 0 := by
      rcases Nat.eq_zero_or_pos m with h0 | h0
      · exact h0
      · obtain ⟨ad, h, _⟩ := hc h0
        cases h
    subst hm
    have hn : news = [] := List.eq_nil_of_length_eq_zero (by simpa using hlen)
    subst hn
    exact ⟨v, w, run_append_none w base t ty e i size ht hi v n xs hown c, by simpa using hown, World.grownBy.refl w _, .inl rfl⟩
  · have hcells : ∀ j u, news[j]? = some u → w.cell? (ad.add j) = some u := by
      intro j u hu
      rcases Nat.eq_zero_or_pos m with h0 | h0
      · subst h0
        have hn : news = [] := List.eq_nil_of_length_eq_zero (by simpa using hlen)
        subst hn
        simp at hu
      · obtain ⟨ad', h, _, hc'⟩ := hc h0
        injection h with h
        subst h
        exact hc' j u hu
    obtain ⟨v', w', hrun, h2, h3, _, h5⟩ := run_append_own_at (P := P) w base t ty e i z size bytes ht hi hz hs1 hby hzs hsz v n xs hown ad m c news hlen hcells h1 h63 hbytes hbase
    exact ⟨v', w', hrun, h2, h3, h5⟩
/-- 'out = append(out, xs...)', out the call's own, xs any slice that reads as news. -/
theorem appN {w : World} {ops : Array Oper} {rest : List Oper} {o : Oper} {a : Act} {Q : Exit → Act → World → Prop} (s x : Operand) {t e : TypeId} {z : Value} {size bytes base : Nat} {v u : Value} {n m : Nat} {xs news : List Value}
    (hown : w.ownsRow base e size v n xs) (hr : Sl w size u m news) (hbase : base ≤ w.heap.size)
    (ht : P.underlying t = some (.slice e)) (hinfo : (P.info? e).map (fun i => (i.zero, i.size, i.bytes)) = some (some z, size, bytes)) (hzs : z.cells.size = size) (hsz : 0 < size)
    (h1 : ∀ y ∈ news, y.oneCell' = true) (hbytes : (n + m) * bytes ≤ 140737488355328) (hnm : n + m < 140737488355328)
    (hgd : o.guard = none) (ho : o.op = .call { callee := .builtin .append, args := #[s, x], argTypes := #[t, t] })
    (hs : a.eval s = v) (hx : a.eval x = u)
    (h : ∀ v' w', w'.ownsRow base e size v' (n + m) (xs ++ news) → w.grownBy w' v.ownBlock → (v'.ownBlock = v.ownBlock ∨ v'.ownBlock = some w.heap.size) → wpList P ops Q rest (a.put o.dst v') w') :
    wpList P ops Q (o :: rest) a w := by
  obtain ⟨v', w', hrun, h2, h3, h4⟩ := run_append_sl (P := P) (ty := o.type) ht hinfo hzs hsz hown hr h1 (by unfold maxLen; omega) hbytes hbase
  refine wpList_plain hgd fun K hK => ?_
  unfold Oper.wp execOp
  simp only [ho, resolve, invoke, builtin, Sem.run_bind, Sem.run_pure, Result.andThen_ok, List.map_toArray, List.map_cons, List.map_nil, hs, hx, hrun]
  exact hK _ _ (h v' w' h2 h3 h4)
end
end Go.Proofs.Ytoikgjhekemjdaa
namespace Go.Proofs.Ytoikgjhekemjdaa
open Go.RowKit
def lowB (c : UInt8) : Bool := decide (97 ≤ c.toNat ∧ c.toNat ≤ 122)
def okB (c : UInt8) : Bool := decide ((97 ≤ c.toNat ∧ c.toNat ≤ 122) ∨ (48 ≤ c.toNat ∧ c.toNat ≤ 57) ∨ c.toNat = 95)
def nameB (l : List UInt8) : Bool := (!l.isEmpty) && decide (l.length ≤ 16) && (l != [107, 101, 121]) && lowB (l.headD 0) && l.all okB
theorem get_data (s : ByteArray) (k : Nat) (h : k < s.size) : s.data.toList[k]? = some s[k] := by
  rw [List.getElem?_eq_getElem (by simpa using h)]
  rfl
theorem size_data (s : ByteArray) : s.data.toList.length = s.size := by cases s; rfl
theorem head_data (s : ByteArray) (h : 0 < s.size) : s.data.toList.headD 0 = s[0] := by
  have := get_data s 0 h
  cases hl : s.data.toList with
  | nil => rw [hl] at this; simp at this
  | cons a r => rw [hl] at this; simp at this; simpa using this
theorem name_empty {s : ByteArray} (h : s.size = 0) : nameB s.data.toList = false := by
  have : s.data.toList = [] := List.eq_nil_of_length_eq_zero (by rw [size_data]; exact h)
  rw [this]; rfl
theorem name_long {s : ByteArray} (h : 16 < s.size) : nameB s.data.toList = false := by
  have : decide (s.data.toList.length ≤ 16) = false := by rw [size_data]; simp; omega
  unfold nameB; rw [this]; simp
theorem name_key {s : ByteArray} (h : s.data.toList = [107, 101, 121]) : nameB s.data.toList = false := by rw [h]; decide
theorem name_head {s : ByteArray} (h0 : 0 < s.size) (h : s[0].toNat < 97 ∨ 122 < s[0].toNat) : nameB s.data.toList = false := by
  have : lowB (s.data.toList.headD 0) = false := by rw [head_data s h0]; unfold lowB; rw [decide_eq_false_iff_not]; omega
  unfold nameB
  rw [this]
  simp
theorem name_char {s : ByteArray} {k : Nat} (hk : k < s.size) (h : okB s[k] = false) : nameB s.data.toList = false := by
  have : s.data.toList.all okB = false := by
    rw [List.all_eq_false]
    exact ⟨s[k], List.mem_of_getElem? (get_data s k hk), by simp [h]⟩
  unfold nameB
  rw [this]
  simp
theorem name_yes {s : ByteArray} (h0 : 0 < s.size) (h1 : s.size ≤ 16) (h2 : s.data.toList ≠ [107, 101, 121]) (h3 : lowB s[0] = true) (h4 : ∀ k (h : k < s.size), okB s[k] = true) : nameB s.data.toList = true := by
  have e0 : s.data.toList.isEmpty = false := by
    rw [List.isEmpty_eq_false_iff]; intro e
    have := size_data s; rw [e] at this; simp at this; omega
  have e1 : decide (s.data.toList.length ≤ 16) = true := by rw [size_data]; simpa using h1
  have e2 : (s.data.toList != [107, 101, 121]) = true := by simpa using h2
  have e3 : lowB (s.data.toList.headD 0) = true := by rw [head_data s h0]; exact h3
  have e4 : s.data.toList.all okB = true := by
    rw [List.all_eq_true]
    intro c hc
    obtain ⟨k, hk⟩ := List.mem_iff_getElem?.1 hc
    have hl : k < s.size := by rw [← size_data]; exact (List.getElem?_eq_some_iff.1 hk).1
    rw [get_data s k hl] at hk
    injection hk with hk
    rw [← hk]; exact h4 k hl
  unfold nameB
  rw [e0, e1, e2, e3, e4]; rfl
/-- The call answers the bool b; the world is as it was. -/
def Ret0 (w : World) (b : Bool) (e : Ending) (w' : World) : Prop := e = .returned (.bool b) ∧ w = w'
theorem Ret0.mk_ {w : World} {b b' : Bool} (h : b = b') : Ret0 w b (.returned (.bool b')) w := by subst h; exact ⟨rfl, rfl⟩
def OkTo (s : ByteArray) (k : Nat) : Prop := ∀ j (h : j < s.size), j < k → okB s[j] = true
theorem OkTo.next {s : ByteArray} {k : Nat} (h : OkTo s k) (hk : k < s.size) (hc : okB s[k] = true) : OkTo s (k + 1) := fun j hj hlt => by
  by_cases e : j = k
  · subst e; exact hc
  · exact h j hj (by omega)
theorem ok_cases (c : UInt8) : (okB c = true ∧ (97 ≤ (c.toNat : Int) ∧ (c.toNat : Int) ≤ 122 ∨ 48 ≤ (c.toNat : Int) ∧ (c.toNat : Int) ≤ 57 ∨ (c.toNat : Int) = 95)) ∨
    (okB c = false ∧ ((c.toNat : Int) < 48 ∨ (57 < (c.toNat : Int) ∧ (c.toNat : Int) < 95) ∨ (c.toNat : Int) = 96 ∨ 122 < (c.toNat : Int))) := by
  by_cases h : (97 ≤ c.toNat ∧ c.toNat ≤ 122) ∨ (48 ≤ c.toNat ∧ c.toNat ≤ 57) ∨ c.toNat = 95
  · exact .inl ⟨by unfold okB; rw [decide_eq_true_eq]; exact h, by omega⟩
  · exact .inr ⟨by unfold okB; rw [decide_eq_false_iff_not]; exact h, by omega⟩
theorem toList_ne {s : ByteArray} (h0 : 0 < s.size) : s.toList.isEmpty = false := by
  rw [Go.ByteArray.toList_eq, List.isEmpty_eq_false_iff]; intro e
  have := size_data s; rw [e] at this; simp at this; omega
theorem toList_nil {s : ByteArray} (h0 : s.size = 0) : s.toList = [] := by
  rw [Go.ByteArray.toList_eq]; exact List.eq_nil_of_length_eq_zero (by rw [size_data]; exact h0)
end Go.Proofs.Ytoikgjhekemjdaa
namespace Go.Proofs.Ytoikgjhekemjdaa
open Go.RowKit
def ints (l : List Int) : List Value := l.map (Value.int .i64)
theorem ints_snoc (l : List Int) (x : Int) : ints (l ++ [x]) = ints l ++ [.int .i64 x] := by simp [ints]
theorem ints_length (l : List Int) : (ints l).length = l.length := by simp [ints]
theorem ints_get {l : List Int} {k : Nat} {u : Value} (h : (ints l)[k]? = some u) : ∃ x, l[k]? = some x ∧ u = .int .i64 x := by
  simp only [ints, List.getElem?_map, Option.map_eq_some_iff] at h
  obtain ⟨x, hx, rfl⟩ := h
  exact ⟨x, hx, rfl⟩
theorem oneInt (k : IntKind) (x : Int) : ∀ u ∈ (#[Value.int k x] : Array Value).toList, u.oneCell' = true := by intro u hu; simp at hu; subst hu; rfl
theorem oneSlice (A : Option Addr) (n c : Nat) : ∀ u ∈ (#[Value.slice A n c] : Array Value).toList, u.oneCell' = true := by intro u hu; simp at hu; subst hu; rfl
theorem own_ints {w : World} {base : Nat} {e : TypeId} {v : Value} {l : List Int} {x : Int} (h : w.ownsRow base e 1 v (l.length + 1) (ints l ++ (#[Value.int .i64 x] : Array Value).toList)) : w.ownsRow base e 1 v (l ++ [x]).length (ints (l ++ [x])) := by
  rw [ints_snoc, List.length_append]; exact h

/-- A known element of a read slice of integers. -/
theorem Sl.int_at {w : World} {A : Option Addr} {c k : Nat} {zs : List Int} {n : Nat} (h : Sl w 1 (.slice A n c) n (ints zs)) (hk : k < n) : ∃ ad x, A = some ad ∧ zs[k]? = some x ∧ w.cell? (ad.add k) = some (.int .i64 x) := by
  obtain ⟨ad, u, e, _, hu, hc⟩ := h.at_ hk
  obtain ⟨x, hx, rfl⟩ := ints_get hu
  exact ⟨ad, x, e, hx, hc⟩

/-- A slice of integers that came in (as the frame of a law hands it over) reads as a list of integers of its kind. -/
theorem isRow_sl {w : World} {a : Option Addr} {len cap : Nat} {zs : List Int} (h : (a = none ∧ len = 0 ∧ cap = 0 ∧ zs = []) ∨
    ∃ x, a = some x ∧ len ≤ cap ∧ cap ≤ maxLen ∧ zs.length = cap ∧ (∀ i, i < zs.length → w.cell? (x.add i) = some (.int .i64 (zs.getD i 0))) ∧ ∀ n ∈ zs, (Lit.int .i64 n).wf = true) :
    ∃ l : List Int, len = l.length ∧ Sl w 1 (.slice a l.length cap) l.length (ints l) ∧ l.length ≤ 9223372036854775807 ∧ ∀ n ∈ l, (Lit.int .i64 n).wf = true := by
  rcases h with ⟨rfl, rfl, rfl, rfl⟩ | ⟨x, rfl, h1, h2, h3, h4, h5⟩
  · exact ⟨[], rfl, Sl.nil _ _, by simp, by simp⟩
  · have hl : (zs.take len).length = len := by rw [List.length_take]; omega
    unfold maxLen at h2
    refine ⟨zs.take len, hl.symm, ⟨some x, cap, rfl, by omega, by unfold maxLen; omega, by rw [ints_length]; omega, fun hn => ⟨x, rfl, ?_, ?_⟩⟩, by omega, fun n hn => h5 n (List.mem_of_mem_take hn)⟩
    · have := World.block_lt_of_cell? w (x.add 0) (h4 0 (by omega))
      rwa [block_of_add] at this
    · intro j u hj
      obtain ⟨y, hy, rfl⟩ := ints_get hj
      have hjl : j < zs.length := by
        have := (List.getElem?_eq_some_iff.1 hy).1
        rw [hl] at this; omega
      rw [h4 j hjl]
      rw [List.getElem?_take] at hy
      split at hy
      · simp [List.getD, hy]
      · cases hy

def ints8 (l : List Int) : List Value := l.map (Value.int .u8)
theorem ints8_length (l : List Int) : (ints8 l).length = l.length := by simp [ints8]
theorem ints8_get {l : List Int} {k : Nat} {u : Value} (h : (ints8 l)[k]? = some u) : ∃ x, l[k]? = some x ∧ u = .int .u8 x := by
  simp only [ints8, List.getElem?_map, Option.map_eq_some_iff] at h
  obtain ⟨x, hx, rfl⟩ := h
  exact ⟨x, hx, rfl⟩
theorem Sl.int8_at {w : World} {A : Option Addr} {c k : Nat} {zs : List Int} {n : Nat} (h : Sl w 1 (.slice A n c) n (ints8 zs)) (hk : k < n) : ∃ ad x, A = some ad ∧ zs[k]? = some x ∧ w.cell? (ad.add k) = some (.int .u8 x) := by
  obtain ⟨ad, u, e, _, hu, hc⟩ := h.at_ hk
  obtain ⟨x, hx, rfl⟩ := ints8_get hu
  exact ⟨ad, x, e, hx, hc⟩
/-- A slice of integers that came in (as the frame of a law hands it over) reads as a list of integers of its kind. -/
theorem isRow_sl8 {w : World} {a : Option Addr} {len cap : Nat} {zs : List Int} (h : (a = none ∧ len = 0 ∧ cap = 0 ∧ zs = []) ∨
    ∃ x, a = some x ∧ len ≤ cap ∧ cap ≤ maxLen ∧ zs.length = cap ∧ (∀ i, i < zs.length → w.cell? (x.add i) = some (.int .u8 (zs.getD i 0))) ∧ ∀ n ∈ zs, (Lit.int .u8 n).wf = true) :
    ∃ l : List Int, len = l.length ∧ Sl w 1 (.slice a l.length cap) l.length (ints8 l) ∧ l.length ≤ 9223372036854775807 ∧ ∀ n ∈ l, (Lit.int .u8 n).wf = true := by
  rcases h with ⟨rfl, rfl, rfl, rfl⟩ | ⟨x, rfl, h1, h2, h3, h4, h5⟩
  · exact ⟨[], rfl, Sl.nil _ _, by simp, by simp⟩
  · have hl : (zs.take len).length = len := by rw [List.length_take]; omega
    unfold maxLen at h2
    refine ⟨zs.take len, hl.symm, ⟨some x, cap, rfl, by omega, by unfold maxLen; omega, by rw [ints8_length]; omega, fun hn => ⟨x, rfl, ?_, ?_⟩⟩, by omega, fun n hn => h5 n (List.mem_of_mem_take hn)⟩
    · have := World.block_lt_of_cell? w (x.add 0) (h4 0 (by omega))
      rwa [block_of_add] at this
    · intro j u hj
      obtain ⟨y, hy, rfl⟩ := ints8_get hj
      have hjl : j < zs.length := by
        have := (List.getElem?_eq_some_iff.1 hy).1
        rw [hl] at this; omega
      rw [h4 j hjl]
      rw [List.getElem?_take] at hy
      split at hy
      · simp [List.getD, hy]
      · cases hy

/-- The values vs are slices that read as gs, each in memory of the call's own. -/
structure LL (w : World) (base : Nat) (e : TypeId) (vs : List Value) (gs : List (List Int)) : Prop where
  len : vs.length = gs.length
  rows : ∀ (j : Nat) (u : Value) (g : List Int), vs[j]? = some u → gs[j]? = some g → w.ownsRow base e 1 u g.length (ints g)

theorem LL.nil (w : World) (base : Nat) (e : TypeId) : LL w base e [] [] := ⟨rfl, fun j u g h => by simp at h⟩
theorem LL.snoc {w : World} {base : Nat} {e : TypeId} {vs : List Value} {gs : List (List Int)} {u : Value} {cur : List Int} (h : LL w base e vs gs) (hu : w.ownsRow base e 1 u cur.length (ints cur)) : LL w base e (vs ++ [u]) (gs ++ [cur]) := by
  refine ⟨by simp [h.len], fun j x g hx hg => ?_⟩
  by_cases hj : j < vs.length
  · rw [List.getElem?_append_left hj] at hx
    rw [List.getElem?_append_left (by rw [← h.len]; exact hj)] at hg
    exact h.rows j x g hx hg
  · rw [List.getElem?_append_right (by omega)] at hx
    rw [List.getElem?_append_right (by rw [← h.len]; omega), ← h.len] at hg
    rcases hjj : j - vs.length with _ | m
    · rw [hjj] at hx hg
      simp at hx hg
      subst hx; subst hg
      exact hu
    · rw [hjj] at hx; simp at hx
theorem own_grown {w w' : World} {base : Nat} {e : TypeId} {size : Nat} {v : Value} {n : Nat} {xs : List Value} {row : Option Nat} (h : w.ownsRow base e size v n xs) (hg : w.grownBy w' row) (hne : ∀ g, v.ownBlock = some g → row ≠ some g) : w'.ownsRow base e size v n xs := by
  refine h.kept hg ?_
  cases hv : v.ownBlock with
  | none => exact .inl rfl
  | some g => exact .inr (fun e => hne g hv e.symm)
theorem LL.grown {w w' : World} {base : Nat} {e : TypeId} {vs : List Value} {gs : List (List Int)} {row : Option Nat} (h : LL w base e vs gs) (hg : w.grownBy w' row) (hne : ∀ x ∈ vs, ∀ g, x.ownBlock = some g → row ≠ some g) : LL w' base e vs gs :=
  ⟨h.len, fun j u g hu hgg => own_grown (h.rows j u g hu hgg) hg (hne u (List.mem_of_getElem? hu))⟩
theorem LL.below {w w' : World} {base : Nat} {e : TypeId} {vs : List Value} {gs : List (List Int)} (h : LL w base e vs gs) (hb : Below w.heap.size w w') : LL w' base e vs gs :=
  ⟨h.len, fun j u g hu hgg => own_below (h.rows j u g hu hgg) hb⟩
theorem LL.alloc {w : World} {base : Nat} {e : TypeId} {vs : List Value} {gs : List (List Int)} (h : LL w base e vs gs) (o : Obj) : LL (w.alloc o) base e vs gs :=
  ⟨h.len, fun j u g hu hgg => (h.rows j u g hu hgg).alloc o⟩
/-- Rows of different element types never share a block. -/
theorem own_ne {w : World} {base base' : Nat} {e e' : TypeId} {size size' n n' : Nat} {v v' : Value} {xs xs' : List Value} (h : w.ownsRow base e size v n xs) (h' : w.ownsRow base' e' size' v' n' xs') (hne : e ≠ e') : ∀ g, v.ownBlock = some g → v'.ownBlock ≠ some g := by
  intro g hg hg'
  rcases h.2 with ⟨rfl, _⟩ | ⟨g1, cap, cur, rfl, _, hh, _⟩
  · simp [Value.ownBlock] at hg
  rcases h'.2 with ⟨rfl, _⟩ | ⟨g2, cap2, cur2, rfl, _, hh2, _⟩
  · simp [Value.ownBlock] at hg'
  have e1 : g1 = g := by simpa [Value.ownBlock] using hg
  have e2 : g2 = g := by simpa [Value.ownBlock] using hg'
  subst e1; subst e2
  rw [hh] at hh2
  injection hh2 with hh2
  injection hh2 with _ ht
  exact hne ht
theorem LL.mem_row {w : World} {base : Nat} {e : TypeId} {vs : List Value} {gs : List (List Int)} (h : LL w base e vs gs) {x : Value} (hx : x ∈ vs) : ∃ g : List Int, w.ownsRow base e 1 x g.length (ints g) := by
  obtain ⟨j, hj⟩ := List.mem_iff_getElem?.1 hx
  have hl : j < gs.length := by rw [← h.len]; exact (List.getElem?_eq_some_iff.1 hj).1
  exact ⟨gs[j], h.rows j x _ hj (List.getElem?_eq_getElem hl)⟩

/-- The call returns a slice of slices in new memory. -/
def RetLL (w : World) (eO eI : TypeId) (gs : List (List Int)) (d : Ending) (w' : World) : Prop := ∃ v vs, d = .returned v ∧ Below w.heap.size w w' ∧ w'.ownsRow w.heap.size eO 1 v gs.length vs ∧ LL w' w.heap.size eI vs gs
theorem RetLL.nil_ (w w' : World) (eO eI : TypeId) {gs : List (List Int)} (h : gs = []) (hb : Below w.heap.size w w') : RetLL w eO eI gs (.returned (.slice none 0 0)) w' := by
  subst h; exact ⟨_, [], rfl, hb, World.ownsRow_nil _ _ _ _, LL.nil _ _ _⟩
theorem RetLL.mk_ {w w' : World} {eO eI : TypeId} {v : Value} {vs : List Value} {gs gs' : List (List Int)} (hb : Below w.heap.size w w') (h : w'.ownsRow w.heap.size eO 1 v gs.length vs) (hl : LL w' w.heap.size eI vs gs) (hg : gs = gs') : RetLL w eO eI gs' (.returned v) w' := by
  subst hg; exact ⟨v, vs, rfl, hb, h, hl⟩

/-- The state of the loop that builds the groups: the outer slice v owns the values vs; with the last one taken apart. -/
structure Build (w : World) (base : Nat) (eO eI : TypeId) (v : Value) (vs : List Value) (gs : List (List Int)) : Prop where
  own : w.ownsRow base eO 1 v gs.length vs
  ll : LL w base eI vs gs
  apart : ∀ (i j : Nat) (x y : Value) (b : Nat), i < j → vs[i]? = some x → vs[j]? = some y → x.ownBlock = some b → y.ownBlock ≠ some b
theorem Build.nil (w : World) (base : Nat) (eO eI : TypeId) : Build w base eO eI (.slice none 0 0) [] [] := ⟨World.ownsRow_nil _ _ _ _, LL.nil _ _ _, fun i j x y b _ h => by simp at h⟩
/-- behind 'append(groups, nil)' -/
theorem Build.push {w w' : World} {base : Nat} {eO eI : TypeId} {v v' : Value} {vs : List Value} {gs : List (List Int)} (h : Build w base eO eI v vs gs) (hne : eO ≠ eI)
    (hown : w'.ownsRow base eO 1 v' (gs.length + 1) (vs ++ (#[Value.slice none 0 0] : Array Value).toList)) (hg : w.grownBy w' v.ownBlock) : Build w' base eO eI v' (vs ++ [.slice none 0 0]) (gs ++ [[]]) := by
  refine ⟨by rw [List.length_append]; exact hown, ?_, ?_⟩
  · refine LL.snoc (h.ll.grown hg (fun x hx g hxg => ?_)) (World.ownsRow_nil _ _ _ _)
    obtain ⟨l, hl⟩ := h.ll.mem_row hx
    exact own_ne hl h.own (Ne.symm hne) g hxg
  · intro i j x y b hij hx hy hb
    by_cases hj : j < vs.length
    · rw [List.getElem?_append_left (by omega)] at hx
      rw [List.getElem?_append_left hj] at hy
      exact h.apart i j x y b hij hx hy hb
    · rw [List.getElem?_append_right (by omega)] at hy
      rcases hjj : j - vs.length with _ | m
      · rw [hjj] at hy; simp at hy; subst hy; simp [Value.ownBlock]
      · rw [hjj] at hy; simp at hy
theorem Build.kept {w w' : World} {base : Nat} {eO eI : TypeId} {v : Value} {vs : List Value} {gs : List (List Int)} (h : Build w base eO eI v vs gs) (hb : Below w.heap.size w w') : Build w' base eO eI v vs gs :=
  ⟨own_below h.own hb, h.ll.below hb, h.apart⟩
/-- behind 'groups[last] = append(groups[last], x)' -/
theorem Build.put {w w1 : World} {base : Nat} {eO eI : TypeId} {g cap : Nat} {vs : List Value} {gs : List (List Int)} {u u' : Value} {cur : List Int} {x : Int}
    (h : Build w base eO eI (.slice (some ⟨g, 0, none⟩) (gs.length + 1) cap) (vs ++ [u]) (gs ++ [cur])) (hne : eO ≠ eI) 
    (hown : w1.ownsRow base eI 1 u' (cur.length + 1) (ints cur ++ (#[Value.int .i64 x] : Array Value).toList)) (hg : w.grownBy w1 u.ownBlock) (hat : u'.ownBlock = u.ownBlock ∨ ∃ b, u'.ownBlock = some b ∧ w.heap.size ≤ b) :
    Build (w1.setCell ⟨g, gs.length, none⟩ u') base eO eI (.slice (some ⟨g, 0, none⟩) (gs.length + 1) cap) (vs ++ [u']) (gs ++ [cur ++ [x]]) := by
  have hlen : vs.length = gs.length := by have := h.ll.len; simpa using this
  have hown0 : w.ownsRow base eO 1 (.slice (some ⟨g, 0, none⟩) (gs.length + 1) cap) (gs.length + 1) (vs ++ [u]) := by have := h.own; simpa using this
  have hu : w.ownsRow base eI 1 u cur.length (ints cur) := h.ll.rows gs.length u cur (by rw [← hlen]; simp) (by simp)
  have hO : w1.ownsRow base eO 1 (.slice (some ⟨g, 0, none⟩) (gs.length + 1) cap) (gs.length + 1) (vs ++ [u]) := own_grown hown0 hg (fun b hb => own_ne hown0 hu hne b hb)
  obtain ⟨hS, hSg⟩ := hO.stored gs.length u'
  have hset : (vs ++ [u]).set gs.length u' = vs ++ [u'] := by rw [← hlen]; simp
  rw [hset] at hS
  have hll0 : LL w base eI vs gs := ⟨hlen, fun j y q hy hq => h.ll.rows j y q (by rw [List.getElem?_append_left (List.getElem?_eq_some_iff.1 hy).1]; exact hy) (by rw [List.getElem?_append_left (List.getElem?_eq_some_iff.1 hq).1]; exact hq)⟩
  have hap : ∀ y ∈ vs, ∀ b, y.ownBlock = some b → u.ownBlock ≠ some b := by
    intro y hy b hb
    obtain ⟨j, hj⟩ := List.mem_iff_getElem?.1 hy
    have hjl := (List.getElem?_eq_some_iff.1 hj).1
    exact h.apart j vs.length y u b hjl (by rw [List.getElem?_append_left hjl]; exact hj) (by simp) hb
  have hll1 : LL w1 base eI vs gs := hll0.grown hg hap
  have ho' : w1.ownsRow base eI 1 u' (cur ++ [x]).length (ints (cur ++ [x])) := own_ints hown
  have hll2 : LL w1 base eI (vs ++ [u']) (gs ++ [cur ++ [x]]) := hll1.snoc ho'
  refine ⟨by simpa using hS, hll2.grown hSg (fun y hy b hb => ?_), ?_⟩
  · obtain ⟨l, hl⟩ := hll2.mem_row hy
    intro e
    exact own_ne hl hO (Ne.symm hne) b hb (by simpa [Value.ownBlock] using e)
  · intro i j a c b hij ha hc hb
    by_cases hj : j < vs.length
    · rw [List.getElem?_append_left (by omega)] at ha
      rw [List.getElem?_append_left hj] at hc
      exact h.apart i j a c b hij (by rw [List.getElem?_append_left (by omega)]; exact ha) (by rw [List.getElem?_append_left hj]; exact hc) hb
    · rw [List.getElem?_append_right (by omega)] at hc
      rcases hjj : j - vs.length with _ | m
      · rw [hjj] at hc; simp at hc; subst hc
        rw [List.getElem?_append_left (by omega)] at ha
        rcases hat with hat | ⟨b', hb', hbs⟩
        · rw [hat]; exact hap a (List.mem_of_getElem? ha) b hb
        · intro e
          rw [hb'] at e
          injection e with e
          subst e
          obtain ⟨l, hl⟩ := hll0.mem_row (List.mem_of_getElem? ha)
          have := (hl.lt _ hb).2
          omega
      · rw [hjj] at hc; simp at hc
end Go.Proofs.Ytoikgjhekemjdaa
namespace Go.Proofs.Ytoikgjhekemjdaa
open Go.ChangeShapes Go.WideShapes Go.ChangeAt Go.RowKit
section
variable {H : Type} {enc : TypeId × Value → H} {P : Program} {W : World} {base : Nat} {b0 : Nat}
def IsRow (k : IntKind) (w : World) (a : Option Addr) (len cap : Nat) (zs : List Int) : Prop :=
  (a = none ∧ len = 0 ∧ cap = 0 ∧ zs = []) ∨
  ∃ x, a = some x ∧ len ≤ cap ∧ cap ≤ maxLen ∧ zs.length = cap ∧ (∀ i, i < zs.length → w.cell? (x.add i) = some (.int k (zs.getD i 0))) ∧ ∀ n ∈ zs, (Lit.int k n).wf = true
theorem opened_ints {k : IntKind} {t e : TypeId} {v : Value} {d : DataW H} {p : List MemPlace} (ht : P.underlying t = some (.slice e)) (he : P.underlying e = some (.int k)) (hc : P.cellsOf e = 1)
    (hval : Value.okWide P W .any b0 t v) (h : DataW.Trod enc P W 0 (fun _ => true) true t v d p) : ∃ a len cap zs, v = .slice a len cap ∧ IsRow k W a len cap zs ∧ len ≤ Rows.uptoBulk d := by
  obtain ⟨a0, len0, cap0, rfl⟩ := okWide_slice ht hval
  obtain ⟨fuel, hf⟩ := h
  rcases open_ints ht he hc hf with ⟨hcs, _⟩ | ⟨x, l, c, zs, hcs, _, hl, hm, hz, hx, hcell, hwz⟩
  · simp [Value.cells] at hcs
    obtain ⟨rfl, rfl, rfl⟩ := hcs
    exact ⟨_, _, _, [], rfl, .inl ⟨rfl, rfl, rfl, rfl⟩, by omega⟩
  · simp [Value.cells] at hcs
    obtain ⟨rfl, rfl, rfl⟩ := hcs
    refine ⟨_, _, _, zs, rfl, .inr ⟨_, rfl, hl, hm, by simpa using hz, hcell, hwz⟩, ?_⟩
    simp only [Prod.mk.injEq] at hx
    rw [hx.1]
    have e1 : (lits (H := H) k (zs.take len0)).length = len0 := by
      have : zs.length = cap0 := by simpa using hz
      simp [lits]; omega
    have hlen : ∀ l : List (DataW H), l.length ≤ Rows.uptoBulkAll l := by
      intro l
      induction l with
      | nil => simp [Rows.uptoBulkAll]
      | cons x r ih =>
        have : 1 ≤ Rows.uptoBulk x := by
          cases x with
          | lit l => cases l <;> simp [Rows.uptoBulk]
          | nil => simp [Rows.uptoBulk]
          | ptr d => simp [Rows.uptoBulk]
          | slice elems spare => simp [Rows.uptoBulk]
          | agg parts => simp [Rows.uptoBulk]
          | iface t d => simp [Rows.uptoBulk]
          | map entries => simp [Rows.uptoBulk]
          | held h => simp [Rows.uptoBulk]
        simp only [Rows.uptoBulkAll, List.length_cons]; omega
    have := hlen (lits (H := H) k (zs.take len0))
    simp only [Rows.uptoBulk]
    omega
end
end Go.Proofs.Ytoikgjhekemjdaa
namespace Go.Proofs.Ytoikgjhekemjdaa
open Go.ChangeShapes Go.WideShapes Go.ChangeAt Go.RowKit
section
variable {H : Type} {enc : TypeId × Value → H} {W : World} {b0 : Nat}
theorem wf_bd {a : Int} (h : (Lit.int .i64 a).wf = true) : -9223372036854775808 ≤ a ∧ a ≤ 9223372036854775807 := by
  simp [Lit.wf, IntKind.min, IntKind.max, IntKind.signed, IntKind.bits] at h; omega
set_option maxRecDepth 100000 in
theorem opened_value {v : Value} {d : DataW H} {p : List MemPlace} (hval : Value.okWide Try.prog W .any b0 30 v) (h : DataW.Trod enc Try.prog W 0 (fun _ => true) true 30 v d p) :
    ∃ (b : Bool) (a : Int) (s : ByteArray), v = .agg #[.bool b, .int .i64 a, .string s] ∧ (-9223372036854775808 ≤ a ∧ a ≤ 9223372036854775807) ∧ s.size ≤ maxLen := by
  obtain ⟨v0, v1, v2, y0, y1, y2, n, rfl, _, _, h0, h1, h2⟩ := Go.Joins.open_agg3 Try.underlying30 (by kernel_rfl) (by kernel_rfl) hval h
  obtain ⟨b, e0, _⟩ := DataW.trod_bool Try.underlying4 h0
  obtain ⟨a, e1, _, wa⟩ := DataW.trod_int Try.underlying2 h1
  obtain ⟨s, e2, _, ws⟩ := DataW.trod_string Try.underlying9 h2
  simp at e0 e1 e2
  subst e0 e1 e2
  exact ⟨b, a, s, rfl, wf_bd wa, ws⟩
end
end Go.Proofs.Ytoikgjhekemjdaa
