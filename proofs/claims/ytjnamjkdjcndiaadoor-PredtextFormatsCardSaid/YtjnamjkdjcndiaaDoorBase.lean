/-
  Words, plain laws and contracts on which the walks lean, in one text.
-/
import Derived.RegionTactic
import Derived.WalkKit
import Derived.Lib.Hide
import Derived.Deep.Draws
import Derived.WalkSpells
import Derived.Maps.AppendAt
import Derived.Test.YtjnamjkdjcndiaaDoorProg
import Derived.WalkLawsBesides
import Derived.SliceStrings
import Derived.ProofKit
import Derived.OpenShut
import Derived.Deep.AppendLies
import Derived.OwnWalk
import Derived.IntWalk
import Derived.Test.YtjnamjkdjcndiaaDoorRows
import Derived.ShutString
import Derived.ChangeOld
import Derived.JoinedCond
import Derived.Lib.SmallJoins
import Derived.Lib.Varint
import Derived.Lib.Zigzag
import Derived.Deep.RegionHeld3
import Derived.Lib.Builder
import Derived.Lib.AppendStr
import Derived.Laws.Externs
import Derived.Deep.QuietTactic
import Derived.BigQuiet
import Derived.Lib.SlicesS
namespace Go.Proofs.YtjnamjkdjcndiaaDoor
open Go
/-- A goal by another name: so that what is taken apart beside it costs little. -/
theorem via_eq {G : Prop} (h : ∀ X : Prop, X = G → X) : G := h G rfl
section
variable {P : Program} {ops : Array Oper} {Q : Exit → Act → World → Prop}
def upd (L : Nat → Bool) (i : Nat) : Nat → Bool := fun j => if j = i then true else L j
def backward (ops : Array Oper) : Bool := (List.range ops.size).all fun i => ((ops[i]?).map (·.after.all fun e => !Region.binds .any e || decide (e.on < i))).getD true
theorem ready_mem {listed : Array Bool} {i : Nat} (h : i ∈ Region.ready .any ops listed) :
    i < ops.size ∧ listed.getD i true = false ∧ ∃ o, ops[i]? = some o ∧ ∀ e ∈ o.after, Region.binds .any e = true → listed.getD e.on false = true := by
  simp only [Region.ready, List.mem_filter, List.mem_range, Bool.and_eq_true, Bool.not_eq_true'] at h
  obtain ⟨h1, h2, h3⟩ := h
  refine ⟨h1, h2, ?_⟩
  cases ho : ops[i]? with
  | none => simp [ho] at h3
  | some o =>
    refine ⟨o, rfl, fun e he hb => ?_⟩
    simp only [ho, Option.map_some, Option.getD_some, Array.all_eq_true_iff_forall_mem] at h3
    have := h3 e he
    simpa [hb] using this
theorem ready_nil (hb : backward ops = true) {listed : Array Bool} (hs : listed.size = ops.size) (h : Region.ready .any ops listed = []) (i : Nat) :
    listed.getD i true = true := by
  induction i using Nat.strongRecOn with
  | ind i ih =>
    by_cases hi : i < ops.size
    · cases hl : listed.getD i true with
      | true => rfl
      | false =>
        exfalso
        have hm : i ∈ Region.ready .any ops listed := by
          simp only [Region.ready, List.mem_filter, List.mem_range, Bool.and_eq_true, Bool.not_eq_true']
          refine ⟨hi, hl, ?_⟩
          have ho : ops[i]? = some ops[i] := Array.getElem?_eq_getElem hi
          rw [ho]
          simp only [Option.map_some, Option.getD_some, Array.all_eq_true_iff_forall_mem]
          intro e he
          have hbi := hb
          simp only [backward, List.all_eq_true, List.mem_range] at hbi
          have := hbi i hi
          rw [ho] at this
          simp only [Option.map_some, Option.getD_some, Array.all_eq_true_iff_forall_mem] at this
          have := this e he
          cases hbe : Region.binds .any e with
          | false => simp
          | true =>
            simp only [hbe, Bool.not_true, Bool.false_or, decide_eq_true_eq] at this
            have h2 := ih e.on this
            have h3 : e.on < listed.size := by omega
            simp only [Array.getD_eq_getD_getElem?, Array.getElem?_eq_getElem h3, Option.getD_some] at h2 ⊢
            simp [h2]
        rw [h] at hm
        cases hm
    · simp [Array.getD_eq_getD_getElem?, hs, hi]
theorem wpAny_inv (hb : backward ops = true) (I : (Nat → Bool) → Act → World → Prop)
    (hstep : ∀ i o, ops[i]? = some o → ∀ L a w, I L a w → L i = false → (∀ e ∈ o.after, Region.binds .any e = true → L e.on = true) →
      ∀ K : Act → World → Prop, (∀ a w, I (upd L i) a w → K a w) → if Region.wanted o (yielded ops a.tmps) = true then Oper.wp P o a w K Q else K (a.put o.dst undef) w)
    (hend : ∀ a w, I (fun _ => true) a w → Q .normal a w) :
    ∀ (fuel : Nat) (listed : Array Bool) (a : Act) (w : World), listed.size = ops.size → listed.toList.count false ≤ fuel → I (fun j => listed.getD j true) a w → wpAny P .any ops Q fuel listed a w := by
  have hdone : ∀ (listed : Array Bool) (a : Act) (w : World), listed.size = ops.size → I (fun j => listed.getD j true) a w → Region.ready .any ops listed = [] → Q .normal a w := by
    intro listed a w hs hi hr
    apply hend
    rw [show (fun _ : Nat => true) = (fun j => listed.getD j true) from funext fun j => (ready_nil hb hs hr j).symm]
    exact hi
  intro fuel
  induction fuel with
  | zero =>
    intro listed a w hs hc hi
    have hr : Region.ready .any ops listed = [] := by
      rw [List.eq_nil_iff_forall_not_mem]
      intro i hm
      obtain ⟨h1, h2, _⟩ := ready_mem hm
      have h3 : i < listed.size := by omega
      simp only [Array.getD_eq_getD_getElem?, Array.getElem?_eq_getElem h3, Option.getD_some] at h2
      have : false ∈ listed.toList := h2 ▸ (by simp)
      have := List.count_pos_iff.2 this
      omega
    exact ⟨hr, hdone listed a w hs hi hr⟩
  | succ fuel ih =>
    intro listed a w hs hc hi
    refine ⟨hdone listed a w hs hi, fun i hm => ?_⟩
    obtain ⟨h1, h2, o, ho, hd⟩ := ready_mem hm
    refine wpOp_step ho fun K hK => ?_
    refine hstep i o ho _ a w hi h2 (fun e he hbe => ?_) K fun a' w' hI => hK a' w' (ih _ _ _ (by simpa using hs) ?_ ?_)
    · have := hd e he hbe
      rw [Array.getD_eq_getD_getElem?] at this ⊢
      cases h : listed[e.on]? with
      | none => rfl
      | some b => rw [h] at this; simpa using this
    · have h3 : i < listed.size := by omega
      have h4 : listed[i] = false := by simpa only [Array.getD_eq_getD_getElem?, Array.getElem?_eq_getElem h3, Option.getD_some] using h2
      have h5 : (listed.setIfInBounds i true).toList = listed.toList.set i true := by simp
      have h6 : listed.toList[i]'(by simpa using h3) = false := by simpa using h4
      have h7 : false ∈ listed.toList := by rw [← h6]; exact List.getElem_mem _
      have := List.count_pos_iff.2 h7
      rw [h5, List.count_set (by simpa using h3), h6]
      simp only [beq_self_eq_true, if_true, show (true == false) = false from rfl, Bool.false_eq_true, if_false]
      omega
    · have he : (fun j => (listed.setIfInBounds i true).getD j true) = upd (fun j => listed.getD j true) i := by
        funext j
        have h3 : i < listed.size := by omega
        by_cases hj : j = i
        · subst hj; simp [upd, Array.getD_eq_getD_getElem?, h3]
        · simp [upd, Array.getD_eq_getD_getElem?, hj, Array.getElem?_setIfInBounds_ne (Ne.symm hj)]
      rw [he]; exact hI
def Steps (P : Program) (ops : Array Oper) (Q : Exit → Act → World → Prop) (I : (Nat → Bool) → Act → World → Prop) : Nat → List Oper → Prop
  | _, [] => True
  | i, o :: r => (∀ L a w, I L a w → L i = false → (o.after.toList.all fun e => !Region.binds .any e || L e.on) = true →
      ∀ K : Act → World → Prop, (∀ a w, I (upd L i) a w → K a w) → if Region.wanted o (yielded ops a.tmps) = true then Oper.wp P o a w K Q else K (a.put o.dst undef) w) ∧ Steps P ops Q I (i + 1) r
theorem Steps.get {I : (Nat → Bool) → Act → World → Prop} : ∀ (l : List Oper) (k : Nat), Steps P ops Q I k l → ∀ i o, l[i]? = some o → ∀ L a w, I L a w → L (k + i) = false → (o.after.toList.all fun e => !Region.binds .any e || L e.on) = true →
      ∀ K : Act → World → Prop, (∀ a w, I (upd L (k + i)) a w → K a w) → if Region.wanted o (yielded ops a.tmps) = true then Oper.wp P o a w K Q else K (a.put o.dst undef) w
  | [], _, _, i, o, h => by simp at h
  | x :: r, k, hs, 0, o, h => by simp at h; subst h; exact hs.1
  | x :: r, k, hs, i + 1, o, h => by
    have := Steps.get r (k + 1) hs.2 i o (by simpa using h)
    rwa [show k + 1 + i = k + (i + 1) by omega] at this
theorem wp_region_inv {id : Nat} {a : Act} {w : World} (hm : P.follows .mixedOrders = true) (hb : backward ops = true) (I : (Nat → Bool) → Act → World → Prop)
    (h0 : I (fun j => decide (ops.size ≤ j)) a w.drew)
    (hstep : Steps P ops Q I 0 ops.toList)
    (hend : ∀ a w, I (fun _ => true) a w → Q .normal a w) : (Code.region id ops true).wp P Q a w := by
  refine wp_region_any hm (wpAny_inv hb I ?_ hend _ _ _ _ (by simp) (by simp [List.count_replicate]) ?_)
  · intro i o ho L a w hI hl hd K hK
    have := Steps.get ops.toList 0 hstep i o (by simpa using ho) L a w hI (by simpa using hl) ?_ K (by simpa using hK)
    · exact this
    · rw [List.all_eq_true]
      intro e he
      cases hbe : Region.binds .any e with
      | false => rfl
      | true => simpa [hbe] using hd e (by simpa using he) hbe
  · have : (fun j => (Array.replicate ops.size false).getD j true) = fun j => decide (ops.size ≤ j) := by
      funext j
      by_cases hj : j < ops.size
      · simp [Array.getD_eq_getD_getElem?, hj]
      · simp [Array.getD_eq_getD_getElem?, hj]; omega
    rw [this]; exact h0
end
end Go.Proofs.YtjnamjkdjcndiaaDoor
namespace Go.Proofs.YtjnamjkdjcndiaaDoor
open Go.RowKit

theorem block_of_add (a : Addr) (n : Nat) : (a.add n).block = a.block := by unfold Addr.add; split <;> rfl
theorem add_of_add (a : Addr) (i j : Nat) : (a.add i).add j = a.add (i + j) := by
  unfold Addr.add
  by_cases hi : i = 0 <;> by_cases hj : j = 0 <;> simp [hi, hj, Nat.add_assoc]

/-- The slice value v of n elements (size cells each) reads as the cells xs. -/
def Sl (w : World) (size : Nat) (v : Value) (n : Nat) (xs : List Value) : Prop :=
  ∃ A c, v = .slice A n c ∧ n ≤ c ∧ c ≤ maxLen ∧ xs.length = n * size ∧ (0 < n → ∃ ad, A = some ad ∧ ad.block < w.heap.size ∧ ∀ j u, xs[j]? = some u → w.cell? (ad.add j) = some u)

section
variable {w w' : World} {B size n : Nat} {v : Value} {xs : List Value}
theorem Sl.nil (w : World) (size : Nat) : Sl w size (.slice none 0 0) 0 [] := ⟨none, 0, rfl, Nat.le_refl _, by simp [maxLen], by simp, fun h => absurd h (by omega)⟩
theorem Sl.keep (h : Sl w size v n xs) (hs : w.heap.size ≤ w'.heap.size) (hk : ∀ p : Addr, p.block < w.heap.size → w'.cell? p = w.cell? p) : Sl w' size v n xs := by
  obtain ⟨A, c, e, h1, h2, h3, h4⟩ := h
  refine ⟨A, c, e, h1, h2, h3, fun hn => ?_⟩
  obtain ⟨ad, e, hb, hc⟩ := h4 hn
  exact ⟨ad, e, by omega, fun j u hu => (hk _ (by rw [block_of_add]; exact hb)).trans (hc j u hu)⟩
theorem Sl.below (h : Sl w size v n xs) (hb : Below w.heap.size w w') : Sl w' size v n xs := h.keep hb.size fun _ hp => hb.cell hp
theorem Sl.drew (h : Sl w size v n xs) : Sl w.drew size v n xs := h
theorem Sl.drewN (h : Sl w size v n xs) (k : Nat) : Sl (w.drewN k) size v n xs := h
theorem Sl.alloc (h : Sl w size v n xs) (o : Obj) : Sl (w.alloc o) size v n xs := h.keep (by simp) fun p hp => World.cell?_alloc_lt w o p (by omega)
theorem Sl.of_own {base : Nat} {e : TypeId} (h : w.ownsRow base e size v n xs) : Sl w size v n xs := by
  obtain ⟨h1, h2⟩ := h
  rcases h2 with ⟨rfl, rfl⟩ | ⟨g, cap, cur, rfl, hb, hg, hn, hc, hcs, ht⟩
  · exact ⟨none, 0, rfl, Nat.le_refl _, by simp [maxLen], h1, fun h => absurd h (by omega)⟩
  · refine ⟨some ⟨g, 0, none⟩, cap, rfl, hn, hc, h1, fun _ => ⟨_, rfl, (Array.getElem?_eq_some_iff.1 hg).1, ?_⟩⟩
    exact World.ownsRow.cells (base := base) (e := e) ⟨h1, .inr ⟨g, cap, cur, rfl, hb, hg, hn, hc, hcs, ht⟩⟩ rfl
/-- One-cell elements: the cell of element k. -/
theorem Sl.at_ {A : Option Addr} {c k : Nat} (h : Sl w 1 (.slice A n c) n xs) (hk : k < n) : ∃ ad u, A = some ad ∧ ad.block < w.heap.size ∧ xs[k]? = some u ∧ w.cell? (ad.add k) = some u := by
  obtain ⟨A', c', e, h1, h2, h3, h4⟩ := h
  injection e with e1 e2 e3
  subst e1
  obtain ⟨ad, e, hb, hc⟩ := h4 (by omega)
  have hl : k < xs.length := by omega
  exact ⟨ad, xs[k], e, hb, List.getElem?_eq_getElem hl, hc k _ (List.getElem?_eq_getElem hl)⟩
theorem Sl.form (h : Sl w size v n xs) : ∃ A c, v = .slice A n c ∧ n ≤ c ∧ c ≤ maxLen := by
  obtain ⟨A, c, e, h1, h2, _⟩ := h
  exact ⟨A, c, e, h1, h2⟩
end

/-- Only new blocks: nothing that was there has turned. -/
theorem Below.step {B : Nat} {a w w' : World} (h : Below B a w) (hB : B ≤ w.heap.size) (k : Below w.heap.size w w') : Below B a w' := h.trans (k.mono hB)
theorem bst {a w w' : World} (h : Below a.heap.size a w) (k : Below w.heap.size w w') : Below a.heap.size a w' := h.trans (k.mono h.size)
theorem below_drewN {B : Nat} {a w : World} (h : Below B a w) (n : Nat) : Below B a (w.drewN n) := ⟨h.os, h.tape, h.output, h.size, h.block⟩

theorem bcell {W w1 : World} (hb : Below W.heap.size W w1) : (∀ b o, b < W.heap.size → w1.cell? ⟨b, o, none⟩ = W.cell? ⟨b, o, none⟩) ∧ (∀ b o, b < W.heap.size → w1.frozen? ⟨b, o, none⟩ = W.frozen? ⟨b, o, none⟩) :=
  ⟨fun b o h => hb.cell (p := ⟨b, o, none⟩) h, fun b o h => hb.frozen (p := ⟨b, o, none⟩) h⟩

/-- What is owned stays owned over calls that only make new memory. -/
theorem own_below {w w' : World} {base : Nat} {e : TypeId} {size : Nat} {v : Value} {n : Nat} {xs : List Value} (h : w.ownsRow base e size v n xs) (hb : Below w.heap.size w w') : w'.ownsRow base e size v n xs := by
  obtain ⟨h1, h2⟩ := h
  refine ⟨h1, ?_⟩
  rcases h2 with h2 | ⟨g, cap, cur, rfl, hb', hg, r⟩
  · exact .inl h2
  · exact .inr ⟨g, cap, cur, rfl, hb', by rw [hb.block g (Array.getElem?_eq_some_iff.1 hg).1]; exact hg, r⟩
theorem own_mono {w : World} {base base' : Nat} {e : TypeId} {size : Nat} {v : Value} {n : Nat} {xs : List Value} (h : w.ownsRow base e size v n xs) (hb : base' ≤ base) : w.ownsRow base' e size v n xs := by
  obtain ⟨h1, h2⟩ := h
  refine ⟨h1, ?_⟩
  rcases h2 with h2 | ⟨g, cap, cur, rfl, hb', r⟩
  · exact .inl h2
  · exact .inr ⟨g, cap, cur, rfl, by omega, r⟩
/-- A cell that is there is there behind a new block. -/
theorem cell_alloc {w : World} {p : Addr} {v : Value} (h : w.cell? p = some v) (o : Obj) : (w.alloc o).cell? p = some v := (World.cell?_alloc_lt w o p (World.block_lt_of_cell? w p h)).trans h
theorem ret_int {k : IntKind} {a b : Int} (h : a = b) : Ending.returned (.int k a) = .returned (.int k b) := by rw [h]
theorem ret_bool {a b : Bool} (h : a = b) : Ending.returned (.bool a) = .returned (.bool b) := by rw [h]

/-- The call returns a slice in new memory that owns the n elements whose cells are xs; nothing that was there has turned. -/
def RetRow (w : World) (e : TypeId) (size n : Nat) (xs : List Value) (d : Ending) (w' : World) : Prop := ∃ v, d = .returned v ∧ Below w.heap.size w w' ∧ w'.ownsRow w.heap.size e size v n xs
theorem RetRow.nil_ (w : World) (e : TypeId) (size : Nat) {n : Nat} {xs : List Value} (h : xs = []) (hn : n = 0) : RetRow w e size n xs (.returned (.slice none 0 0)) w := by
  subst h; subst hn; exact ⟨_, rfl, Below.refl _ _, World.ownsRow_nil _ _ _ _⟩
theorem RetRow.mk_ {w w' : World} {e : TypeId} {size n n' : Nat} {v : Value} {xs xs' : List Value} (hb : Below w.heap.size w w') (h : w'.ownsRow w.heap.size e size v n xs) (hn : n = n') (hx : xs = xs') : RetRow w e size n' xs' (.returned v) w' := by
  subst hn; subst hx; exact ⟨v, rfl, hb, h⟩

/-- The new cell of 'append(out, x)'. -/
theorem news_one {w : World} {u : Value} {t : TypeId} : ∀ j v, ([u] : List Value)[j]? = some v → (w.alloc (.cells #[u] t)).cell? ((⟨w.heap.size, 0, none⟩ : Addr).add j) = some v := by
  intro j v hj
  match j, hj with
  | 0, hj => simp at hj; subst hj; simp [Addr.add]
theorem grown_trans' {a b c : World} {row : Option Nat} (h : a.grownBy b row) (k : b.grownBy c row) : a.grownBy c row :=
  ⟨k.os.trans h.os, k.tape.trans h.tape, k.output.trans h.output, Nat.le_trans h.size k.size, fun i hi hne => (k.block i (Nat.lt_of_lt_of_le hi h.size) hne).trans (h.block i hi hne)⟩

/-- 'out = append(out, x)', out the call's own: behind it out owns one element more; nothing else that was there has turned. -/
theorem app1 {P : Program} {w w0 : World} {B : Nat} {ops : Array Oper} {rest : List Oper} {o : Oper} {a : Act} {Q : Exit → Act → World → Prop} (s x : Operand) {t e : TypeId} {z : Value} {size bytes base : Nat} {v : Value} {n : Nat} {xs : List Value} {us : Array Value}
    (hown : w.ownsRow base e size v n xs) (hbel : Below B w0 w) (hB : B ≤ base) (hbase : base ≤ w.heap.size)
    (ht : P.underlying t = some (.slice e)) (hinfo : (P.info? e).map (fun i => (i.zero, i.size, i.bytes)) = some (some z, size, bytes)) (hzs : z.cells.size = size) (hsz : 0 < size)
    (hus : us.size = size) (h1 : ∀ u ∈ us.toList, u.oneCell' = true) (hbytes : (n + 1) * bytes ≤ 140737488355328) (hn : n < 140737488355328)
    (hgd : o.guard = none) (ho : o.op = .call { callee := .builtin .append, args := #[s, x], argTypes := #[t, t] })
    (hs : a.eval s = v) (hx : a.eval x = .slice (some ⟨w.heap.size, 0, none⟩) 1 1)
    (h : ∀ g cap w', w'.ownsRow base e size (.slice (some ⟨g, 0, none⟩) (n + 1) cap) (n + 1) (xs ++ us.toList) → Below B w0 w' → w.grownBy w' v.ownBlock → ((Value.slice (some ⟨g, 0, none⟩) (n + 1) cap).ownBlock = v.ownBlock ∨ ∃ b, (Value.slice (some ⟨g, 0, none⟩) (n + 1) cap).ownBlock = some b ∧ w.heap.size ≤ b) → wpList P ops Q rest (a.put o.dst (.slice (some ⟨g, 0, none⟩) (n + 1) cap)) w') :
    wpList P ops Q (o :: rest) a (w.alloc (.cells us e)) := by
  obtain ⟨i, hi, hz, hs1, hby⟩ := info_parts hinfo
  have hnews : ∀ j u, us.toList[j]? = some u → (w.alloc (.cells us e)).cell? ((⟨w.heap.size, 0, none⟩ : Addr).add j) = some u := by
    intro j u hj
    have hj' : us[j]? = some u := by simpa using hj
    have e1 : (⟨w.heap.size, 0, none⟩ : Addr).add j = ⟨w.heap.size, j, none⟩ := by unfold Addr.add; split <;> simp_all
    rw [e1, cell_of_row _ w.heap.size j us e (0, 0) (heap_alloc_new w _)]
    exact hj'
  obtain ⟨v', w', hrun, h2, h3, _, h5⟩ := run_append_own_at (P := P) (w.alloc (.cells us e)) base t o.type e i z size bytes ht hi hz hs1 hby hzs hsz v n xs (hown.alloc _) ⟨w.heap.size, 0, none⟩ 1 1 us.toList (by simp [hus]) hnews h1 (by unfold maxLen; omega) hbytes (by simp; omega)
  refine wpList_plain hgd fun K hK => ?_
  unfold Oper.wp execOp
  simp only [ho, resolve, invoke, builtin, Sem.run_bind, Sem.run_pure, Result.andThen_ok, List.map_toArray, List.map_cons, List.map_nil, hs, hx, hrun]
  refine hK _ _ ?_
  have hg : w.grownBy w' v.ownBlock := grown_trans' (World.grownBy_alloc w _ _) h3
  obtain ⟨g, cap, rfl⟩ : ∃ g cap, v' = .slice (some ⟨g, 0, none⟩) (n + 1) cap := by
    rcases h2.2 with ⟨_, h0⟩ | ⟨g, cap, _, hv, _⟩
    · omega
    · exact ⟨g, cap, hv⟩
  refine h g cap w' h2 (hbel.grown hg (by omega) (fun k hk => by have := (hown.lt k hk).1; omega)) hg ?_
  rcases h5 with h5 | h5
  · exact .inl h5
  · exact .inr ⟨_, h5, by simp⟩
end Go.Proofs.YtjnamjkdjcndiaaDoor
namespace Go.Proofs.YtjnamjkdjcndiaaDoor
open Go.RowKit
def pick (v n : Int) : Int := (v % 18446744073709551616) % n
theorem pick_lo (v n : Int) (h : 0 < n) : 0 ≤ pick v n := Int.emod_nonneg _ (by omega)
theorem pick_hi (v n : Int) (h : 0 < n) : pick v n < n := Int.emod_lt_of_pos _ h
theorem pick_eq (v n : Int) (h0 : 0 < n) (h1 : n ≤ 4294967296) : wrap64 ((IntKind.u64.wrap v).tmod n) = pick v n := by
  have a : 0 ≤ IntKind.u64.wrap v := by rw [IntKind.wrap_u64]; omega
  rw [Int.tmod_eq_emod_of_nonneg a, IntKind.wrap_u64]
  have := pick_lo v n h0
  have := pick_hi v n h0
  exact IntWalk.wrap64_in _ ⟨by show _ ≤ pick v n; omega, by show pick v n ≤ _; omega⟩
set_option maxHeartbeats 400000 in
theorem pick_any (v n : Int) (w : World) (h0 : 0 < n) (h1 : n ≤ 4294967296) :
    Calls Tryd.prog 9 #[.int .i64 v, .int .i64 n] w fun e w' => e = .returned (.int .i64 (pick v n)) ∧ w = w' := by
  go_enter Tryd.func9, Tryd.ntmps9
  go_wp2
  go_ret
  exact ⟨ret_int (pick_eq v n h0 h1), rfl⟩
end Go.Proofs.YtjnamjkdjcndiaaDoor
namespace Go.Proofs.YtjnamjkdjcndiaaDoor
open Go.RowKit
/-- The call answers the bool b; of the world only the count of draws has turned. -/
def QuietB (w : World) (b : Bool) (e : Ending) (w' : World) : Prop := e = .returned (.bool b) ∧ ∃ n, w' = w.drewN n
theorem QuietB.mk_ {w : World} {b b' : Bool} (n : Nat) (h : b' = b) : QuietB w b (.returned (.bool b')) (w.drewN n) := by subst h; exact ⟨rfl, n, rfl⟩
theorem QuietB.mk0 {w : World} {b b' : Bool} (h : b' = b) : QuietB w b (.returned (.bool b')) w := by subst h; exact ⟨rfl, 0, rfl⟩
/-- The first k elements agree. -/
def Pre {α : Type} (xs ys : List α) (k : Nat) : Prop := ∀ j : Nat, j < k → xs[j]? = ys[j]?
theorem Pre.zero {α : Type} (xs ys : List α) : Pre xs ys 0 := fun j h => by omega
theorem Pre.next {α : Type} {xs ys : List α} {k : Nat} (h : Pre xs ys k) (he : xs[k]? = ys[k]?) : Pre xs ys (k + 1) := fun j hj => by
  by_cases e : j = k
  · subst e; exact he
  · exact h j (by omega)
theorem Pre.all {α : Type} {xs ys : List α} (hl : xs.length = ys.length) (h : Pre xs ys xs.length) : xs = ys := by
  apply List.ext_getElem?
  intro j
  by_cases hj : j < xs.length
  · exact h j hj
  · rw [List.getElem?_eq_none (by omega), List.getElem?_eq_none (by omega)]
theorem quiet_b {P : Program} {f : FuncId} {args : Array Value} {w : World} {n : Nat} {b : Bool} (h : Calls P f args (w.drewN n) (QuietB (w.drewN n) b)) : Calls P f args (w.drewN n) fun e w' => e = .returned (.bool b) ∧ ∃ m, w' = w.drewN m :=
  h.mono fun _ _ ⟨he, m, hm⟩ => ⟨he, n + m, by rw [hm, World.drewN_drewN]⟩
theorem quiet_b2 {P : Program} {f : FuncId} {args : Array Value} {w : World} {a n : Nat} {b : Bool} (h : Calls P f args (w.drewN (a + n)) (QuietB (w.drewN (a + n)) b)) : Calls P f args (w.drewN (a + n)) fun e w' => e = .returned (.bool b) ∧ ∃ m, w' = w.drewN (a + m) :=
  h.mono fun _ _ ⟨he, m, hm⟩ => ⟨he, n + m, by rw [hm, World.drewN_drewN, Nat.add_assoc]⟩
end Go.Proofs.YtjnamjkdjcndiaaDoor
namespace Go.Proofs.YtjnamjkdjcndiaaDoor
open Go.RowKit
def ordI (a b : Int) : Int := if a < b then -1 else if b < a then 1 else 0
def ordS (a b : List UInt8) : Int := if a < b then -1 else if a = b then 0 else 1
/-- The order of two values of type t: null first. -/
def cmpV (t : Int) (na : Bool) (xa : Int) (sa : ByteArray) (nb : Bool) (xb : Int) (sb : ByteArray) : Int :=
  if na && nb then 0 else if na then -1 else if nb then 1 else if t = 3 then ordS sa.data.toList sb.data.toList else ordI xa xb
/-- The call answers the number x; the world is as it was. -/
def RetI0 (w : World) (x : Int) (e : Ending) (w' : World) : Prop := e = .returned (.int .i64 x) ∧ w = w'
theorem RetI0.mk_ {w : World} {x x' : Int} (h : x = x') : RetI0 w x (.returned (.int .i64 x')) w := by subst h; exact ⟨rfl, rfl⟩
/-- The call answers the number x; nothing that was there has turned. -/
def RetN (w : World) (x : Int) (e : Ending) (w' : World) : Prop := e = .returned (.int .i64 x) ∧ Below w.heap.size w w'
theorem RetN.mk_ {w w' : World} {x x' : Int} (h : x = x') (hb : Below w.heap.size w w') : RetN w x (.returned (.int .i64 x')) w' := by subst h; exact ⟨rfl, hb⟩
/-- The model's '<' on strings is the lexical order of the bytes. -/
theorem less_lex : ∀ (x y : List UInt8), Op.bytesLess x y = decide (x < y)
  | [], [] => by simp [Op.bytesLess]
  | _ :: _, [] => by simp [Op.bytesLess]
  | [], _ :: _ => by simp [Op.bytesLess]
  | a :: x, b :: y => by
    rw [Op.bytesLess, less_lex x y]
    simp only [List.cons_lt_cons_iff]
    by_cases h1 : a < b <;> by_cases h2 : a = b <;> by_cases h3 : x < y <;> simp [h1, h2, h3]
theorem less_of (a b : ByteArray) : Op.bytesLess a.toList b.toList = decide (a.data.toList < b.data.toList) := by
  rw [Go.ByteArray.toList_eq, Go.ByteArray.toList_eq]; exact less_lex _ _
theorem ordS_eq (a b : List UInt8) : (if decide (a < b) then (-1 : Int) else if a == b then 0 else 1) = ordS a b := by simp [ordS]
theorem ordI_eq (a b : Int) : (if decide (a < b) then (-1 : Int) else if a == b then 0 else 1) = ordI a b := by
  unfold ordI
  by_cases h : a < b
  · simp [h]
  · by_cases h2 : b < a
    · have : a ≠ b := by omega
      simp [h, h2, this]
    · have : a = b := by omega
      simp [this]
end Go.Proofs.YtjnamjkdjcndiaaDoor
namespace Go.Proofs.YtjnamjkdjcndiaaDoor
open Go.RowKit
def xStr : ByteArray := { data := #[120] }
/-- A column of a known type: its scale is 0 where it is no decimal. -/
def ColOk (t k : Int) : Prop := 1 ≤ t ∧ t ≤ 5 ∧ 0 ≤ k ∧ k ≤ 18 ∧ (t ≠ 5 → k = 0)
def RetCol (w : World) (null : Bool) (e : Ending) (w' : World) : Prop := ∃ t k : Int, e = .returned (.agg #[.string { data := #[120] }, .int .i64 t, .int .i64 k, .bool null]) ∧ ColOk t k ∧ Below w.heap.size w w'
end Go.Proofs.YtjnamjkdjcndiaaDoor
namespace Go.Proofs.YtjnamjkdjcndiaaDoor
open Go.RowKit Go.ChangeShapes Go.WideShapes Go.ChangeAt
def strV (l : List ByteArray) : List Value := l.map Value.string
theorem strV_snoc (l : List ByteArray) (x : ByteArray) : strV (l ++ [x]) = strV l ++ [.string x] := by simp [strV]
theorem strV_length (l : List ByteArray) : (strV l).length = l.length := by simp [strV]
theorem strV_get {l : List ByteArray} {k : Nat} {u : Value} (h : (strV l)[k]? = some u) : ∃ x, l[k]? = some x ∧ u = .string x := by
  simp only [strV, List.getElem?_map, Option.map_eq_some_iff] at h
  obtain ⟨x, hx, rfl⟩ := h
  exact ⟨x, hx, rfl⟩
theorem oneStr (x : ByteArray) : ∀ u ∈ (#[Value.string x] : Array Value).toList, u.oneCell' = true := by intro u hu; simp at hu; subst hu; rfl
theorem own_strV {w : World} {base : Nat} {e : TypeId} {v : Value} {l : List ByteArray} {x : ByteArray} (h : w.ownsRow base e 1 v (l.length + 1) (strV l ++ (#[Value.string x] : Array Value).toList)) : w.ownsRow base e 1 v (l ++ [x]).length (strV (l ++ [x])) := by
  rw [strV_snoc, List.length_append]; exact h
theorem Sl.str_at {w : World} {A : Option Addr} {c k : Nat} {zs : List ByteArray} {n : Nat} (h : Sl w 1 (.slice A n c) n (strV zs)) (hk : k < n) : ∃ ad x, A = some ad ∧ zs[k]? = some x ∧ w.cell? (ad.add k) = some (.string x) := by
  obtain ⟨ad, u, e, _, hu, hc⟩ := h.at_ hk
  obtain ⟨x, hx, rfl⟩ := strV_get hu
  exact ⟨ad, x, e, hx, hc⟩
section
variable {H : Type} {enc : TypeId × Value → H} {P : Program} {W : World} {b0 : Nat}
/-- A slice of strings that came in reads as a list of strings. -/
theorem opened_strs {t e : TypeId} {v : Value} {d : DataW H} {p : List MemPlace} (ht : P.underlying t = some (.slice e)) (he : P.underlying e = some .string) (hc : P.cellsOf e = 1)
    (hval : Value.okWide P W .any b0 t v) (h : DataW.Trod enc P W 0 (fun _ => true) true t v d p) :
    ∃ l : List ByteArray, Sl W 1 v l.length (strV l) ∧ (∀ s ∈ l, s.size ≤ maxLen) ∧ l.length ≤ 9223372036854775807 ∧ (∀ B, (DataW.weights P t d).all (fun n => n ≤ B) = true → l.length * P.bytesOf e ≤ B) := by
  obtain ⟨a0, len0, cap0, rfl⟩ := okWide_slice ht hval
  obtain ⟨fuel, hf⟩ := h
  rcases open_strings ht he hc hf with ⟨hcs, _⟩ | ⟨x, l, c, ss, hcs, _, hl, hm, hz, hx, hcell, hws⟩
  · simp [Value.cells] at hcs
    obtain ⟨rfl, rfl, rfl⟩ := hcs
    exact ⟨[], Sl.nil _ _, by simp, by simp, fun B _ => by simp⟩
  · simp [Value.cells] at hcs
    obtain ⟨rfl, rfl, rfl⟩ := hcs
    have hz' : ss.length = cap0 := by simpa using hz
    have hlen : (ss.take len0).length = len0 := by rw [List.length_take]; omega
    refine ⟨ss.take len0, ?_, fun s hs => hws s (List.mem_of_mem_take hs), by unfold maxLen at hm; omega, fun B hB => ?_⟩
    · rw [hlen]
      refine ⟨some x, cap0, rfl, hl, hm, by rw [strV_length, hlen, Nat.mul_one], fun hn => ⟨x, rfl, ?_, ?_⟩⟩
      · have := World.block_lt_of_cell? W (x.add 0) (hcell 0 (by omega))
        rwa [block_of_add] at this
      · intro j u hj
        obtain ⟨y, hy, rfl⟩ := strV_get hj
        have hjl : j < ss.length := by
          have := (List.getElem?_eq_some_iff.1 hy).1
          rw [hlen] at this; omega
        rw [hcell j hjl]
        rw [List.getElem?_take] at hy
        split at hy
        · simp [List.getD, hy]
        · cases hy
    · simp only [Prod.mk.injEq] at hx
      rw [hx.1] at hB
      simp only [DataW.weights, ht] at hB
      rw [hlen]
      simp only [List.all_append, List.all_cons, Bool.and_eq_true, decide_eq_true_eq, strs, List.length_map, List.length_append, List.length_take, List.length_drop] at hB
      have h1 := hB.1
      have : len0 * P.bytesOf e ≤ (min len0 ss.length + (ss.length - len0)) * P.bytesOf e := Nat.mul_le_mul_right _ (by omega)
      omega
end
end Go.Proofs.YtjnamjkdjcndiaaDoor
namespace Go.Proofs.YtjnamjkdjcndiaaDoor
open Go.RowKit
section
variable {P : Program}
theorem run_append_none (w : World) (base : Nat) (t ty e : TypeId) (i : TypeInfo) (size : Nat) (ht : P.underlying t = some (.slice e)) (hi : P.info? e = some i)
    (v : Value) (n : Nat) (xs : List Value) (hown : w.ownsRow base e size v n xs) (c : Nat) : (Builtin.append_ #[t, t] ty #[v, .slice none 0 c]).run P w = .ok v w := by
  rcases hown.2 with ⟨rfl, rfl⟩ | ⟨g, cap, cur, rfl, _, _, hnc, _⟩
  · simp [Builtin.append_, run_underlying ht, sizeOf, typeInfo, hi, Builtin.lenOf, Builtin.firstCells]
  · simp [Builtin.append_, run_underlying ht, sizeOf, typeInfo, hi, Builtin.lenOf, Builtin.firstCells, hnc, storeCells]
theorem run_append_sl {w : World} {base : Nat} {t ty e : TypeId} {z : Value} {size bytes : Nat} (ht : P.underlying t = some (.slice e)) (hinfo : (P.info? e).map (fun i => (i.zero, i.size, i.bytes)) = some (some z, size, bytes)) (hzs : z.cells.size = size) (hsz : 0 < size)
    {v u : Value} {n m : Nat} {xs news : List Value} (hown : w.ownsRow base e size v n xs) (hr : Sl w size u m news) (h1 : ∀ y ∈ news, y.oneCell' = true)
    (h63 : n + m ≤ maxLen) (hbytes : (n + m) * bytes ≤ 140737488355328) (hbase : base ≤ w.heap.size) :
    ∃ v' w', (Builtin.append_ #[t, t] ty #[v, u]).run P w = .ok v' w' ∧ w'.ownsRow base e size v' (n + m) (xs ++ news) ∧ w.grownBy w' v.ownBlock ∧ (v'.ownBlock = v.ownBlock ∨ v'.ownBlock = some w.heap.size) := by
  obtain ⟨i, hi, hz, hs1, hby⟩ := info_parts hinfo
  obtain ⟨A, c, rfl, _, _, hlen, hc⟩ := hr
  rcases A with _ | ad
  · have hm : m = 0 := by
      rcases Nat.eq_zero_or_pos m with h0 | h0
      · exact h0
      · obtain ⟨ad, h, _⟩ := hc h0
        cases h
    subst hm
    have hn : news = [] := List.eq_nil_of_length_eq_zero (by simpa using hlen)
    subst hn
    exact ⟨v, w, run_append_none w base t ty e i size ht hi v n xs hown c, by simpa using hown, World.grownBy.refl w _, .inl rfl⟩
  · have hcells : ∀ j u, news[j]? = some u → w.cell? (ad.add j) = some u := by
      intro j u hu
      rcases Nat.eq_zero_or_pos m with h0 | h0
      · subst h0
        have hn : news = [] := List.eq_nil_of_length_eq_zero (by simpa using hlen)
        subst hn
        simp at hu
      · obtain ⟨ad', h, _, hc'⟩ := hc h0
        injection h with h
        subst h
        exact hc' j u hu
    obtain ⟨v', w', hrun, h2, h3, _, h5⟩ := run_append_own_at (P := P) w base t ty e i z size bytes ht hi hz hs1 hby hzs hsz v n xs hown ad m c news hlen hcells h1 h63 hbytes hbase
    exact ⟨v', w', hrun, h2, h3, h5⟩
/-- 'out = append(out, xs...)', out the call's own, xs any slice that reads as news. -/
theorem appN {w : World} {ops : Array Oper} {rest : List Oper} {o : Oper} {a : Act} {Q : Exit → Act → World → Prop} (s x : Operand) {t e : TypeId} {z : Value} {size bytes base : Nat} {v u : Value} {n m : Nat} {xs news : List Value}
    (hown : w.ownsRow base e size v n xs) (hr : Sl w size u m news) (hbase : base ≤ w.heap.size)
    (ht : P.underlying t = some (.slice e)) (hinfo : (P.info? e).map (fun i => (i.zero, i.size, i.bytes)) = some (some z, size, bytes)) (hzs : z.cells.size = size) (hsz : 0 < size)
    (h1 : ∀ y ∈ news, y.oneCell' = true) (hbytes : (n + m) * bytes ≤ 140737488355328) (hnm : n + m < 140737488355328)
    (hgd : o.guard = none) (ho : o.op = .call { callee := .builtin .append, args := #[s, x], argTypes := #[t, t] })
    (hs : a.eval s = v) (hx : a.eval x = u)
    (h : ∀ v' w', w'.ownsRow base e size v' (n + m) (xs ++ news) → w.grownBy w' v.ownBlock → (v'.ownBlock = v.ownBlock ∨ v'.ownBlock = some w.heap.size) → wpList P ops Q rest (a.put o.dst v') w') :
    wpList P ops Q (o :: rest) a w := by
  obtain ⟨v', w', hrun, h2, h3, h4⟩ := run_append_sl (P := P) (ty := o.type) ht hinfo hzs hsz hown hr h1 (by unfold maxLen; omega) hbytes hbase
  refine wpList_plain hgd fun K hK => ?_
  unfold Oper.wp execOp
  simp only [ho, resolve, invoke, builtin, Sem.run_bind, Sem.run_pure, Result.andThen_ok, List.map_toArray, List.map_cons, List.map_nil, hs, hx, hrun]
  exact hK _ _ (h v' w' h2 h3 h4)
end
end Go.Proofs.YtjnamjkdjcndiaaDoor
namespace Go.Proofs.YtjnamjkdjcndiaaDoor
open Go.RowKit
def lowB (c : UInt8) : Bool := decide (97 ≤ c.toNat ∧ c.toNat ≤ 122)
def okB (c : UInt8) : Bool := decide ((97 ≤ c.toNat ∧ c.toNat ≤ 122) ∨ (48 ≤ c.toNat ∧ c.toNat ≤ 57) ∨ c.toNat = 95)
def nameB (l : List UInt8) : Bool := (!l.isEmpty) && decide (l.length ≤ 16) && (l != [107, 101, 121]) && lowB (l.headD 0) && l.all okB
theorem get_data (s : ByteArray) (k : Nat) (h : k < s.size) : s.data.toList[k]? = some s[k] := by
  rw [List.getElem?_eq_getElem (by simpa using h)]
  rfl
theorem size_data (s : ByteArray) : s.data.toList.length = s.size := by cases s; rfl
theorem head_data (s : ByteArray) (h : 0 < s.size) : s.data.toList.headD 0 = s[0] := by
  have := get_data s 0 h
  cases hl : s.data.toList with
  | nil => rw [hl] at this; simp at this
  | cons a r => rw [hl] at this; simp at this; simpa using this
theorem name_empty {s : ByteArray} (h : s.size = 0) : nameB s.data.toList = false := by
  have : s.data.toList = [] := List.eq_nil_of_length_eq_zero (by rw [size_data]; exact h)
  rw [this]; rfl
theorem name_long {s : ByteArray} (h : 16 < s.size) : nameB s.data.toList = false := by
  have : decide (s.data.toList.length ≤ 16) = false := by rw [size_data]; simp; omega
  unfold nameB; rw [this]; simp
theorem name_key {s : ByteArray} (h : s.data.toList = [107, 101, 121]) : nameB s.data.toList = false := by rw [h]; decide
theorem name_head {s : ByteArray} (h0 : 0 < s.size) (h : s[0].toNat < 97 ∨ 122 < s[0].toNat) : nameB s.data.toList = false := by
  have : lowB (s.data.toList.headD 0) = false := by rw [head_data s h0]; unfold lowB; rw [decide_eq_false_iff_not]; omega
  unfold nameB
  rw [this]
  simp
theorem name_char {s : ByteArray} {k : Nat} (hk : k < s.size) (h : okB s[k] = false) : nameB s.data.toList = false := by
  have : s.data.toList.all okB = false := by
    rw [List.all_eq_false]
    exact ⟨s[k], List.mem_of_getElem? (get_data s k hk), by simp [h]⟩
  unfold nameB
  rw [this]
  simp
theorem name_yes {s : ByteArray} (h0 : 0 < s.size) (h1 : s.size ≤ 16) (h2 : s.data.toList ≠ [107, 101, 121]) (h3 : lowB s[0] = true) (h4 : ∀ k (h : k < s.size), okB s[k] = true) : nameB s.data.toList = true := by
  have e0 : s.data.toList.isEmpty = false := by
    rw [List.isEmpty_eq_false_iff]; intro e
    have := size_data s; rw [e] at this; simp at this; omega
  have e1 : decide (s.data.toList.length ≤ 16) = true := by rw [size_data]; simpa using h1
  have e2 : (s.data.toList != [107, 101, 121]) = true := by simpa using h2
  have e3 : lowB (s.data.toList.headD 0) = true := by rw [head_data s h0]; exact h3
  have e4 : s.data.toList.all okB = true := by
    rw [List.all_eq_true]
    intro c hc
    obtain ⟨k, hk⟩ := List.mem_iff_getElem?.1 hc
    have hl : k < s.size := by rw [← size_data]; exact (List.getElem?_eq_some_iff.1 hk).1
    rw [get_data s k hl] at hk
    injection hk with hk
    rw [← hk]; exact h4 k hl
  unfold nameB
  rw [e0, e1, e2, e3, e4]; rfl
/-- The call answers the bool b; the world is as it was. -/
def Ret0 (w : World) (b : Bool) (e : Ending) (w' : World) : Prop := e = .returned (.bool b) ∧ w = w'
theorem Ret0.mk_ {w : World} {b b' : Bool} (h : b = b') : Ret0 w b (.returned (.bool b')) w := by subst h; exact ⟨rfl, rfl⟩
def OkTo (s : ByteArray) (k : Nat) : Prop := ∀ j (h : j < s.size), j < k → okB s[j] = true
theorem OkTo.next {s : ByteArray} {k : Nat} (h : OkTo s k) (hk : k < s.size) (hc : okB s[k] = true) : OkTo s (k + 1) := fun j hj hlt => by
  by_cases e : j = k
  · subst e; exact hc
  · exact h j hj (by omega)
theorem ok_cases (c : UInt8) : (okB c = true ∧ (97 ≤ (c.toNat : Int) ∧ (c.toNat : Int) ≤ 122 ∨ 48 ≤ (c.toNat : Int) ∧ (c.toNat : Int) ≤ 57 ∨ (c.toNat : Int) = 95)) ∨
    (okB c = false ∧ ((c.toNat : Int) < 48 ∨ (57 < (c.toNat : Int) ∧ (c.toNat : Int) < 95) ∨ (c.toNat : Int) = 96 ∨ 122 < (c.toNat : Int))) := by
  by_cases h : (97 ≤ c.toNat ∧ c.toNat ≤ 122) ∨ (48 ≤ c.toNat ∧ c.toNat ≤ 57) ∨ c.toNat = 95
  · exact .inl ⟨by unfold okB; rw [decide_eq_true_eq]; exact h, by omega⟩
  · exact .inr ⟨by unfold okB; rw [decide_eq_false_iff_not]; exact h, by omega⟩
theorem toList_ne {s : ByteArray} (h0 : 0 < s.size) : s.toList.isEmpty = false := by
  rw [Go.ByteArray.toList_eq, List.isEmpty_eq_false_iff]; intro e
  have := size_data s; rw [e] at this; simp at this; omega
theorem toList_nil {s : ByteArray} (h0 : s.size = 0) : s.toList = [] := by
  rw [Go.ByteArray.toList_eq]; exact List.eq_nil_of_length_eq_zero (by rw [size_data]; exact h0)
end Go.Proofs.YtjnamjkdjcndiaaDoor
namespace Go.Proofs.YtjnamjkdjcndiaaDoor
open Go.RowKit
set_option maxHeartbeats 2000000 in
theorem name_any (s : ByteArray) (w : World) (_hs : s.size ≤ 9223372036854775807) :
    Calls Tryd.prog 38 #[.string s] w (Ret0 w (nameB s.data.toList)) := by
  rcases Nat.eq_zero_or_pos s.size with h0 | h0
  · have H := Lib.hid (name_empty h0)
    have e0 : s.toList.isEmpty = true := by rw [toList_nil h0]; rfl
    have e1 : s.toList = [] := toList_nil h0
    clear h0
    go_enter Tryd.func38, Tryd.ntmps38
    go_wp2
    go_ret
    exact Ret0.mk_ H.out
  have e0 : s.toList.isEmpty = false := toList_ne h0
  by_cases h1 : 16 < s.size
  · have H := Lib.hid (name_long h1)
    go_enter Tryd.func38, Tryd.ntmps38
    go_wp2
    go_ret
    exact Ret0.mk_ H.out
  by_cases h2 : (s[0].toNat : Int) < 97
  · have H := Lib.hid (name_head h0 (.inl (by omega)))
    go_enter Tryd.func38, Tryd.ntmps38
    go_wp2
    go_ret
    exact Ret0.mk_ H.out
  by_cases h3 : 122 < (s[0].toNat : Int)
  · have H := Lib.hid (name_head h0 (.inr (by omega)))
    go_enter Tryd.func38, Tryd.ntmps38
    go_wp2
    go_ret
    exact Ret0.mk_ H.out
  by_cases h4 : s.toList = [107, 101, 121]
  · have H := Lib.hid (name_key (by rw [← Go.ByteArray.toList_eq]; exact h4))
    have h5 : (s.toList == [107, 101, 121]) = true := by rw [h4]; rfl
    clear h4
    go_enter Tryd.func38, Tryd.ntmps38
    go_wp2
    go_ret
    exact Ret0.mk_ H.out
  have h5 : (s.toList == [107, 101, 121]) = false := by rw [beq_eq_false_iff_ne]; exact h4
  have hlow : lowB s[0] = true := by unfold lowB; rw [decide_eq_true_eq]; omega
  have HL := Lib.hid hlow
  have H4 := Lib.hid (show s.data.toList ≠ [107, 101, 121] by rw [← Go.ByteArray.toList_eq]; exact h4)
  clear hlow h4
  go_enter Tryd.func38, Tryd.ntmps38
  go_wp2
  go_loop [28] (fun i => ∃ k : Nat, k ≤ s.size ∧ i = .int .i64 k ∧ OkTo s k) (fun i => s.size - (intOf i).toNat)
  case atStart => exact ⟨0, by omega, rfl, fun j hj h => by omega⟩
  case round =>
    obtain ⟨k, hk, rfl, hok⟩ := hrel
    by_cases hlt : k < s.size
    · rcases ok_cases s[k] with ⟨ho, hc⟩ | ⟨ho, hc⟩
      · have HO := Lib.hid (hok.next hlt ho)
        clear ho hok
        rcases hc with ⟨o1, o2⟩ | ⟨o1, o2⟩ | o1
        · go_wp2
          go_round
          case rel => exact ⟨k + 1, by omega, by go_num, HO.out⟩
          case measure => simp [intOf]; omega
        · go_wp2
          go_round
          case rel => exact ⟨k + 1, by omega, by go_num, HO.out⟩
          case measure => simp [intOf]; omega
        · have o2 : ((s[k].toNat : Int) != 95) = false := by simp; omega
          have o3 : 95 ≤ (s[k].toNat : Int) := by omega
          have o4 : (s[k].toNat : Int) ≤ 95 := by omega
          clear o1
          go_wp2
          go_round
          case rel => exact ⟨k + 1, by omega, by go_num, HO.out⟩
          case measure => simp [intOf]; omega
      · have HN := Lib.hid (name_char hlt ho)
        clear ho hok
        have hne : ((s[k].toNat : Int) != 95) = true := by simp; omega
        rcases hc with o1 | ⟨o1, o2⟩ | o1 | o1
        · go_wp2
          go_ret
          exact Ret0.mk_ HN.out
        · go_wp2
          go_ret
          exact Ret0.mk_ HN.out
        · have o3 : 96 ≤ (s[k].toNat : Int) := by omega
          have o4 : (s[k].toNat : Int) ≤ 96 := by omega
          clear o1
          go_wp2
          go_ret
          exact Ret0.mk_ HN.out
        · go_wp2
          go_ret
          exact Ret0.mk_ HN.out
    · go_wp2
      go_ret
      exact Ret0.mk_ (name_yes h0 (by omega) H4.out HL.out (fun j hj => hok j hj (by omega)))
end Go.Proofs.YtjnamjkdjcndiaaDoor
namespace Go.Proofs.YtjnamjkdjcndiaaDoor
open Go.RowKit
def upN : Nat → Int → Option Int
  | 0, n => some n
  | k + 1, n => if 99999999999999999 < n ∨ n < -99999999999999999 then none else upN k (n * 10)
def downN : Nat → Int → Option Int
  | 0, n => some n
  | k + 1, n => if n.tmod 10 = 0 then downN k (n.tdiv 10) else none
def withB (n : Int) : Bool := decide (-999999999999999999 ≤ n) && decide (n ≤ 999999999999999999)
def scaB (k : Int) : Bool := decide (0 ≤ k) && decide (k ≤ 18)
/-- The number with another scale, and the error. -/
def rescaleV (n a b : Int) : Int × Int :=
  if withB n && scaB a && scaB b then (match (if a ≤ b then upN (b - a).toNat n else downN (a - b).toNat n) with | some x => (x, 0) | none => (0, 8)) else (0, 4)
def RetRs (w : World) (r : Int × Int) (e : Ending) (w' : World) : Prop := e = .returned (.tuple #[.int .i64 r.1, .int .i64 r.2]) ∧ w = w'
theorem RetRs.mk_ {w : World} {r : Int × Int} {a b : Int} (h : r = (a, b)) : RetRs w r (.returned (.tuple #[.int .i64 a, .int .i64 b])) w := by subst h; exact ⟨rfl, rfl⟩
def outR (R : Option Int) : Int × Int := match R with | some x => (x, 0) | none => (0, 8)
theorem rescaleV_up {n a b : Int} (h1 : withB n = true) (h2 : scaB a = true) (h3 : scaB b = true) (hab : a ≤ b) {k : Nat} (hk : (k : Int) = b - a) {R : Option Int} (h : upN k n = R) : rescaleV n a b = outR R := by
  unfold rescaleV; rw [h1, h2, h3, if_pos (show (true && true && true) = true from rfl), if_pos hab, show (b - a).toNat = k by omega, h]; rfl
theorem rescaleV_down {n a b : Int} (h1 : withB n = true) (h2 : scaB a = true) (h3 : scaB b = true) (hab : ¬a ≤ b) {k : Nat} (hk : (k : Int) = a - b) {R : Option Int} (h : downN k n = R) : rescaleV n a b = outR R := by
  unfold rescaleV; rw [h1, h2, h3, if_pos (show (true && true && true) = true from rfl), if_neg hab, show (a - b).toNat = k by omega, h]; rfl
theorem rescaleV_bad {n a b : Int} (h : (withB n && scaB a && scaB b) = false) : rescaleV n a b = (0, 4) := by
  unfold rescaleV; rw [h]; rfl
theorem retRs_of {w : World} {r : Int × Int} {a b : Int} (h : r = (a, b)) {P : Program} {f : FuncId} {args : Array Value} (hc : Calls P f args w (RetRs w r)) : Calls P f args w fun e w' => e = .returned (.tuple #[.int .i64 a, .int .i64 b]) ∧ w = w' := by subst h; exact hc
theorem withB_bd {n : Int} (h : withB n = true) : -999999999999999999 ≤ n ∧ n ≤ 999999999999999999 := by simpa [withB] using h
theorem scaB_bd {n : Int} (h : scaB n = true) : 0 ≤ n ∧ n ≤ 18 := by simpa [scaB] using h
theorem tdm (x : Int) (h0 : -999999999999999999 ≤ x) (h1 : x ≤ 999999999999999999) : -999999999999999999 ≤ x.tdiv 10 ∧ x.tdiv 10 ≤ 999999999999999999 ∧ -9 ≤ x.tmod 10 ∧ x.tmod 10 ≤ 9 := by
  rcases Int.le_total 0 x with h | h
  · rw [Int.tdiv_eq_ediv_of_nonneg h, Int.tmod_eq_emod_of_nonneg h]; omega
  · obtain ⟨y, rfl⟩ : ∃ y, x = -y := ⟨-x, by omega⟩
    rw [Int.neg_tdiv, Int.neg_tmod, Int.tdiv_eq_ediv_of_nonneg (by omega), Int.tmod_eq_emod_of_nonneg (by omega)]; omega
theorem within_any (n : Int) (w : World) : Calls Tryd.prog 68 #[.int .i64 n] w fun e w' => e = .returned (.bool (withB n)) ∧ w = w' := by
  by_cases h1 : -999999999999999999 ≤ n
  · by_cases h2 : n ≤ 999999999999999999
    all_goals
      go_enter Tryd.func68, Tryd.ntmps68
      go_wp2
      go_ret
      exact ⟨ret_bool (by simp [withB]; omega), rfl⟩
  · go_enter Tryd.func68, Tryd.ntmps68
    go_wp2
    go_ret
    exact ⟨ret_bool (by simp [withB]; omega), rfl⟩
theorem scales_any (n : Int) (w : World) : Calls Tryd.prog 69 #[.int .i64 n] w fun e w' => e = .returned (.bool (scaB n)) ∧ w = w' := by
  by_cases h1 : 0 ≤ n
  · by_cases h2 : n ≤ 18
    all_goals
      go_enter Tryd.func69, Tryd.ntmps69
      go_wp2
      go_ret
      exact ⟨ret_bool (by simp [scaB]; omega), rfl⟩
  · go_enter Tryd.func69, Tryd.ntmps69
    go_wp2
    go_ret
    exact ⟨ret_bool (by simp [scaB]; omega), rfl⟩
set_option maxHeartbeats 1000000 in
theorem decnum_any (n k : Int) (w : World) : Calls Tryd.prog 63 #[.int .i64 n, .int .i64 k] w fun e w' => e = .returned (.bool (withB n && scaB k)) ∧ w = w' := by
  have HF := Lib.hid (show (withB n && scaB k) = (decide (-999999999999999999 ≤ n) && decide (n ≤ 999999999999999999) && decide (0 ≤ k) && decide (k ≤ 18)) by simp [withB, scaB, Bool.and_assoc])
  by_cases h1 : -999999999999999999 ≤ n
  · by_cases h2 : n ≤ 999999999999999999
    · by_cases h3 : 0 ≤ k
      · by_cases h4 : k ≤ 18
        all_goals
          go_enter Tryd.func63, Tryd.ntmps63
          go_wp2
          go_ret
          exact ⟨ret_bool (by rw [HF.out]; simp [h1, h2, h3, h4]), rfl⟩
      · go_enter Tryd.func63, Tryd.ntmps63
        go_wp2
        go_ret
        exact ⟨ret_bool (by rw [HF.out, decide_eq_false (show ¬(0 ≤ k) by omega)]; simp), rfl⟩
    · go_enter Tryd.func63, Tryd.ntmps63
      go_wp2
      go_ret
      exact ⟨ret_bool (by rw [HF.out, decide_eq_false (show ¬(n ≤ 999999999999999999) by omega)]; simp), rfl⟩
  · go_enter Tryd.func63, Tryd.ntmps63
    go_wp2
    go_ret
    exact ⟨ret_bool (by rw [HF.out, decide_eq_false (show ¬(-999999999999999999 ≤ n) by omega)]; simp), rfl⟩
end Go.Proofs.YtjnamjkdjcndiaaDoor
namespace Go.Proofs.YtjnamjkdjcndiaaDoor
open Go.RowKit
theorem name_head' {s : ByteArray} {k : Nat} (hk : k < s.size) (h0 : k = 0) (h : lowB s[k] = false) : nameB s.data.toList = false := by
  subst h0
  have : lowB (s.data.toList.headD 0) = false := by rw [head_data s hk]; exact h
  unfold nameB
  rw [this]
  simp
theorem low_cases (c : UInt8) : (lowB c = true ∧ 97 ≤ (c.toNat : Int) ∧ (c.toNat : Int) ≤ 122) ∨ (lowB c = false ∧ ((c.toNat : Int) < 97 ∨ 122 < (c.toNat : Int))) := by
  by_cases h : 97 ≤ c.toNat ∧ c.toNat ≤ 122
  · exact .inl ⟨by unfold lowB; rw [decide_eq_true_eq]; exact h, by omega⟩
  · exact .inr ⟨by unfold lowB; rw [decide_eq_false_iff_not]; exact h, by omega⟩
theorem low_ok {c : UInt8} (h : lowB c = true) : okB c = true := by
  unfold lowB at h; unfold okB; rw [decide_eq_true_eq] at h ⊢; exact .inl h
def LowTo (s : ByteArray) (k : Nat) : Prop := ∀ (h : 0 < s.size), 0 < k → lowB s[0] = true
set_option maxHeartbeats 4000000 in
theorem rname_any (s : ByteArray) (w : World) (_hs : s.size ≤ 9223372036854775807) :
    Calls Tryd.prog 44 #[.string s] w (Ret0 w (nameB s.data.toList)) := by
  rcases Nat.eq_zero_or_pos s.size with h0 | h0
  · have H := Lib.hid (name_empty h0)
    go_enter Tryd.func44, Tryd.ntmps44
    go_wp2
    go_ret
    exact Ret0.mk_ H.out
  by_cases h1 : 16 < s.size
  · have H := Lib.hid (name_long h1)
    go_enter Tryd.func44, Tryd.ntmps44
    go_wp2
    go_ret
    exact Ret0.mk_ H.out
  by_cases h4 : s.toList = [107, 101, 121]
  · have H := Lib.hid (name_key (by rw [← Go.ByteArray.toList_eq]; exact h4))
    have h5 : (s.toList == [107, 101, 121]) = true := by rw [h4]; rfl
    clear h4
    go_enter Tryd.func44, Tryd.ntmps44
    go_wp2
    go_ret
    exact Ret0.mk_ H.out
  have h5 : (s.toList == [107, 101, 121]) = false := by rw [beq_eq_false_iff_ne]; exact h4
  have H4 := Lib.hid (show s.data.toList ≠ [107, 101, 121] by rw [← Go.ByteArray.toList_eq]; exact h4)
  clear h4
  go_enter Tryd.func44, Tryd.ntmps44
  go_wp2
  go_loop [3] (fun i => ∃ k : Nat, k ≤ s.size ∧ i = .int .i64 k ∧ OkTo s k ∧ LowTo s k) (fun i => s.size - (intOf i).toNat)
  case atStart => exact ⟨0, by omega, rfl, fun j hj h => by omega, fun h h' => by omega⟩
  case round =>
    obtain ⟨k, hk, rfl, hok, hlw⟩ := hrel
    by_cases hlt : k < s.size
    · rcases low_cases s[k] with ⟨ho, o1, o2⟩ | ⟨ho, hc⟩
      · have HO := Lib.hid (hok.next hlt (low_ok ho))
        have HL := Lib.hid (show LowTo s (k + 1) from fun h _ => by
          rcases Nat.eq_zero_or_pos k with hz | hz
          · subst hz; exact ho
          · exact hlw h hz)
        clear ho hok hlw
        go_wp2
        exact ⟨⟨k + 1, by omega, by go_num, HO.out, HL.out⟩, by simp [intOf]; omega⟩
      · rcases Nat.eq_zero_or_pos k with hz | hz
        · have HN := Lib.hid (name_head' hlt hz ho)
          have he : ((k : Int) == 0) = true := beq_iff_eq.2 (by omega)
          clear ho hok hlw hz
          rcases hc with o1 | o1
          · go_wp2
            go_ret
            exact Ret0.mk_ HN.out
          · have hd : decide ((s[k].toNat : Int) ≤ 122) = false := by simp; omega
            go_wp2
            go_ret
            exact Ret0.mk_ HN.out
        · have he : ((k : Int) == 0) = false := beq_eq_false_iff_ne.2 (by omega)
          rcases ok_cases s[k] with ⟨ho2, hc2⟩ | ⟨ho2, hc2⟩
          · have HO := Lib.hid (hok.next hlt ho2)
            have HL := Lib.hid (show LowTo s (k + 1) from fun h _ => hlw h hz)
            clear ho ho2 hok hlw
            rcases hc2 with ⟨q1, q2⟩ | ⟨q1, q2⟩ | q1
            · exfalso; omega
            · have hne : ((s[k].toNat : Int) != 95) = true := by simp; omega
              clear hc
              go_wp2
              exact ⟨⟨k + 1, by omega, by go_num, HO.out, HL.out⟩, by simp [intOf]; omega⟩
            · have hne : ((s[k].toNat : Int) != 95) = false := by simp; omega
              have q2 : (s[k].toNat : Int) ≤ 95 := by omega
              clear hc q1
              go_wp2
              exact ⟨⟨k + 1, by omega, by go_num, HO.out, HL.out⟩, by simp [intOf]; omega⟩
          · have HN := Lib.hid (name_char hlt ho2)
            have hne : ((s[k].toNat : Int) != 95) = true := by simp; omega
            clear ho ho2 hok hlw
            rcases hc2 with q1 | ⟨q1, q2⟩ | q1 | q1
            · clear hc
              go_wp2
              go_ret
              exact Ret0.mk_ HN.out
            · clear hc
              go_wp2
              go_ret
              exact Ret0.mk_ HN.out
            · have q3 : 96 ≤ (s[k].toNat : Int) := by omega
              have q4 : (s[k].toNat : Int) ≤ 96 := by omega
              clear hc q1
              go_wp2
              go_ret
              exact Ret0.mk_ HN.out
            · clear hc
              have hd : decide ((s[k].toNat : Int) ≤ 122) = false := by simp; omega
              go_wp2
              go_ret
              exact Ret0.mk_ HN.out
    · go_wp2
      go_ret
      exact Ret0.mk_ (name_yes h0 (by omega) H4.out (hlw h0 (by omega)) (fun j hj => hok j hj (by omega)))
def RetI (w : World) (x : Int) (e : Ending) (w' : World) : Prop := e = .returned (.int .i64 x) ∧ Below w.heap.size w w'
set_option maxHeartbeats 400000 in
theorem check_empty (w : World) : Calls Tryd.prog 27 #[.agg #[.slice none 0 0, .int .i64 0]] w (RetI w 1) := by
  go_enter Tryd.func27, Tryd.ntmps27
  go_wp2
  go_ret
  exact ⟨rfl, (Below.refl _ _).alloc (Nat.le_refl _) _⟩
def RetB (w : World) (b : Bool) (e : Ending) (w' : World) : Prop := e = .returned (.bool b) ∧ Below w.heap.size w w'
end Go.Proofs.YtjnamjkdjcndiaaDoor
namespace Go.Proofs.YtjnamjkdjcndiaaDoor
open Go.RowKit
def permB (t n : Int) (s : ByteArray) : Bool :=
  if t = 2 then decide (n = 0 ∨ n = 1) else if t = 4 then decide (-719162 ≤ n ∧ n ≤ 2932896) else if t = 5 then decide (-999999999999999999 ≤ n ∧ n ≤ 999999999999999999) else if t = 3 then decide (s.size ≤ 64) else true
def checkV (t : Int) (cn : Bool) (nul : Bool) (n : Int) (s : ByteArray) : Int :=
  if t < 1 ∨ 5 < t then 1 else if (nul = true ∨ t ≠ 3) ∧ s.size ≠ 0 then 11 else if (nul = true ∨ t = 3) ∧ n ≠ 0 then 11 else if nul = true ∧ cn = false then 12 else if nul = false ∧ permB t n s = false then 4 else 0
def RetB1 (w : World) (b : Bool) (e : Ending) (w' : World) : Prop := e = .returned (.bool b) ∧ Below w.heap.size w w'
theorem RetB1.mk_ {w w' : World} {b b' : Bool} (h : b = b') (hb : Below w.heap.size w w') : RetB1 w b (.returned (.bool b')) w' := by subst h; exact ⟨rfl, hb⟩
set_option maxHeartbeats 1000000 in
theorem perm_any (t n : Int) (nul : Bool) (s : ByteArray) (w : World) (hs : s.size ≤ 9223372036854775807) :
    Calls Tryd.prog 54 #[.int .i64 t, .agg #[.bool nul, .int .i64 n, .string s]] w (RetB1 w (permB t n s)) := by
  have hb := (Below.refl w.heap.size w).alloc (Nat.le_refl _) (.cells #[.bool nul, .int .i64 n, .string s] 33)
  by_cases h2 : t = 2
  · subst h2
    by_cases hn : n = 0
    · have H := Lib.hid (show permB 2 n s = true by simp [permB, hn])
      have hn0 : (n == 0) = true := by simpa using hn
      clear hn
      go_enter Tryd.func54, Tryd.ntmps54
      go_wp2
      go_ret
      exact RetB1.mk_ H.out hb
    · have hn0 : (n == 0) = false := by simpa using hn
      by_cases hn1 : n = 1
      · have H := Lib.hid (show permB 2 n s = true by simp [permB, hn1])
        have hn1' : (n == 1) = true := by simpa using hn1
        clear hn hn1
        go_enter Tryd.func54, Tryd.ntmps54
        go_wp2
        go_ret
        exact RetB1.mk_ H.out hb
      · have H := Lib.hid (show permB 2 n s = false by simp [permB, hn, hn1])
        have hn1' : (n == 1) = false := by simpa using hn1
        clear hn hn1
        go_enter Tryd.func54, Tryd.ntmps54
        go_wp2
        go_ret
        exact RetB1.mk_ H.out hb
  by_cases h4 : t = 4
  · subst h4
    by_cases hn : n < -719162
    · have H := Lib.hid (show permB 4 n s = false by simp [permB]; omega)
      go_enter Tryd.func54, Tryd.ntmps54
      go_wp2
      go_ret
      exact RetB1.mk_ H.out hb
    · by_cases hn1 : 2932896 < n
      · have H := Lib.hid (show permB 4 n s = false by simp [permB]; omega)
        have hd : decide (n ≤ 2932896) = false := by simp; omega
        go_enter Tryd.func54, Tryd.ntmps54
        go_wp2
        go_ret
        exact RetB1.mk_ H.out hb
      · have H := Lib.hid (show permB 4 n s = true by simp [permB]; omega)
        have hd : decide (n ≤ 2932896) = true := by simp; omega
        go_enter Tryd.func54, Tryd.ntmps54
        go_wp2
        go_ret
        exact RetB1.mk_ H.out hb
  by_cases h5 : t = 5
  · subst h5
    by_cases hn : n < -999999999999999999
    · have H := Lib.hid (show permB 5 n s = false by simp [permB]; omega)
      go_enter Tryd.func54, Tryd.ntmps54
      go_wp2
      go_ret
      exact RetB1.mk_ H.out hb
    · by_cases hn1 : 999999999999999999 < n
      · have H := Lib.hid (show permB 5 n s = false by simp [permB]; omega)
        have hd : decide (n ≤ 999999999999999999) = false := by simp; omega
        go_enter Tryd.func54, Tryd.ntmps54
        go_wp2
        go_ret
        exact RetB1.mk_ H.out hb
      · have H := Lib.hid (show permB 5 n s = true by simp [permB]; omega)
        have hd : decide (n ≤ 999999999999999999) = true := by simp; omega
        go_enter Tryd.func54, Tryd.ntmps54
        go_wp2
        go_ret
        exact RetB1.mk_ H.out hb
  by_cases h3 : t = 3
  · subst h3
    by_cases hn : s.size ≤ 64
    · have H := Lib.hid (show permB 3 n s = true by simp [permB]; omega)
      have hd : decide ((s.size : Int) ≤ 64) = true := by simp; omega
      go_enter Tryd.func54, Tryd.ntmps54
      go_wp2
      go_ret
      exact RetB1.mk_ H.out hb
    · have H := Lib.hid (show permB 3 n s = false by simp [permB]; omega)
      have hd : decide ((s.size : Int) ≤ 64) = false := by simp; omega
      go_enter Tryd.func54, Tryd.ntmps54
      go_wp2
      go_ret
      exact RetB1.mk_ H.out hb
  have H := Lib.hid (show permB t n s = true by simp [permB, h2, h3, h4, h5])
  have e2 : (t == 2) = false := by simpa using h2
  have e3 : (t == 3) = false := by simpa using h3
  have e4 : (t == 4) = false := by simpa using h4
  have e5 : (t == 5) = false := by simpa using h5
  clear h2 h3 h4 h5
  go_enter Tryd.func54, Tryd.ntmps54
  go_wp2
  go_ret
  exact RetB1.mk_ H.out hb
set_option maxHeartbeats 400000 in
theorem known_any (t : Int) (b : Bool) (hb : b = decide (1 ≤ t ∧ t ≤ 5)) (w : World) : Calls Tryd.prog 53 #[.int .i64 t] w (Ret0 w b) := by
  by_cases h1 : t < 1
  · have H := Lib.hid (show b = false by rw [hb]; simp; omega)
    clear hb
    go_enter Tryd.func53, Tryd.ntmps53
    go_wp2
    go_ret
    exact Ret0.mk_ H.out
  · by_cases h2 : 5 < t
    · have H := Lib.hid (show b = false by rw [hb]; simp; omega)
      have hd : decide (t ≤ 5) = false := by simp; omega
      clear hb
      go_enter Tryd.func53, Tryd.ntmps53
      go_wp2
      go_ret
      exact Ret0.mk_ H.out
    · have H := Lib.hid (show b = true by rw [hb]; simp; omega)
      have hd : decide (t ≤ 5) = true := by simp; omega
      clear hb
      go_enter Tryd.func53, Tryd.ntmps53
      go_wp2
      go_ret
      exact Ret0.mk_ H.out
set_option maxHeartbeats 400000 in
theorem typed_any (t : Int) (b : Bool) (hb : b = decide (1 ≤ t ∧ t ≤ 5)) (w : World) : Calls Tryd.prog 45 #[.int .i64 t] w (Ret0 w b) := by
  by_cases h1 : t < 1
  · have H := Lib.hid (show b = false by rw [hb]; simp; omega)
    clear hb
    go_enter Tryd.func45, Tryd.ntmps45
    go_wp2
    go_ret
    exact Ret0.mk_ H.out
  · by_cases h2 : 5 < t
    · have H := Lib.hid (show b = false by rw [hb]; simp; omega)
      have hd : decide (t ≤ 5) = false := by simp; omega
      clear hb
      go_enter Tryd.func45, Tryd.ntmps45
      go_wp2
      go_ret
      exact Ret0.mk_ H.out
    · have H := Lib.hid (show b = true by rw [hb]; simp; omega)
      have hd : decide (t ≤ 5) = true := by simp; omega
      clear hb
      go_enter Tryd.func45, Tryd.ntmps45
      go_wp2
      go_ret
      exact Ret0.mk_ H.out
end Go.Proofs.YtjnamjkdjcndiaaDoor
namespace Go.Proofs.YtjnamjkdjcndiaaDoor
open Go.RowKit
def ints (l : List Int) : List Value := l.map (Value.int .i64)
theorem ints_snoc (l : List Int) (x : Int) : ints (l ++ [x]) = ints l ++ [.int .i64 x] := by simp [ints]
theorem ints_length (l : List Int) : (ints l).length = l.length := by simp [ints]
theorem ints_get {l : List Int} {k : Nat} {u : Value} (h : (ints l)[k]? = some u) : ∃ x, l[k]? = some x ∧ u = .int .i64 x := by
  simp only [ints, List.getElem?_map, Option.map_eq_some_iff] at h
  obtain ⟨x, hx, rfl⟩ := h
  exact ⟨x, hx, rfl⟩
theorem oneInt (k : IntKind) (x : Int) : ∀ u ∈ (#[Value.int k x] : Array Value).toList, u.oneCell' = true := by intro u hu; simp at hu; subst hu; rfl
theorem oneSlice (A : Option Addr) (n c : Nat) : ∀ u ∈ (#[Value.slice A n c] : Array Value).toList, u.oneCell' = true := by intro u hu; simp at hu; subst hu; rfl
theorem own_ints {w : World} {base : Nat} {e : TypeId} {v : Value} {l : List Int} {x : Int} (h : w.ownsRow base e 1 v (l.length + 1) (ints l ++ (#[Value.int .i64 x] : Array Value).toList)) : w.ownsRow base e 1 v (l ++ [x]).length (ints (l ++ [x])) := by
  rw [ints_snoc, List.length_append]; exact h

/-- A known element of a read slice of integers. -/
theorem Sl.int_at {w : World} {A : Option Addr} {c k : Nat} {zs : List Int} {n : Nat} (h : Sl w 1 (.slice A n c) n (ints zs)) (hk : k < n) : ∃ ad x, A = some ad ∧ zs[k]? = some x ∧ w.cell? (ad.add k) = some (.int .i64 x) := by
  obtain ⟨ad, u, e, _, hu, hc⟩ := h.at_ hk
  obtain ⟨x, hx, rfl⟩ := ints_get hu
  exact ⟨ad, x, e, hx, hc⟩

/-- A slice of integers that came in (as the frame of a law hands it over) reads as a list of integers of its kind. -/
theorem isRow_sl {w : World} {a : Option Addr} {len cap : Nat} {zs : List Int} (h : (a = none ∧ len = 0 ∧ cap = 0 ∧ zs = []) ∨
    ∃ x, a = some x ∧ len ≤ cap ∧ cap ≤ maxLen ∧ zs.length = cap ∧ (∀ i, i < zs.length → w.cell? (x.add i) = some (.int .i64 (zs.getD i 0))) ∧ ∀ n ∈ zs, (Lit.int .i64 n).wf = true) :
    ∃ l : List Int, len = l.length ∧ Sl w 1 (.slice a l.length cap) l.length (ints l) ∧ l.length ≤ 9223372036854775807 ∧ ∀ n ∈ l, (Lit.int .i64 n).wf = true := by
  rcases h with ⟨rfl, rfl, rfl, rfl⟩ | ⟨x, rfl, h1, h2, h3, h4, h5⟩
  · exact ⟨[], rfl, Sl.nil _ _, by simp, by simp⟩
  · have hl : (zs.take len).length = len := by rw [List.length_take]; omega
    unfold maxLen at h2
    refine ⟨zs.take len, hl.symm, ⟨some x, cap, rfl, by omega, by unfold maxLen; omega, by rw [ints_length]; omega, fun hn => ⟨x, rfl, ?_, ?_⟩⟩, by omega, fun n hn => h5 n (List.mem_of_mem_take hn)⟩
    · have := World.block_lt_of_cell? w (x.add 0) (h4 0 (by omega))
      rwa [block_of_add] at this
    · intro j u hj
      obtain ⟨y, hy, rfl⟩ := ints_get hj
      have hjl : j < zs.length := by
        have := (List.getElem?_eq_some_iff.1 hy).1
        rw [hl] at this; omega
      rw [h4 j hjl]
      rw [List.getElem?_take] at hy
      split at hy
      · simp [List.getD, hy]
      · cases hy

def ints8 (l : List Int) : List Value := l.map (Value.int .u8)
theorem ints8_length (l : List Int) : (ints8 l).length = l.length := by simp [ints8]
theorem ints8_get {l : List Int} {k : Nat} {u : Value} (h : (ints8 l)[k]? = some u) : ∃ x, l[k]? = some x ∧ u = .int .u8 x := by
  simp only [ints8, List.getElem?_map, Option.map_eq_some_iff] at h
  obtain ⟨x, hx, rfl⟩ := h
  exact ⟨x, hx, rfl⟩
theorem Sl.int8_at {w : World} {A : Option Addr} {c k : Nat} {zs : List Int} {n : Nat} (h : Sl w 1 (.slice A n c) n (ints8 zs)) (hk : k < n) : ∃ ad x, A = some ad ∧ zs[k]? = some x ∧ w.cell? (ad.add k) = some (.int .u8 x) := by
  obtain ⟨ad, u, e, _, hu, hc⟩ := h.at_ hk
  obtain ⟨x, hx, rfl⟩ := ints8_get hu
  exact ⟨ad, x, e, hx, hc⟩
/-- A slice of integers that came in (as the frame of a law hands it over) reads as a list of integers of its kind. -/
theorem isRow_sl8 {w : World} {a : Option Addr} {len cap : Nat} {zs : List Int} (h : (a = none ∧ len = 0 ∧ cap = 0 ∧ zs = []) ∨
    ∃ x, a = some x ∧ len ≤ cap ∧ cap ≤ maxLen ∧ zs.length = cap ∧ (∀ i, i < zs.length → w.cell? (x.add i) = some (.int .u8 (zs.getD i 0))) ∧ ∀ n ∈ zs, (Lit.int .u8 n).wf = true) :
    ∃ l : List Int, len = l.length ∧ Sl w 1 (.slice a l.length cap) l.length (ints8 l) ∧ l.length ≤ 9223372036854775807 ∧ ∀ n ∈ l, (Lit.int .u8 n).wf = true := by
  rcases h with ⟨rfl, rfl, rfl, rfl⟩ | ⟨x, rfl, h1, h2, h3, h4, h5⟩
  · exact ⟨[], rfl, Sl.nil _ _, by simp, by simp⟩
  · have hl : (zs.take len).length = len := by rw [List.length_take]; omega
    unfold maxLen at h2
    refine ⟨zs.take len, hl.symm, ⟨some x, cap, rfl, by omega, by unfold maxLen; omega, by rw [ints8_length]; omega, fun hn => ⟨x, rfl, ?_, ?_⟩⟩, by omega, fun n hn => h5 n (List.mem_of_mem_take hn)⟩
    · have := World.block_lt_of_cell? w (x.add 0) (h4 0 (by omega))
      rwa [block_of_add] at this
    · intro j u hj
      obtain ⟨y, hy, rfl⟩ := ints8_get hj
      have hjl : j < zs.length := by
        have := (List.getElem?_eq_some_iff.1 hy).1
        rw [hl] at this; omega
      rw [h4 j hjl]
      rw [List.getElem?_take] at hy
      split at hy
      · simp [List.getD, hy]
      · cases hy

/-- The values vs are slices that read as gs, each in memory of the call's own. -/
structure LL (w : World) (base : Nat) (e : TypeId) (vs : List Value) (gs : List (List Int)) : Prop where
  len : vs.length = gs.length
  rows : ∀ (j : Nat) (u : Value) (g : List Int), vs[j]? = some u → gs[j]? = some g → w.ownsRow base e 1 u g.length (ints g)

theorem LL.nil (w : World) (base : Nat) (e : TypeId) : LL w base e [] [] := ⟨rfl, fun j u g h => by simp at h⟩
theorem LL.snoc {w : World} {base : Nat} {e : TypeId} {vs : List Value} {gs : List (List Int)} {u : Value} {cur : List Int} (h : LL w base e vs gs) (hu : w.ownsRow base e 1 u cur.length (ints cur)) : LL w base e (vs ++ [u]) (gs ++ [cur]) := by
  refine ⟨by simp [h.len], fun j x g hx hg => ?_⟩
  by_cases hj : j < vs.length
  · rw [List.getElem?_append_left hj] at hx
    rw [List.getElem?_append_left (by rw [← h.len]; exact hj)] at hg
    exact h.rows j x g hx hg
  · rw [List.getElem?_append_right (by omega)] at hx
    rw [List.getElem?_append_right (by rw [← h.len]; omega), ← h.len] at hg
    rcases hjj : j - vs.length with _ | m
    · rw [hjj] at hx hg
      simp at hx hg
      subst hx; subst hg
      exact hu
    · rw [hjj] at hx; simp at hx
theorem own_grown {w w' : World} {base : Nat} {e : TypeId} {size : Nat} {v : Value} {n : Nat} {xs : List Value} {row : Option Nat} (h : w.ownsRow base e size v n xs) (hg : w.grownBy w' row) (hne : ∀ g, v.ownBlock = some g → row ≠ some g) : w'.ownsRow base e size v n xs := by
  refine h.kept hg ?_
  cases hv : v.ownBlock with
  | none => exact .inl rfl
  | some g => exact .inr (fun e => hne g hv e.symm)
theorem LL.grown {w w' : World} {base : Nat} {e : TypeId} {vs : List Value} {gs : List (List Int)} {row : Option Nat} (h : LL w base e vs gs) (hg : w.grownBy w' row) (hne : ∀ x ∈ vs, ∀ g, x.ownBlock = some g → row ≠ some g) : LL w' base e vs gs :=
  ⟨h.len, fun j u g hu hgg => own_grown (h.rows j u g hu hgg) hg (hne u (List.mem_of_getElem? hu))⟩
theorem LL.below {w w' : World} {base : Nat} {e : TypeId} {vs : List Value} {gs : List (List Int)} (h : LL w base e vs gs) (hb : Below w.heap.size w w') : LL w' base e vs gs :=
  ⟨h.len, fun j u g hu hgg => own_below (h.rows j u g hu hgg) hb⟩
theorem LL.alloc {w : World} {base : Nat} {e : TypeId} {vs : List Value} {gs : List (List Int)} (h : LL w base e vs gs) (o : Obj) : LL (w.alloc o) base e vs gs :=
  ⟨h.len, fun j u g hu hgg => (h.rows j u g hu hgg).alloc o⟩
/-- Rows of different element types never share a block. -/
theorem own_ne {w : World} {base base' : Nat} {e e' : TypeId} {size size' n n' : Nat} {v v' : Value} {xs xs' : List Value} (h : w.ownsRow base e size v n xs) (h' : w.ownsRow base' e' size' v' n' xs') (hne : e ≠ e') : ∀ g, v.ownBlock = some g → v'.ownBlock ≠ some g := by
  intro g hg hg'
  rcases h.2 with ⟨rfl, _⟩ | ⟨g1, cap, cur, rfl, _, hh, _⟩
  · simp [Value.ownBlock] at hg
  rcases h'.2 with ⟨rfl, _⟩ | ⟨g2, cap2, cur2, rfl, _, hh2, _⟩
  · simp [Value.ownBlock] at hg'
  have e1 : g1 = g := by simpa [Value.ownBlock] using hg
  have e2 : g2 = g := by simpa [Value.ownBlock] using hg'
  subst e1; subst e2
  rw [hh] at hh2
  injection hh2 with hh2
  injection hh2 with _ ht
  exact hne ht
theorem LL.mem_row {w : World} {base : Nat} {e : TypeId} {vs : List Value} {gs : List (List Int)} (h : LL w base e vs gs) {x : Value} (hx : x ∈ vs) : ∃ g : List Int, w.ownsRow base e 1 x g.length (ints g) := by
  obtain ⟨j, hj⟩ := List.mem_iff_getElem?.1 hx
  have hl : j < gs.length := by rw [← h.len]; exact (List.getElem?_eq_some_iff.1 hj).1
  exact ⟨gs[j], h.rows j x _ hj (List.getElem?_eq_getElem hl)⟩

/-- The call returns a slice of slices in new memory. -/
def RetLL (w : World) (eO eI : TypeId) (gs : List (List Int)) (d : Ending) (w' : World) : Prop := ∃ v vs, d = .returned v ∧ Below w.heap.size w w' ∧ w'.ownsRow w.heap.size eO 1 v gs.length vs ∧ LL w' w.heap.size eI vs gs
theorem RetLL.nil_ (w w' : World) (eO eI : TypeId) {gs : List (List Int)} (h : gs = []) (hb : Below w.heap.size w w') : RetLL w eO eI gs (.returned (.slice none 0 0)) w' := by
  subst h; exact ⟨_, [], rfl, hb, World.ownsRow_nil _ _ _ _, LL.nil _ _ _⟩
theorem RetLL.mk_ {w w' : World} {eO eI : TypeId} {v : Value} {vs : List Value} {gs gs' : List (List Int)} (hb : Below w.heap.size w w') (h : w'.ownsRow w.heap.size eO 1 v gs.length vs) (hl : LL w' w.heap.size eI vs gs) (hg : gs = gs') : RetLL w eO eI gs' (.returned v) w' := by
  subst hg; exact ⟨v, vs, rfl, hb, h, hl⟩

/-- The state of the loop that builds the groups: the outer slice v owns the values vs; with the last one taken apart. -/
structure Build (w : World) (base : Nat) (eO eI : TypeId) (v : Value) (vs : List Value) (gs : List (List Int)) : Prop where
  own : w.ownsRow base eO 1 v gs.length vs
  ll : LL w base eI vs gs
  apart : ∀ (i j : Nat) (x y : Value) (b : Nat), i < j → vs[i]? = some x → vs[j]? = some y → x.ownBlock = some b → y.ownBlock ≠ some b
theorem Build.nil (w : World) (base : Nat) (eO eI : TypeId) : Build w base eO eI (.slice none 0 0) [] [] := ⟨World.ownsRow_nil _ _ _ _, LL.nil _ _ _, fun i j x y b _ h => by simp at h⟩
/-- behind 'append(groups, nil)' -/
theorem Build.push {w w' : World} {base : Nat} {eO eI : TypeId} {v v' : Value} {vs : List Value} {gs : List (List Int)} (h : Build w base eO eI v vs gs) (hne : eO ≠ eI)
    (hown : w'.ownsRow base eO 1 v' (gs.length + 1) (vs ++ (#[Value.slice none 0 0] : Array Value).toList)) (hg : w.grownBy w' v.ownBlock) : Build w' base eO eI v' (vs ++ [.slice none 0 0]) (gs ++ [[]]) := by
  refine ⟨by rw [List.length_append]; exact hown, ?_, ?_⟩
  · refine LL.snoc (h.ll.grown hg (fun x hx g hxg => ?_)) (World.ownsRow_nil _ _ _ _)
    obtain ⟨l, hl⟩ := h.ll.mem_row hx
    exact own_ne hl h.own (Ne.symm hne) g hxg
  · intro i j x y b hij hx hy hb
    by_cases hj : j < vs.length
    · rw [List.getElem?_append_left (by omega)] at hx
      rw [List.getElem?_append_left hj] at hy
      exact h.apart i j x y b hij hx hy hb
    · rw [List.getElem?_append_right (by omega)] at hy
      rcases hjj : j - vs.length with _ | m
      · rw [hjj] at hy; simp at hy; subst hy; simp [Value.ownBlock]
      · rw [hjj] at hy; simp at hy
theorem Build.kept {w w' : World} {base : Nat} {eO eI : TypeId} {v : Value} {vs : List Value} {gs : List (List Int)} (h : Build w base eO eI v vs gs) (hb : Below w.heap.size w w') : Build w' base eO eI v vs gs :=
  ⟨own_below h.own hb, h.ll.below hb, h.apart⟩
/-- behind 'groups[last] = append(groups[last], x)' -/
theorem Build.put {w w1 : World} {base : Nat} {eO eI : TypeId} {g cap : Nat} {vs : List Value} {gs : List (List Int)} {u u' : Value} {cur : List Int} {x : Int}
    (h : Build w base eO eI (.slice (some ⟨g, 0, none⟩) (gs.length + 1) cap) (vs ++ [u]) (gs ++ [cur])) (hne : eO ≠ eI) 
    (hown : w1.ownsRow base eI 1 u' (cur.length + 1) (ints cur ++ (#[Value.int .i64 x] : Array Value).toList)) (hg : w.grownBy w1 u.ownBlock) (hat : u'.ownBlock = u.ownBlock ∨ ∃ b, u'.ownBlock = some b ∧ w.heap.size ≤ b) :
    Build (w1.setCell ⟨g, gs.length, none⟩ u') base eO eI (.slice (some ⟨g, 0, none⟩) (gs.length + 1) cap) (vs ++ [u']) (gs ++ [cur ++ [x]]) := by
  have hlen : vs.length = gs.length := by have := h.ll.len; simpa using this
  have hown0 : w.ownsRow base eO 1 (.slice (some ⟨g, 0, none⟩) (gs.length + 1) cap) (gs.length + 1) (vs ++ [u]) := by have := h.own; simpa using this
  have hu : w.ownsRow base eI 1 u cur.length (ints cur) := h.ll.rows gs.length u cur (by rw [← hlen]; simp) (by simp)
  have hO : w1.ownsRow base eO 1 (.slice (some ⟨g, 0, none⟩) (gs.length + 1) cap) (gs.length + 1) (vs ++ [u]) := own_grown hown0 hg (fun b hb => own_ne hown0 hu hne b hb)
  obtain ⟨hS, hSg⟩ := hO.stored gs.length u'
  have hset : (vs ++ [u]).set gs.length u' = vs ++ [u'] := by rw [← hlen]; simp
  rw [hset] at hS
  have hll0 : LL w base eI vs gs := ⟨hlen, fun j y q hy hq => h.ll.rows j y q (by rw [List.getElem?_append_left (List.getElem?_eq_some_iff.1 hy).1]; exact hy) (by rw [List.getElem?_append_left (List.getElem?_eq_some_iff.1 hq).1]; exact hq)⟩
  have hap : ∀ y ∈ vs, ∀ b, y.ownBlock = some b → u.ownBlock ≠ some b := by
    intro y hy b hb
    obtain ⟨j, hj⟩ := List.mem_iff_getElem?.1 hy
    have hjl := (List.getElem?_eq_some_iff.1 hj).1
    exact h.apart j vs.length y u b hjl (by rw [List.getElem?_append_left hjl]; exact hj) (by simp) hb
  have hll1 : LL w1 base eI vs gs := hll0.grown hg hap
  have ho' : w1.ownsRow base eI 1 u' (cur ++ [x]).length (ints (cur ++ [x])) := own_ints hown
  have hll2 : LL w1 base eI (vs ++ [u']) (gs ++ [cur ++ [x]]) := hll1.snoc ho'
  refine ⟨by simpa using hS, hll2.grown hSg (fun y hy b hb => ?_), ?_⟩
  · obtain ⟨l, hl⟩ := hll2.mem_row hy
    intro e
    exact own_ne hl hO (Ne.symm hne) b hb (by simpa [Value.ownBlock] using e)
  · intro i j a c b hij ha hc hb
    by_cases hj : j < vs.length
    · rw [List.getElem?_append_left (by omega)] at ha
      rw [List.getElem?_append_left hj] at hc
      exact h.apart i j a c b hij (by rw [List.getElem?_append_left (by omega)]; exact ha) (by rw [List.getElem?_append_left hj]; exact hc) hb
    · rw [List.getElem?_append_right (by omega)] at hc
      rcases hjj : j - vs.length with _ | m
      · rw [hjj] at hc; simp at hc; subst hc
        rw [List.getElem?_append_left (by omega)] at ha
        rcases hat with hat | ⟨b', hb', hbs⟩
        · rw [hat]; exact hap a (List.mem_of_getElem? ha) b hb
        · intro e
          rw [hb'] at e
          injection e with e
          subst e
          obtain ⟨l, hl⟩ := hll0.mem_row (List.mem_of_getElem? ha)
          have := (hl.lt _ hb).2
          omega
      · rw [hjj] at hc; simp at hc
end Go.Proofs.YtjnamjkdjcndiaaDoor
namespace Go.Proofs.YtjnamjkdjcndiaaDoor
open Go.ChangeShapes Go.WideShapes Go.ChangeAt Go.RowKit
section
variable {H : Type} {enc : TypeId × Value → H} {P : Program} {W : World} {base : Nat} {b0 : Nat}
def IsRow (k : IntKind) (w : World) (a : Option Addr) (len cap : Nat) (zs : List Int) : Prop :=
  (a = none ∧ len = 0 ∧ cap = 0 ∧ zs = []) ∨
  ∃ x, a = some x ∧ len ≤ cap ∧ cap ≤ maxLen ∧ zs.length = cap ∧ (∀ i, i < zs.length → w.cell? (x.add i) = some (.int k (zs.getD i 0))) ∧ ∀ n ∈ zs, (Lit.int k n).wf = true
theorem opened_ints {k : IntKind} {t e : TypeId} {v : Value} {d : DataW H} {p : List MemPlace} (ht : P.underlying t = some (.slice e)) (he : P.underlying e = some (.int k)) (hc : P.cellsOf e = 1)
    (hval : Value.okWide P W .any b0 t v) (h : DataW.Trod enc P W 0 (fun _ => true) true t v d p) : ∃ a len cap zs, v = .slice a len cap ∧ IsRow k W a len cap zs ∧ len ≤ Rows.uptoBulk d := by
  obtain ⟨a0, len0, cap0, rfl⟩ := okWide_slice ht hval
  obtain ⟨fuel, hf⟩ := h
  rcases open_ints ht he hc hf with ⟨hcs, _⟩ | ⟨x, l, c, zs, hcs, _, hl, hm, hz, hx, hcell, hwz⟩
  · simp [Value.cells] at hcs
    obtain ⟨rfl, rfl, rfl⟩ := hcs
    exact ⟨_, _, _, [], rfl, .inl ⟨rfl, rfl, rfl, rfl⟩, by omega⟩
  · simp [Value.cells] at hcs
    obtain ⟨rfl, rfl, rfl⟩ := hcs
    refine ⟨_, _, _, zs, rfl, .inr ⟨_, rfl, hl, hm, by simpa using hz, hcell, hwz⟩, ?_⟩
    simp only [Prod.mk.injEq] at hx
    rw [hx.1]
    have e1 : (lits (H := H) k (zs.take len0)).length = len0 := by
      have : zs.length = cap0 := by simpa using hz
      simp [lits]; omega
    have hlen : ∀ l : List (DataW H), l.length ≤ Rows.uptoBulkAll l := by
      intro l
      induction l with
      | nil => simp [Rows.uptoBulkAll]
      | cons x r ih =>
        have : 1 ≤ Rows.uptoBulk x := by
          cases x with
          | lit l => cases l <;> simp [Rows.uptoBulk]
          | nil => simp [Rows.uptoBulk]
          | ptr d => simp [Rows.uptoBulk]
          | slice elems spare => simp [Rows.uptoBulk]
          | agg parts => simp [Rows.uptoBulk]
          | iface t d => simp [Rows.uptoBulk]
          | map entries => simp [Rows.uptoBulk]
          | held h => simp [Rows.uptoBulk]
        simp only [Rows.uptoBulkAll, List.length_cons]; omega
    have := hlen (lits (H := H) k (zs.take len0))
    simp only [Rows.uptoBulk]
    omega
end
end Go.Proofs.YtjnamjkdjcndiaaDoor
namespace Go.Proofs.YtjnamjkdjcndiaaDoor
open Go.ChangeShapes Go.WideShapes Go.ChangeAt Go.RowKit
section
variable {H : Type} {enc : TypeId × Value → H} {W : World} {b0 : Nat}
theorem wf_bd {a : Int} (h : (Lit.int .i64 a).wf = true) : -9223372036854775808 ≤ a ∧ a ≤ 9223372036854775807 := by
  simp [Lit.wf, IntKind.min, IntKind.max, IntKind.signed, IntKind.bits] at h; omega
set_option maxRecDepth 100000 in
theorem opened_value {v : Value} {d : DataW H} {p : List MemPlace} (hval : Value.okWide Tryd.prog W .any b0 33 v) (h : DataW.Trod enc Tryd.prog W 0 (fun _ => true) true 33 v d p) :
    ∃ (b : Bool) (a : Int) (s : ByteArray), v = .agg #[.bool b, .int .i64 a, .string s] ∧ (-9223372036854775808 ≤ a ∧ a ≤ 9223372036854775807) ∧ s.size ≤ maxLen := by
  obtain ⟨v0, v1, v2, y0, y1, y2, n, rfl, _, _, h0, h1, h2⟩ := Go.Joins.open_agg3 Tryd.underlying33 (by kernel_rfl) (by kernel_rfl) hval h
  obtain ⟨b, e0, _⟩ := DataW.trod_bool Tryd.underlying4 h0
  obtain ⟨a, e1, _, wa⟩ := DataW.trod_int Tryd.underlying2 h1
  obtain ⟨s, e2, _, ws⟩ := DataW.trod_string Tryd.underlying9 h2
  simp at e0 e1 e2
  subst e0 e1 e2
  exact ⟨b, a, s, rfl, wf_bd wa, ws⟩
set_option maxRecDepth 100000 in
theorem opened_column {v : Value} {d : DataW H} {p : List MemPlace} (hval : Value.okWide Tryd.prog W .any b0 47 v) (h : DataW.Trod enc Tryd.prog W 0 (fun _ => true) true 47 v d p) :
    ∃ (s : ByteArray) (a k : Int) (b : Bool), v = .agg #[.string s, .int .i64 a, .int .i64 k, .bool b] ∧ s.size ≤ maxLen ∧ (-9223372036854775808 ≤ a ∧ a ≤ 9223372036854775807) ∧ (-9223372036854775808 ≤ k ∧ k ≤ 9223372036854775807) := by
  obtain ⟨v0, v1, v2, v3, y0, y1, y2, y3, n, rfl, _, _, h0, h1, h2, h3⟩ := Go.Joins.open_agg4 Tryd.underlying47 (by kernel_rfl) (by kernel_rfl) hval h
  obtain ⟨s, e0, _, ws⟩ := DataW.trod_string Tryd.underlying9 h0
  obtain ⟨a, e1, _, wa⟩ := DataW.trod_int Tryd.underlying3 h1
  obtain ⟨k, e2, _, wk⟩ := DataW.trod_int Tryd.underlying3 h2
  obtain ⟨b, e3, _⟩ := DataW.trod_bool Tryd.underlying4 h3
  simp at e0 e1 e2 e3
  subst e0 e1 e2 e3
  exact ⟨s, a, k, b, rfl, ws, wf_bd wa, wf_bd wk⟩
end
end Go.Proofs.YtjnamjkdjcndiaaDoor
namespace Go.Proofs.YtjnamjkdjcndiaaDoor
open Go.RowKit
theorem info_u8 : (Tryd.prog.info? 5).map (fun i => (i.zero, i.size, i.bytes)) = some (some (.int .u8 0), 1, 1) := by kernel_rfl
/-- The call answers a string of the bytes l; nothing that was there has turned. -/
def RetStr (w : World) (l : List UInt8) (e : Ending) (w' : World) : Prop := e = .returned (.string ⟨l.toArray⟩) ∧ Below w.heap.size w w'
theorem str_eq {s : ByteArray} {l : List UInt8} (h : s.data.toList = l) : s = ⟨l.toArray⟩ := by subst h; cases s; simp
theorem RetStr.mk_ {w w' : World} {l : List UInt8} {s : ByteArray} (h : s.data.toList = l) (hb : Below w.heap.size w w') : RetStr w l (.returned (.string s)) w' := by rw [str_eq h]; exact ⟨rfl, hb⟩
def byt (xs : List Int) : List UInt8 := xs.map fun n => UInt8.ofNat n.toNat
theorem own_ints8 {w : World} {base : Nat} {e : TypeId} {v : Value} {l : List Int} {x : Int} (h : w.ownsRow base e 1 v (l.length + 1) (ints8 l ++ (#[Value.int .u8 x] : Array Value).toList)) : w.ownsRow base e 1 v (l ++ [x]).length (ints8 (l ++ [x])) := by
  have e1 : ints8 (l ++ [x]) = ints8 l ++ [.int .u8 x] := by simp [ints8]
  rw [e1, List.length_append]; exact h
/-- A row of bytes of the call's own, made a string. -/
theorem conv_own {P : Program} {w : World} {base : Nat} {e src : TypeId} (hs : P.underlying src = some (.slice e)) (he : P.underlying e = some (.int .u8)) {g cap n : Nat} {xs : List Int} (h : w.ownsRow base e 1 (.slice (some ⟨g, 0, none⟩) n cap) n (ints8 xs)) :
    ∀ dst, P.underlying dst = some .string → (convert src dst (.slice (some ⟨g, 0, none⟩) n cap)).run P w = .ok (.string (strOfNums xs)) w := by
  have hl : xs.length = n := by have := h.1; rw [ints8_length] at this; omega
  refine run_convert_bytes_arg w src e hs he g 0 n cap xs hl (fun i hi => ?_)
  rw [Nat.zero_add, h.cellAt i (by omega)]
  have : i < xs.length := by omega
  simp [ints8, List.getD, List.getElem?_eq_getElem this]
theorem strOf_byt (xs : List Int) : (strOfNums xs).data.toList = byt xs := strOfNums_data xs
theorem zig_bits (n : Int) (h0 : -9223372036854775808 ≤ n) (h1 : n ≤ 9223372036854775807) :
    bits .xor .u64 (IntKind.u64.wrap (wrap64 (n * 2))) (IntKind.u64.wrap (n / 9223372036854775808)) = ((Lib.zigzag n : Nat) : Int) := by
  by_cases hn : 0 ≤ n
  · have e1 : IntKind.u64.wrap (wrap64 (n * 2)) = (((2 * n).toNat : Nat) : Int) := by
      rw [IntKind.wrap_u64]; unfold wrap64; omega
    have e2 : IntKind.u64.wrap (n / 9223372036854775808) = ((0 : Nat) : Int) := by
      rw [IntKind.wrap_u64]; omega
    rw [e1, e2, bits_xor_u64_nat _ _ (by omega) (by decide)]
    unfold Lib.zigzag
    rw [if_pos hn, Nat.xor_zero]
  · have e1 : IntKind.u64.wrap (wrap64 (n * 2)) = (((2 * n + 18446744073709551616).toNat : Nat) : Int) := by
      rw [IntKind.wrap_u64]; unfold wrap64; omega
    have e2 : IntKind.u64.wrap (n / 9223372036854775808) = ((2 ^ 64 - 1 : Nat) : Int) := by
      rw [IntKind.wrap_u64]; omega
    rw [e1, e2, bits_xor_u64_nat _ _ (by omega) (by decide), Nat.xor_comm, Lib.xor_ones64 _ (by omega)]
    unfold Lib.zigzag
    rw [if_neg hn]
    omega
end Go.Proofs.YtjnamjkdjcndiaaDoor
namespace Go.Proofs.YtjnamjkdjcndiaaDoor
open Go.RowKit
def Blk (w : World) (g : Nat) (t : TypeId) (cs : Array Value) : Prop := w.heap[g]? = some (.cells cs t (0, 0))
section
variable {w w' : World} {g : Nat} {t : TypeId} {cs : Array Value}
theorem Blk.lt (h : Blk w g t cs) : g < w.heap.size := by
  rcases Nat.lt_or_ge g w.heap.size with hlt | hge
  · exact hlt
  · unfold Blk at h; rw [Array.getElem?_eq_none hge] at h; cases h
theorem Blk.cell (h : Blk w g t cs) (i : Nat) : w.cell? ⟨g, i, none⟩ = cs[i]? := cell_of_row w g i cs t (0, 0) h
theorem Blk.frozen (h : Blk w g t cs) (i : Nat) : w.frozen? ⟨g, i, none⟩ = false := by
  unfold Blk at h
  simp [World.frozen?, h]
theorem Blk.new (w : World) (t : TypeId) (cs : Array Value) : Blk (w.alloc (.cells cs t)) w.heap.size t cs := heap_alloc_new w _
theorem Blk.drewN (h : Blk w g t cs) (n : Nat) : Blk (w.drewN n) g t cs := h
theorem Blk.alloc (h : Blk w g t cs) (o : Obj) : Blk (w.alloc o) g t cs := (Below.heap_alloc w o g h.lt).trans h
theorem Blk.set_ (h : Blk w g t cs) (i : Nat) (u : Value) : Blk (w.setCell ⟨g, i, none⟩ u) g t (cs.setIfInBounds i u) := by
  unfold Blk at h ⊢
  simp [World.setCell, Array.getElem?_modify, h]
theorem Blk.far (h : Blk w g t cs) {p : Addr} (hp : g ≠ p.block) (u : Value) : Blk (w.setCell p u) g t cs := (Below.heap_setCell w p u g hp).trans h
theorem Blk.below {B : Nat} (h : Blk w g t cs) (hb : Below B w w') (hg : g < B) : Blk w' g t cs := (hb.block g hg).trans h
theorem Blk.grown {row : Option Nat} (h : Blk w g t cs) (hb : w.grownBy w' row) (hg : row ≠ some g) : Blk w' g t cs := (hb.block g h.lt (Ne.symm hg)).trans h
theorem own_blk_ne {base : Nat} {e : TypeId} {size n : Nat} {v : Value} {xs : List Value} (h : w.ownsRow base e size v n xs) (hg : Blk w g t cs) (hne : e ≠ t) : v.ownBlock ≠ some g := by
  rcases h.2 with ⟨rfl, _⟩ | ⟨g', cap, cur, rfl, _, hh, _⟩
  · simp [Value.ownBlock]
  · intro he
    have : g' = g := by simpa [Value.ownBlock] using he
    subst this
    unfold Blk at hg
    rw [hh] at hg
    injection hg with hg
    injection hg with _ ht
    exact hne ht
end

/-- Block g is a source of type t over integers that lie below block B; rest: those that are left. -/
def Src (w : World) (B : Nat) (t : TypeId) (g : Nat) (rest : List Int) : Prop :=
  ∃ (A : Option Addr) (c : Nat) (zs : List Int) (i : Nat) (w0 : World), Blk w g t #[.slice A zs.length c, .int .i64 i] ∧ Sl w0 1 (.slice A zs.length c) zs.length (ints zs) ∧ w0.heap.size = B ∧ Below B w0 w ∧ B ≤ g ∧ i ≤ zs.length ∧ rest = zs.drop i ∧ zs.length ≤ 9223372036854775807 ∧ (∀ x ∈ rest, -9223372036854775808 ≤ x ∧ x ≤ 9223372036854775807)

/-- Only block g, and what is new, has turned. -/
def Only (g : Nat) (w w' : World) : Prop := w.grownBy w' (some g)
/-- A raw choice. -/
def raw (l : List Int) : Int := l.headD 0
section
variable {w w' w'' : World} {B g : Nat} {t : TypeId} {rest : List Int}
theorem Only.refl (g : Nat) (w : World) : Only g w w := World.grownBy.refl _ _
theorem Only.trans (h : Only g w w') (k : Only g w' w'') : Only g w w'' := grown_trans' h k
theorem Only.of_below (h : Below w.heap.size w w') : Only g w w' := ⟨h.os, h.tape, h.output, h.size, fun i hi _ => h.block i hi⟩
theorem Only.drewN (h : Only g w w') (_n : Nat) : Only g w (w'.drewN _n) := ⟨h.os, h.tape, h.output, h.size, h.block⟩
theorem Only.alloc (h : Only g w w') (o : Obj) : Only g w (w'.alloc o) := h.trans (World.grownBy_alloc _ _ _)
theorem Only.set_ (h : Only g w w') (i : Nat) (u : Value) : Only g w (w'.setCell ⟨g, i, none⟩ u) :=
  ⟨h.os, h.tape, h.output, by simpa [World.setCell] using h.size, fun k hk hne => (Below.heap_setCell w' _ u k (by rintro rfl; exact hne rfl)).trans (h.block k hk hne)⟩
/-- A write to a block of the call's own, or to g. -/
theorem Only.grown {row : Option Nat} (h : Only g w w') (hg : w'.grownBy w'' row) (hr : ∀ k, row = some k → w.heap.size ≤ k ∨ k = g) : Only g w w'' :=
  ⟨hg.os.trans h.os, hg.tape.trans h.tape, hg.output.trans h.output, Nat.le_trans h.size hg.size, fun i hi hne => (hg.block i (Nat.lt_of_lt_of_le hi h.size) (fun e => by
    rcases hr i e.symm with hk | hk
    · omega
    · subst hk; exact hne rfl)).trans (h.block i hi hne)⟩
theorem Only.below (h : Only g w w') {b : Nat} (hb : b ≤ g) (hs : b ≤ w.heap.size) : Below b w w' := ⟨h.os, h.tape, h.output, h.size, fun i hi => h.block i (by omega) (by intro e; injection e; omega)⟩

theorem Src.lt (h : Src w B t g rest) : g < w.heap.size := by obtain ⟨A, c, zs, i, w0, hb, _⟩ := h; exact hb.lt
theorem Src.ge (h : Src w B t g rest) : B ≤ g := by obtain ⟨A, c, zs, i, w0, hb, _, _, _, hg, _⟩ := h; exact hg
theorem Src.drewN (h : Src w B t g rest) (n : Nat) : Src (w.drewN n) B t g rest := by
  obtain ⟨A, c, zs, i, w0, hb, hs, h0, hbel, r⟩ := h
  exact ⟨A, c, zs, i, w0, hb, hs, h0, below_drewN hbel n, r⟩
theorem Src.grown {row : Option Nat} (h : Src w B t g rest) (hg : w.grownBy w' row) (hne : row ≠ some g) (hr : ∀ k, row = some k → B ≤ k) : Src w' B t g rest := by
  obtain ⟨A, c, zs, i, w0, hb, hs, h0, hbel, hB, r⟩ := h
  exact ⟨A, c, zs, i, w0, hb.grown hg hne, hs, h0, hbel.grown hg (by have := hb.lt; omega) hr, hB, r⟩
theorem Src.below (h : Src w B t g rest) (hb : Below w.heap.size w w') : Src w' B t g rest :=
  h.grown (row := none) ⟨hb.os, hb.tape, hb.output, hb.size, fun i hi _ => hb.block i hi⟩ (by simp) (by simp)
theorem Src.alloc (h : Src w B t g rest) (o : Obj) : Src (w.alloc o) B t g rest := h.grown (World.grownBy_alloc w o none) (by simp) (by simp)
theorem Src.new {zs : List Int} {A : Option Addr} {c : Nat} (hs : Sl w 1 (.slice A zs.length c) zs.length (ints zs)) (hl : zs.length ≤ 9223372036854775807) (hr : ∀ x ∈ zs, -9223372036854775808 ≤ x ∧ x ≤ 9223372036854775807) : Src (w.alloc (.cells #[.slice A zs.length c, .int .i64 0] t)) w.heap.size t w.heap.size zs :=
  ⟨A, c, zs, 0, w, Blk.new _ _ _, hs, rfl, (Below.refl _ _).alloc (Nat.le_refl _) _, Nat.le_refl _, by omega, rfl, hl, hr⟩
theorem Src.stepped {A : Option Addr} {c : Nat} {zs : List Int} {i : Nat} {w0 : World} (hb : Blk w g t #[.slice A zs.length c, .int .i64 i]) (hs : Sl w0 1 (.slice A zs.length c) zs.length (ints zs)) (h0 : w0.heap.size = B) (hbel : Below B w0 w) (hg : B ≤ g) (hi : i < zs.length) (hl : zs.length ≤ 9223372036854775807) (hr : ∀ x ∈ zs.drop i, -9223372036854775808 ≤ x ∧ x ≤ 9223372036854775807) :
    Src (w.setCell ⟨g, 1, none⟩ (.int .i64 ((i : Int) + 1))) B t g (zs.drop i).tail := by
  refine ⟨A, c, zs, i + 1, w0, ?_, hs, h0, hbel.setCell hg _, hg, by omega, by simp, hl, fun x hx => hr x (List.mem_of_mem_tail hx)⟩
  have := hb.set_ 1 (.int .i64 ((i + 1 : Nat) : Int))
  simpa using this
end

theorem Src.raw_bd {w : World} {B g : Nat} {t : TypeId} {rest : List Int} (h : Src w B t g rest) : -9223372036854775808 ≤ raw rest ∧ raw rest ≤ 9223372036854775807 := by
  obtain ⟨A, c, zs, i, w0, _, _, _, _, _, _, _, _, hr⟩ := h
  cases rest with
  | nil => simp [raw]
  | cons x r => exact hr x (by simp)
theorem Src.own_ne {w : World} {B g : Nat} {t : TypeId} {rest : List Int} {base : Nat} {e : TypeId} {size n : Nat} {v : Value} {xs : List Value} (h : Src w B t g rest) (ho : w.ownsRow base e size v n xs) (hne : e ≠ t) : v.ownBlock ≠ some g := by
  obtain ⟨A, c, zs, i, w0, hb, _⟩ := h
  exact own_blk_ne ho hb hne
/-- What is owned stays owned while a source is used. -/
theorem own_only {w w' : World} {B g : Nat} {t : TypeId} {rest : List Int} {base : Nat} {e : TypeId} {size n : Nat} {v : Value} {xs : List Value} (ho : w.ownsRow base e size v n xs) (h : Src w B t g rest) (hne : e ≠ t) (hg : Only g w w') : w'.ownsRow base e size v n xs :=
  own_grown ho hg (fun k hk e' => h.own_ne ho hne (by rw [hk, ← e']))
theorem below_only {B g : Nat} {a w w' : World} (h : Below B a w) (hg : Only g w w') (hB : B ≤ g) (hs : B ≤ w.heap.size) : Below B a w' := h.grown hg hs (fun k hk => by injection hk; omega)

theorem grownBy_set (w : World) (p : Addr) (u : Value) : w.grownBy (w.setCell p u) (some p.block) :=
  ⟨rfl, rfl, rfl, by simp [World.setCell], fun k _ hne => Below.heap_setCell w p u k (by rintro rfl; exact hne rfl)⟩
/-- A write to a block that the call itself has made. -/
theorem Only.setNew {g : Nat} {w w' : World} (h : Only g w w') {p : Addr} (hp : w.heap.size ≤ p.block) (u : Value) : Only g w (w'.setCell p u) :=
  h.grown (grownBy_set w' p u) (fun k hk => by injection hk with hk; exact .inl (by omega))
theorem Src.set_ {w : World} {B g : Nat} {t : TypeId} {rest : List Int} (h : Src w B t g rest) {p : Addr} (hp : p.block ≠ g) (hB : B ≤ p.block) (u : Value) : Src (w.setCell p u) B t g rest :=
  h.grown (grownBy_set w p u) (by intro e; injection e with e; exact hp e) (fun k hk => by injection hk with hk; omega)

/-- The next choice out of a source. -/
def nxt (m : Int) : List Int → Int
  | [] => 0
  | x :: _ => (x % 18446744073709551616) % m
theorem nxt_lo (m : Int) (l : List Int) (h : 0 < m) : 0 ≤ nxt m l := by
  cases l with
  | nil => simp [nxt]
  | cons x r => exact Int.emod_nonneg _ (by omega)
theorem nxt_hi (m : Int) (l : List Int) (h : 0 < m) : nxt m l < m := by
  cases l with
  | nil => simpa [nxt] using h
  | cons x r => exact Int.emod_lt_of_pos _ h
end Go.Proofs.YtjnamjkdjcndiaaDoor
namespace Go.Proofs.YtjnamjkdjcndiaaDoor
open Go.RowKit
def Got (p : Bool) (u v : Value) : Prop := p = true → u = v
def GotRow (p : Bool) (N : Nat) (u : Value) (n : Nat) (T : TypeId) (cs : Array Value) (w : World) : Prop := p = true → ∃ A, u = .slice (some ⟨A, 0, none⟩) n n ∧ N ≤ A ∧ Blk w A T cs
def GotPtr (p : Bool) (N : Nat) (u : Value) (k : Nat) (T : TypeId) (cs : Array Value) (w : World) : Prop := p = true → ∃ A, u = .pointer (some ⟨A, k, none⟩) ∧ N ≤ A ∧ Blk w A T cs
theorem GotRow.below {p : Bool} {N : Nat} {u : Value} {n : Nat} {T : TypeId} {cs : Array Value} {w w' : World} (h : GotRow p N u n T cs w) (hb : Below w.heap.size w w') : GotRow p N u n T cs w' := fun hp => by
  obtain ⟨A, e, hN, hB⟩ := h hp
  exact ⟨A, e, hN, hB.below hb hB.lt⟩
theorem GotPtr.below {p : Bool} {N : Nat} {u : Value} {k : Nat} {T : TypeId} {cs : Array Value} {w w' : World} (h : GotPtr p N u k T cs w) (hb : Below w.heap.size w w') : GotPtr p N u k T cs w' := fun hp => by
  obtain ⟨A, e, hN, hB⟩ := h hp
  exact ⟨A, e, hN, hB.below hb hB.lt⟩
theorem below_new (w : World) (o : Obj) : Below w.heap.size w (w.alloc o) := (Below.refl _ _).alloc (Nat.le_refl _) _
/-- The operation 'append(out, xs...)' alone: what it leaves. -/
theorem wp_app {P : Program} {w : World} {o : Oper} {a : Act} {K : Act → World → Prop} {Q : Exit → Act → World → Prop} (s x : Operand) {t e : TypeId} {z : Value} {size bytes base : Nat} {v u : Value} {n m : Nat} {xs news : List Value}
    (hown : w.ownsRow base e size v n xs) (hr : Sl w size u m news) (hbase : base ≤ w.heap.size)
    (ht : P.underlying t = some (.slice e)) (hinfo : (P.info? e).map (fun i => (i.zero, i.size, i.bytes)) = some (some z, size, bytes)) (hzs : z.cells.size = size) (hsz : 0 < size)
    (h1 : ∀ y ∈ news, y.oneCell' = true) (hbytes : (n + m) * bytes ≤ 140737488355328) (hnm : n + m < 140737488355328)
    (ho : o.op = .call { callee := .builtin .append, args := #[s, x], argTypes := #[t, t] }) (hs : a.eval s = v) (hx : a.eval x = u)
    (h : ∀ v' w', w'.ownsRow base e size v' (n + m) (xs ++ news) → w.grownBy w' v.ownBlock → (v'.ownBlock = v.ownBlock ∨ v'.ownBlock = some w.heap.size) → K (a.put o.dst v') w') :
    Oper.wp P o a w K Q := by
  obtain ⟨v', w', hrun, h2, h3, h4⟩ := run_append_sl (P := P) (ty := o.type) ht hinfo hzs hsz hown hr h1 (by unfold maxLen; omega) hbytes hbase
  unfold Oper.wp execOp
  simp only [ho, resolve, invoke, builtin, Sem.run_bind, Sem.run_pure, Result.andThen_ok, List.map_toArray, List.map_cons, List.map_nil, hs, hx, hrun]
  exact h v' w' h2 h3 h4
end Go.Proofs.YtjnamjkdjcndiaaDoor
namespace Go.Proofs.YtjnamjkdjcndiaaDoor
open Go.RowKit
theorem infoBuilder : (Tryd.prog.info? 57).map (·.size) = some 2 := by kernel_rfl
theorem liesBuilder : liesAt Tryd.prog Tryd.prog.depth 57 (2 / Tryd.prog.cellsOf 57) 0 57 1 = true := by kernel_rfl
set_option maxHeartbeats 1000000 in
set_option maxRecDepth 100000 in
theorem copyCheck_used (b : Nat) (w : World) (h0 : w.cell? ⟨b, 0, none⟩ = some (.pointer (some ⟨b, 0, none⟩))) :
    Calls Tryd.prog 43 #[.pointer (some ⟨b, 0, none⟩)] w fun e w' => e = .returned (.tuple #[]) ∧ w' = w := by
  obtain ⟨j, hj, _⟩ := Option.map_eq_some_iff.1 infoBuilder
  go_enter Tryd.func43, Tryd.ntmps43
  go_wp2
  rw [Lib.run_neq_ptr_same w _ Tryd.underlying54 hj]
  go_wp2
  go_end0
  exact ⟨rfl, rfl⟩
set_option maxHeartbeats 1000000 in
set_option maxRecDepth 100000 in
theorem copyCheck_fresh (b : Nat) (w : World) (h0 : w.cell? ⟨b, 0, none⟩ = some (.pointer none)) (hsh : w.shape? b = some (57, 2)) (hfz : w.frozen? ⟨b, 0, none⟩ = false) :
    Calls Tryd.prog 43 #[.pointer (some ⟨b, 0, none⟩)] w fun e w' => e = .returned (.tuple #[]) ∧ w' = w.setCell ⟨b, 0, none⟩ (.pointer (some ⟨b, 0, none⟩)) := by
  obtain ⟨j, hj, hjs⟩ := Option.map_eq_some_iff.1 infoBuilder
  go_enter Tryd.func43, Tryd.ntmps43
  go_wp2
  rw [Lib.run_to_unsafe w ⟨b, 0, none⟩ Tryd.underlying54 Tryd.underlying92 hj (by rw [hjs]; decide) hsh (Nat.zero_lt_succ 1)]
  simp only [Result.andThen]
  rw [Oper.upon_value]
  go_wp2
  rw [run_callFunc_extern Tryd.func60 (by kernel_rfl) (by kernel_rfl) (by kernel_rfl) (e := Extern.AbiNoEscape.same) (by kernel_rfl)]
  rw [Lib.run_noEscape]
  simp only [Result.andThen]
  rw [Oper.upon_value]
  go_wp2
  rw [Lib.run_from_unsafe w ⟨b, 0, none⟩ Tryd.underlying92 Tryd.underlying54 hj hsh liesBuilder]
  simp only [Result.andThen]
  rw [Oper.upon_value]
  go_wp2
  go_end0
  exact ⟨rfl, rfl⟩
/-- Blocks of other types than the buffer's, but the builder's own, are as they were. -/
def KeepsB (b : Nat) (w w' : World) : Prop := ∀ (g : Nat) (T : TypeId) (cs : Array Value), g ≠ b → T ≠ 5 → Blk w g T cs → Blk w' g T cs
theorem KeepsB.refl (b : Nat) (w : World) : KeepsB b w w := fun _ _ _ _ _ h => h
theorem KeepsB.trans {b : Nat} {w w' w'' : World} (h : KeepsB b w w') (k : KeepsB b w' w'') : KeepsB b w w'' := fun g T cs hg hT hB => k g T cs hg hT (h g T cs hg hT hB)
theorem KeepsB.set_ {b : Nat} {w : World} (i : Nat) (u : Value) : KeepsB b w (w.setCell ⟨b, i, none⟩ u) := fun _ _ _ hg _ hB => hB.far (by exact hg) u
abbrev IsB (B b : Nat) (bs : List Value) (w : World) : Prop := Lib.IsBuilder 57 5 B b bs w
theorem copyCheck_any (B b : Nat) (bs : List Value) (w : World) (h : IsB B b bs w) :
    Calls Tryd.prog 43 #[.pointer (some ⟨b, 0, none⟩)] w fun e w' => e = .returned (.tuple #[]) ∧ (Lib.BuilderAt 57 5 B b (.pointer (some ⟨b, 0, none⟩)) bs w' ∧ Below B w w' ∧ KeepsB b w w') := by
  rcases h with h | h
  · refine (copyCheck_fresh b w h.cell0 h.shape h.frozen0).mono ?_
    rintro e w' ⟨rfl, rfl⟩
    exact ⟨rfl, h.used _, (Below.refl B w).setCell (p := ⟨b, 0, none⟩) h.1 _, KeepsB.set_ 0 _⟩
  · refine (copyCheck_used b w h.cell0).mono ?_
    rintro e w' ⟨rfl, rfl⟩
    exact ⟨rfl, h, Below.refl B _, KeepsB.refl _ _⟩
def RetWS (B b : Nat) (bs : List Value) (s : ByteArray) (w : World) (e : Ending) (w' : World) : Prop := e = .returned (.tuple #[.int .i64 s.size, .nilIface]) ∧ IsB B b (bs ++ Lib.strCells s) w' ∧ Below B w w' ∧ KeepsB b w w'
set_option maxHeartbeats 2000000 in
set_option maxRecDepth 100000 in
theorem writeString_any (B b : Nat) (bs : List Value) (s : ByteArray) (w : World) (h : IsB B b bs w) (hlen : bs.length + s.size ≤ 140737488355328) (hBw : B ≤ w.heap.size) :
    Calls Tryd.prog 31 #[.pointer (some ⟨b, 0, none⟩), .string s] w (RetWS B b bs s w) := by
  obtain ⟨i0, hi, hz0, hz1, hz2⟩ := info_parts info_u8
  go_enter Tryd.func31, Tryd.ntmps31
  go_wp2_with fail
  refine (copyCheck_any B b bs _ h).mono ?_
  rintro e w1 ⟨rfl, h1, hb1, hk1⟩
  have HK1 := Lib.hid hk1
  clear hk1
  obtain ⟨hB, v, hbk, hown, hne⟩ := h1
  have c0 : w1.cell? ⟨b, 0, none⟩ = some (.pointer (some ⟨b, 0, none⟩)) := by rw [Lib.cell_of_heap hbk]; rfl
  have c1 : w1.cell? ⟨b, 1, none⟩ = some v := by rw [Lib.cell_of_heap hbk]; rfl
  go_wp2_with (at_builtin; refine Lib.wpList_append_own_string _ rfl _ _ 55 9 rfl B 5 i0 Tryd.underlying55 Tryd.underlying9 hi hz0 hz1 hz2 _ _ _ rfl hown s rfl ?c3 ?c4 ?c5 ?_)
  case c3 => unfold maxLen; omega
  case c4 => omega
  case c5 => have := hb1.size; omega
  intro v' w2 hown' hgrow _
  have hlt : b < w1.heap.size := by
    rcases Nat.lt_or_ge b w1.heap.size with h' | h'
    · exact h'
    · simp [Array.getElem?_eq_none h'] at hbk
  have hb2 : w2.heap[b]? = some (.cells #[.pointer (some ⟨b, 0, none⟩), v] 57 (0, 0)) := by
    rw [hgrow.block b hlt (fun e => hne e.symm)]
    exact hbk
  have d0 : w2.cell? ⟨b, 0, none⟩ = some (.pointer (some ⟨b, 0, none⟩)) := by rw [Lib.cell_of_heap hb2]; rfl
  have d1 : w2.cell? ⟨b, 1, none⟩ = some v := by rw [Lib.cell_of_heap hb2]; rfl
  have f1 : w2.frozen? ⟨b, 1, none⟩ = false := Lib.frozen_of_heap hb2 1
  obtain ⟨ao, n', cap, rfl⟩ : ∃ ao n' cap, v' = .slice ao n' cap := by
    rcases hown'.2 with ⟨hv, _⟩ | ⟨g, cap, cur, hv, _⟩
    · exact ⟨_, _, _, hv⟩
    · exact ⟨_, _, _, hv⟩
  go_wp2
  go_ret2
  refine ⟨rfl, .inr ?_, ?_, ?_⟩
  · exact Lib.BuilderAt.put (T := 57) (e := 5) hB hb2 (bs' := bs ++ Lib.strCells s) (by simpa [Lib.strCells_length] using hown') (by decide)
  · exact (hb1.grown hgrow (by have := hb1.size; omega) (fun k hk => (hown.lt k hk).1)).setCell (p := ⟨b, 1, none⟩) hB _
  · refine HK1.out.trans (KeepsB.trans (fun g T cs hg hT hB => ?_) (KeepsB.set_ 1 _))
    exact hB.grown hgrow (own_blk_ne hown hB (Ne.symm hT))
end Go.Proofs.YtjnamjkdjcndiaaDoor
namespace Go.Proofs.YtjnamjkdjcndiaaDoor
open Go.RowKit
theorem blk8 {w : World} {A : Nat} {T : TypeId} {x0 x1 x2 x3 x4 x5 x6 x7 : Value} (a0 a1 a2 a3 a4 a5 a6 a7 : Value) (h : Blk w A T #[x0, x1, x2, x3, x4, x5, x6, x7]) :
    Blk ((((((((w.setCell ⟨A, 0, none⟩ a0).setCell ⟨A, 1, none⟩ a1).setCell ⟨A, 2, none⟩ a2).setCell ⟨A, 3, none⟩ a3).setCell ⟨A, 4, none⟩ a4).setCell ⟨A, 5, none⟩ a5).setCell ⟨A, 6, none⟩ a6).setCell ⟨A, 7, none⟩ a7) A T #[a0, a1, a2, a3, a4, a5, a6, a7] := by
  have h0 := h.set_ 0 a0
  simp only [List.setIfInBounds_toArray, List.set_cons_zero] at h0
  have h1 := h0.set_ 1 a1
  simp only [List.setIfInBounds_toArray, List.set_cons_zero, List.set_cons_succ] at h1
  have h2 := h1.set_ 2 a2
  simp only [List.setIfInBounds_toArray, List.set_cons_zero, List.set_cons_succ] at h2
  have h3 := h2.set_ 3 a3
  simp only [List.setIfInBounds_toArray, List.set_cons_zero, List.set_cons_succ] at h3
  have h4 := h3.set_ 4 a4
  simp only [List.setIfInBounds_toArray, List.set_cons_zero, List.set_cons_succ] at h4
  have h5 := h4.set_ 5 a5
  simp only [List.setIfInBounds_toArray, List.set_cons_zero, List.set_cons_succ] at h5
  have h6 := h5.set_ 6 a6
  simp only [List.setIfInBounds_toArray, List.set_cons_zero, List.set_cons_succ] at h6
  have h7 := h6.set_ 7 a7
  simp only [List.setIfInBounds_toArray, List.set_cons_zero, List.set_cons_succ] at h7
  exact h7
theorem grown8 (w : World) (A : Nat) (a0 a1 a2 a3 a4 a5 a6 a7 : Value) : w.grownBy ((((((((w.setCell ⟨A, 0, none⟩ a0).setCell ⟨A, 1, none⟩ a1).setCell ⟨A, 2, none⟩ a2).setCell ⟨A, 3, none⟩ a3).setCell ⟨A, 4, none⟩ a4).setCell ⟨A, 5, none⟩ a5).setCell ⟨A, 6, none⟩ a6).setCell ⟨A, 7, none⟩ a7) (some A) := grown_trans' (grown_trans' (grown_trans' (grown_trans' (grown_trans' (grown_trans' (grown_trans' (grownBy_set w ⟨A, 0, none⟩ a0) (grownBy_set _ ⟨A, 1, none⟩ a1)) (grownBy_set _ ⟨A, 2, none⟩ a2)) (grownBy_set _ ⟨A, 3, none⟩ a3)) (grownBy_set _ ⟨A, 4, none⟩ a4)) (grownBy_set _ ⟨A, 5, none⟩ a5)) (grownBy_set _ ⟨A, 6, none⟩ a6)) (grownBy_set _ ⟨A, 7, none⟩ a7)
theorem blk12 {w : World} {A : Nat} {T : TypeId} {x0 x1 x2 x3 x4 x5 x6 x7 x8 x9 x10 x11 : Value} (a0 a1 a2 a3 a4 a5 a6 a7 a8 a9 a10 a11 : Value) (h : Blk w A T #[x0, x1, x2, x3, x4, x5, x6, x7, x8, x9, x10, x11]) :
    Blk ((((((((((((w.setCell ⟨A, 0, none⟩ a0).setCell ⟨A, 1, none⟩ a1).setCell ⟨A, 2, none⟩ a2).setCell ⟨A, 3, none⟩ a3).setCell ⟨A, 4, none⟩ a4).setCell ⟨A, 5, none⟩ a5).setCell ⟨A, 6, none⟩ a6).setCell ⟨A, 7, none⟩ a7).setCell ⟨A, 8, none⟩ a8).setCell ⟨A, 9, none⟩ a9).setCell ⟨A, 10, none⟩ a10).setCell ⟨A, 11, none⟩ a11) A T #[a0, a1, a2, a3, a4, a5, a6, a7, a8, a9, a10, a11] := by
  have h0 := h.set_ 0 a0
  simp only [List.setIfInBounds_toArray, List.set_cons_zero] at h0
  have h1 := h0.set_ 1 a1
  simp only [List.setIfInBounds_toArray, List.set_cons_zero, List.set_cons_succ] at h1
  have h2 := h1.set_ 2 a2
  simp only [List.setIfInBounds_toArray, List.set_cons_zero, List.set_cons_succ] at h2
  have h3 := h2.set_ 3 a3
  simp only [List.setIfInBounds_toArray, List.set_cons_zero, List.set_cons_succ] at h3
  have h4 := h3.set_ 4 a4
  simp only [List.setIfInBounds_toArray, List.set_cons_zero, List.set_cons_succ] at h4
  have h5 := h4.set_ 5 a5
  simp only [List.setIfInBounds_toArray, List.set_cons_zero, List.set_cons_succ] at h5
  have h6 := h5.set_ 6 a6
  simp only [List.setIfInBounds_toArray, List.set_cons_zero, List.set_cons_succ] at h6
  have h7 := h6.set_ 7 a7
  simp only [List.setIfInBounds_toArray, List.set_cons_zero, List.set_cons_succ] at h7
  have h8 := h7.set_ 8 a8
  simp only [List.setIfInBounds_toArray, List.set_cons_zero, List.set_cons_succ] at h8
  have h9 := h8.set_ 9 a9
  simp only [List.setIfInBounds_toArray, List.set_cons_zero, List.set_cons_succ] at h9
  have h10 := h9.set_ 10 a10
  simp only [List.setIfInBounds_toArray, List.set_cons_zero, List.set_cons_succ] at h10
  have h11 := h10.set_ 11 a11
  simp only [List.setIfInBounds_toArray, List.set_cons_zero, List.set_cons_succ] at h11
  exact h11
theorem grown12 (w : World) (A : Nat) (a0 a1 a2 a3 a4 a5 a6 a7 a8 a9 a10 a11 : Value) : w.grownBy ((((((((((((w.setCell ⟨A, 0, none⟩ a0).setCell ⟨A, 1, none⟩ a1).setCell ⟨A, 2, none⟩ a2).setCell ⟨A, 3, none⟩ a3).setCell ⟨A, 4, none⟩ a4).setCell ⟨A, 5, none⟩ a5).setCell ⟨A, 6, none⟩ a6).setCell ⟨A, 7, none⟩ a7).setCell ⟨A, 8, none⟩ a8).setCell ⟨A, 9, none⟩ a9).setCell ⟨A, 10, none⟩ a10).setCell ⟨A, 11, none⟩ a11) (some A) := grown_trans' (grown_trans' (grown_trans' (grown_trans' (grown_trans' (grown_trans' (grown_trans' (grown_trans' (grown_trans' (grown_trans' (grown_trans' (grownBy_set w ⟨A, 0, none⟩ a0) (grownBy_set _ ⟨A, 1, none⟩ a1)) (grownBy_set _ ⟨A, 2, none⟩ a2)) (grownBy_set _ ⟨A, 3, none⟩ a3)) (grownBy_set _ ⟨A, 4, none⟩ a4)) (grownBy_set _ ⟨A, 5, none⟩ a5)) (grownBy_set _ ⟨A, 6, none⟩ a6)) (grownBy_set _ ⟨A, 7, none⟩ a7)) (grownBy_set _ ⟨A, 8, none⟩ a8)) (grownBy_set _ ⟨A, 9, none⟩ a9)) (grownBy_set _ ⟨A, 10, none⟩ a10)) (grownBy_set _ ⟨A, 11, none⟩ a11)
theorem Only.row {g A : Nat} {w w' w'' : World} (h : Only g w w') (k : w'.grownBy w'' (some A)) (hA : w.heap.size ≤ A) : Only g w w'' := h.grown k (fun j hj => by injection hj; exact .inl (by omega))
theorem Blk.row {g A : Nat} {w w' : World} {t : TypeId} {cs : Array Value} (h : Blk w g t cs) (k : w.grownBy w' (some A)) (hA : g ≠ A) : Blk w' g t cs := h.grown k (by intro e; injection e with e; exact hA e.symm)
theorem Src.row {w w' : World} {B g A : Nat} {t : TypeId} {rest : List Int} (h : Src w B t g rest) (k : w.grownBy w' (some A)) (hg : g ≠ A) (hB : B ≤ A) : Src w' B t g rest := h.grown k (by intro e; injection e with e; exact hg e.symm) (fun j hj => by injection hj; omega)
theorem own_row {w w' : World} {A base : Nat} {e : TypeId} {size n : Nat} {v : Value} {xs : List Value} (h : w.ownsRow base e size v n xs) (k : w.grownBy w' (some A)) (hA : ∀ b, v.ownBlock = some b → b ≠ A) : w'.ownsRow base e size v n xs :=
  own_grown h k (fun b hb e' => by injection e' with e'; exact hA b hb e'.symm)
theorem below_row {w w' w'' : World} {B A : Nat} (h : Below B w w') (k : w'.grownBy w'' (some A)) (hA : B ≤ A) (hB : B ≤ w'.heap.size) : Below B w w'' := h.grown k hB (fun j hj => by injection hj; omega)
end Go.Proofs.YtjnamjkdjcndiaaDoor
namespace Go.Proofs.YtjnamjkdjcndiaaDoor
open Go.RowKit
def RetSrc (w : World) (zs : List Int) (e : Ending) (w' : World) : Prop :=
  ∃ g, e = .returned (.pointer (some ⟨g, 0, none⟩)) ∧ Below w.heap.size w w' ∧ Src w' w.heap.size 60 g zs
set_option maxHeartbeats 400000 in
theorem from_any (v : Value) (zs : List Int) (w : World) (hs : Sl w 1 v zs.length (ints zs)) (hl : zs.length ≤ 9223372036854775807) (hr : ∀ x ∈ zs, -9223372036854775808 ≤ x ∧ x ≤ 9223372036854775807) :
    Calls Tryd.prog 12 #[v] w (RetSrc w zs) := by
  obtain ⟨A, c, rfl, _, _⟩ := hs.form
  have HR := Lib.hid hr
  clear hr
  go_enter Tryd.func12, Tryd.ntmps12
  go_wp2
  go_ret
  exact ⟨_, rfl, (Below.refl _ _).alloc (Nat.le_refl _) _, Src.new hs hl HR.out⟩
/-- A step of a source: the answer x, and what is left. -/
def RetNext (w : World) (B g : Nat) (x : Int) (rest : List Int) (e : Ending) (w' : World) : Prop := e = .returned (.int .i64 x) ∧ Only g w w' ∧ Src w' B 60 g rest
set_option maxHeartbeats 400000 in
theorem next_any (B g : Nat) (m : Int) (rest : List Int) (w : World) (hsrc : Src w B 60 g rest) (h0 : 0 < m) (h1 : m ≤ 4294967296) :
    Calls Tryd.prog 13 #[.pointer (some ⟨g, 0, none⟩), .int .i64 m] w (RetNext w B g (nxt m rest) rest.tail) := by
  obtain ⟨A, c, zs, i, w0, hb, hs, hB, hbel, hg, hi, rfl, hl, hr⟩ := hsrc
  have HR := Lib.hid hr
  clear hr
  obtain ⟨_, _, e, hc1, hc2⟩ := hs.form
  injection e with e1 e2 e3
  subst e1; subst e3
  clear e2
  have c0 : w.cell? ⟨g, 0, none⟩ = some (.slice A zs.length c) := hb.cell 0
  have c1 : w.cell? ⟨g, 1, none⟩ = some (.int .i64 i) := hb.cell 1
  have f1 : w.frozen? ⟨g, 1, none⟩ = false := hb.frozen 1
  have HB := Lib.hid hB
  clear hB
  by_cases hlt : i < zs.length
  · obtain ⟨ad, x, rfl, hx, hc⟩ := hs.int_at hlt
    obtain ⟨ad', _, e, hbl, _⟩ := hs.at_ hlt
    injection e with e
    subst e
    have hc' : w.cell? (ad.add i) = some (.int .i64 x) := (hbel.cell (p := ad.add i) (by rw [block_of_add, ← HB.out]; exact hbl)).trans hc
    have hd : zs.drop i = x :: zs.drop (i + 1) := by
      rw [List.drop_eq_getElem_cons hlt]; congr 1
      rw [List.getElem?_eq_getElem hlt] at hx; injection hx
    have HX := Lib.hid (show nxt m (zs.drop i) = pick x m by rw [hd]; rfl)
    have hne : ad.block ≠ g := by have := HB.out; omega
    have hgeq : decide ((zs.length : Int) ≤ (i : Int)) = false := by simp; omega
    clear hc hx hd
    go_enter Tryd.func13, Tryd.ntmps13
    go_wp2_with fail
    go_quiet (fail)
    go_wp2_with fail
    obtain ⟨X, hX⟩ : ∃ X : World, X = (w.drewN nq).setCell ⟨g, 1, none⟩ (.int .i64 ((i : Int) + 1)) := ⟨_, rfl⟩
    rw [← hX]
    have x0 : X.cell? ⟨g, 0, none⟩ = some (.slice (some ad) zs.length c) := by rw [hX, World.cell?_setCell_other _ _ _ _ (by simp)]; exact c0
    have x1 : X.cell? ⟨g, 1, none⟩ = some (.int .i64 ((i : Int) + 1)) := by
      rw [hX]; exact ((hb.drewN nq).set_ 1 (.int .i64 ((i : Int) + 1))).cell 1
    have x2 : X.cell? (ad.add i) = some (.int .i64 x) := by rw [hX, World.cell?_setCell_other _ _ _ _ (by intro e; first | exact hne ((block_of_add ad i).symm.trans (congrArg Addr.block e)) | exact hne ((block_of_add ad i).symm.trans (congrArg Addr.block e).symm))]; exact hc'
    have HS := Lib.hid (show Src X B 60 g (zs.drop i).tail by rw [hX]; exact Src.stepped (hb.drewN nq) hs HB.out (below_drewN hbel nq) hg hlt hl HR.out)
    have HO := Lib.hid (show Only g w X by rw [hX]; exact ((Only.refl g w).drewN nq).set_ _ _)
    have hk : (0 : Int) ≤ (i : Int) + 1 - 1 := by omega
    clear hX c0 c1 f1 hc' hb hbel hs
    go_quiet ((go_at_call 9; exact Calls.quiet_of_same ((pick_any _ _ _ h0 h1).mono fun _ _ h => ⟨h.1, h.2.symm⟩)))
    go_wp2
    go_ret
    exact ⟨ret_int HX.out.symm, HO.out.drewN _, HS.out.drewN _⟩
  · have hd : zs.drop i = [] := List.drop_eq_nil_of_le (by omega)
    have HS := Lib.hid (show Src w B 60 g (zs.drop i) from ⟨A, c, zs, i, w0, hb, hs, HB.out, hbel, hg, hi, rfl, hl, HR.out⟩)
    have HD := Lib.hid hd
    clear hd hb hs hbel
    go_enter Tryd.func13, Tryd.ntmps13
    go_wp2_with fail
    go_quiet (fail)
    go_wp2
    go_ret
    refine ⟨ret_int (by rw [HD.out]; rfl), (Only.refl g w).drewN _, ?_⟩
    rw [HD.out]
    have := HS.out.drewN nq
    rw [HD.out] at this
    exact this
set_option maxHeartbeats 400000 in
theorem raw_any (B g : Nat) (rest : List Int) (w : World) (hsrc : Src w B 60 g rest) :
    Calls Tryd.prog 37 #[.pointer (some ⟨g, 0, none⟩)] w (RetNext w B g (raw rest) rest.tail) := by
  obtain ⟨A, c, zs, i, w0, hb, hs, hB, hbel, hg, hi, rfl, hl, hr⟩ := hsrc
  have HR := Lib.hid hr
  clear hr
  obtain ⟨_, _, e, hc1, hc2⟩ := hs.form
  injection e with e1 e2 e3
  subst e1; subst e3
  clear e2
  have c0 : w.cell? ⟨g, 0, none⟩ = some (.slice A zs.length c) := hb.cell 0
  have c1 : w.cell? ⟨g, 1, none⟩ = some (.int .i64 i) := hb.cell 1
  have f1 : w.frozen? ⟨g, 1, none⟩ = false := hb.frozen 1
  have HB := Lib.hid hB
  clear hB
  by_cases hlt : i < zs.length
  · obtain ⟨ad, x, rfl, hx, hc⟩ := hs.int_at hlt
    obtain ⟨ad', _, e, hbl, _⟩ := hs.at_ hlt
    injection e with e
    subst e
    have hc' : w.cell? (ad.add i) = some (.int .i64 x) := (hbel.cell (p := ad.add i) (by rw [block_of_add, ← HB.out]; exact hbl)).trans hc
    have hd : zs.drop i = x :: zs.drop (i + 1) := by
      rw [List.drop_eq_getElem_cons hlt]; congr 1
      rw [List.getElem?_eq_getElem hlt] at hx; injection hx
    have HX := Lib.hid (show raw (zs.drop i) = x by rw [hd]; rfl)
    have hne : ad.block ≠ g := by have := HB.out; omega
    have hgeq : decide ((zs.length : Int) ≤ (i : Int)) = false := by simp; omega
    clear hc hx hd
    go_enter Tryd.func37, Tryd.ntmps37
    go_wp2_with fail
    go_quiet (fail)
    go_wp2_with fail
    obtain ⟨X, hX⟩ : ∃ X : World, X = (w.drewN nq).setCell ⟨g, 1, none⟩ (.int .i64 ((i : Int) + 1)) := ⟨_, rfl⟩
    rw [← hX]
    have x0 : X.cell? ⟨g, 0, none⟩ = some (.slice (some ad) zs.length c) := by rw [hX, World.cell?_setCell_other _ _ _ _ (by simp)]; exact c0
    have x1 : X.cell? ⟨g, 1, none⟩ = some (.int .i64 ((i : Int) + 1)) := by
      rw [hX]; exact ((hb.drewN nq).set_ 1 (.int .i64 ((i : Int) + 1))).cell 1
    have x2 : X.cell? (ad.add i) = some (.int .i64 x) := by rw [hX, World.cell?_setCell_other _ _ _ _ (by intro e; first | exact hne ((block_of_add ad i).symm.trans (congrArg Addr.block e)) | exact hne ((block_of_add ad i).symm.trans (congrArg Addr.block e).symm))]; exact hc'
    have HS := Lib.hid (show Src X B 60 g (zs.drop i).tail by rw [hX]; exact Src.stepped (hb.drewN nq) hs HB.out (below_drewN hbel nq) hg hlt hl HR.out)
    have HO := Lib.hid (show Only g w X by rw [hX]; exact ((Only.refl g w).drewN nq).set_ _ _)
    have hk : (0 : Int) ≤ (i : Int) + 1 - 1 := by omega
    clear hX c0 c1 f1 hc' hb hbel hs
    go_quiet (fail)
    go_wp2
    go_ret
    exact ⟨ret_int HX.out.symm, HO.out.drewN _, HS.out.drewN _⟩
  · have hd : zs.drop i = [] := List.drop_eq_nil_of_le (by omega)
    have HS := Lib.hid (show Src w B 60 g (zs.drop i) from ⟨A, c, zs, i, w0, hb, hs, HB.out, hbel, hg, hi, rfl, hl, HR.out⟩)
    have HD := Lib.hid hd
    clear hd hb hs hbel
    go_enter Tryd.func37, Tryd.ntmps37
    go_wp2_with fail
    go_quiet (fail)
    go_wp2
    go_ret
    refine ⟨ret_int (by rw [HD.out]; rfl), (Only.refl g w).drewN _, ?_⟩
    rw [HD.out]
    have := HS.out.drewN nq
    rw [HD.out] at this
    exact this
end Go.Proofs.YtjnamjkdjcndiaaDoor
namespace Go.Proofs.YtjnamjkdjcndiaaDoor
open Go.RowKit
structure Col where
  nm : ByteArray
  ty : Int
  sc : Int
  nu : Bool
def Col.cells (c : Col) : List Value := [.string c.nm, .int .i64 c.ty, .int .i64 c.sc, .bool c.nu]
theorem Col.cells_length (c : Col) : c.cells.length = 4 := rfl
def cols (l : List Col) : List Value := l.flatMap Col.cells
theorem cols_length (l : List Col) : (cols l).length = l.length * 4 := by
  induction l with
  | nil => rfl
  | cons e r ih => simp only [cols, List.flatMap_cons, List.length_append, Col.cells_length, List.length_cons] at ih ⊢; omega
theorem cols_cons (e : Col) (l : List Col) : cols (e :: l) = e.cells ++ cols l := rfl
theorem cols_snoc (a : List Col) (e : Col) : cols (a ++ [e]) = cols a ++ e.cells := by simp [cols]
theorem cols_get {l : List Col} {k j : Nat} {e : Col} (h : l[k]? = some e) (hj : j < 4) : (cols l)[k * 4 + j]? = e.cells[j]? := by
  induction l generalizing k with
  | nil => simp at h
  | cons x r ih =>
    rw [cols_cons]
    cases k with
    | zero =>
      simp at h; subst h
      rw [List.getElem?_append_left (by rw [Col.cells_length]; omega)]; simp
    | succ k =>
      rw [List.getElem?_append_right (by rw [Col.cells_length]; omega), Col.cells_length, show (k + 1) * 4 + j - 4 = k * 4 + j by omega]
      exact ih (by simpa using h)
/-- The four cells of a column. -/
structure ColAt (w : World) (p : Addr) (c : Col) : Prop where
  lt : p.block < w.heap.size
  c0 : w.cell? p = some (.string c.nm)
  c1 : w.cell? ⟨p.block, p.off + 1, none⟩ = some (.int .i64 c.ty)
  c2 : w.cell? ⟨p.block, p.off + 2, none⟩ = some (.int .i64 c.sc)
  c3 : w.cell? ⟨p.block, p.off + 3, none⟩ = some (.bool c.nu)
theorem ColAt.below {w w' : World} {p : Addr} {c : Col} (h : ColAt w p c) (hb : Below w.heap.size w w') : ColAt w' p c :=
  ⟨Nat.lt_of_lt_of_le h.lt hb.size, (hb.cell h.lt).trans h.c0, (hb.cell (p := ⟨p.block, p.off + 1, none⟩) h.lt).trans h.c1, (hb.cell (p := ⟨p.block, p.off + 2, none⟩) h.lt).trans h.c2, (hb.cell (p := ⟨p.block, p.off + 3, none⟩) h.lt).trans h.c3⟩
theorem add_off4 (p : Addr) (k j : Nat) (hj : 0 < j) : p.add (k + j) = ⟨(p.add k).block, (p.add k).off + j, none⟩ := by
  rw [← add_of_add]
  generalize p.add k = q
  unfold Addr.add
  rw [if_neg (by omega)]
theorem Sl.col_load {w : World} {A : Option Addr} {c k : Nat} {l : List Col} {n : Nat} (h : Sl w 4 (.slice A n c) n (cols l)) (hn : n = l.length) (hk : k < n) : ∃ ad e p, A = some ad ∧ l[k]? = some e ∧ ad.add (k * 4) = p ∧ ColAt w p e := by
  subst hn
  obtain ⟨A', c', e, _, _, _, h4⟩ := h
  injection e with e1 e2 e3
  subst e1
  obtain ⟨ad, rfl, _, hc⟩ := h4 (by omega)
  have he : l[k]? = some l[k] := List.getElem?_eq_getElem hk
  refine ⟨ad, l[k], _, rfl, he, rfl, ?_⟩
  have hj : ∀ j u, l[k].cells[j]? = some u → j < 4 → w.cell? (ad.add (k * 4 + j)) = some u := fun j u h1 h2 => hc _ u (by rw [cols_get he h2]; exact h1)
  have h0 := hj 0 _ rfl (by omega)
  rw [Nat.add_zero] at h0
  exact ⟨World.block_lt_of_cell? w _ h0, h0, by rw [← add_off4 _ _ _ (by omega)]; exact hj 1 _ rfl (by omega), by rw [← add_off4 _ _ _ (by omega)]; exact hj 2 _ rfl (by omega), by rw [← add_off4 _ _ _ (by omega)]; exact hj 3 _ rfl (by omega)⟩
theorem ColAt.of_blk {w : World} {g : Nat} {T : TypeId} {c : Col} (h : Blk w g T c.cells.toArray) : ColAt w ⟨g, 0, none⟩ c :=
  ⟨h.lt, h.cell 0, h.cell 1, h.cell 2, h.cell 3⟩
/-- The first column with a name, or -1. -/
def findC (l : List Col) (x : ByteArray) : Int := match l.findIdx? (fun c => decide (c.nm = x)) with
  | some i => (i : Int)
  | none => -1
theorem findC_hit {l : List Col} {x : ByteArray} {k : Nat} {c : Col} (h : l[k]? = some c) (hc : c.nm = x) (hn : ∀ (j : Nat) (d : Col), l[j]? = some d → j < k → d.nm ≠ x) : findC l x = k := by
  unfold findC
  have : l.findIdx? (fun c => decide (c.nm = x)) = some k := by
    obtain ⟨hk, he⟩ := List.getElem?_eq_some_iff.1 h
    rw [List.findIdx?_eq_some_iff_getElem]
    refine ⟨hk, by rw [he]; simpa using hc, fun j hj => ?_⟩
    have := hn j _ (List.getElem?_eq_getElem (by omega)) hj
    simpa using this
  rw [this]
theorem findC_miss {l : List Col} {x : ByteArray} (hn : ∀ (j : Nat) (d : Col), l[j]? = some d → d.nm ≠ x) : findC l x = -1 := by
  unfold findC
  have : l.findIdx? (fun c => decide (c.nm = x)) = none := by
    rw [List.findIdx?_eq_none_iff]
    intro c hc
    obtain ⟨j, hj⟩ := List.mem_iff_getElem?.1 hc
    simpa using hn j c hj
  rw [this]
theorem colq_ne {s t : ByteArray} (h : s ≠ t) : (s.toList == t.toList) = false := (Lib.bytes_beq_false_iff s t).2 h
theorem colq_eq {s t : ByteArray} (h : s = t) : (s.toList == t.toList) = true := (Lib.bytes_beq_iff s t).2 h
def RetBB (w : World) (b : Bool) (e : Ending) (w' : World) : Prop := e = .returned (.bool b) ∧ Below w.heap.size w w'
theorem RetBB.mk_ {w w' : World} {b b' : Bool} (h : b = b') (hb : Below w.heap.size w w') : RetBB w b (.returned (.bool b')) w' := by subst h; exact ⟨rfl, hb⟩
set_option maxHeartbeats 1000000 in
theorem findLit_any (c : Col) (x : ByteArray) (q : Addr) (w : World) (hq : w.cell? q = some (.string x)) : Calls Tryd.prog 52 #[.agg #[.string c.nm, .int .i64 c.ty, .int .i64 c.sc, .bool c.nu], .pointer (some q)] w (RetBB w (decide (c.nm = x))) := by
  have hq2 := cell_alloc hq (.cells #[.string c.nm, .int .i64 c.ty, .int .i64 c.sc, .bool c.nu] 47)
  by_cases h : c.nm = x
  · have t1 := colq_eq h
    have HF := Lib.hid (show decide (c.nm = x) = true from decide_eq_true h)
    clear h hq
    go_enter Tryd.func52, Tryd.ntmps52
    go_wp2
    go_ret
    exact RetBB.mk_ HF.out ((Below.refl _ _).alloc (Nat.le_refl _) _)
  · have t1 := colq_ne h
    have HF := Lib.hid (show decide (c.nm = x) = false from decide_eq_false h)
    clear h hq
    go_enter Tryd.func52, Tryd.ntmps52
    go_wp2
    go_ret
    exact RetBB.mk_ HF.out ((Below.refl _ _).alloc (Nat.le_refl _) _)
theorem retBB_at {P : Program} {f : FuncId} {args : Array Value} {w : World} {b b' : Bool} (h : b = b') (hc : Calls P f args w (RetBB w b)) : Calls P f args w fun e w' => e = .returned (.bool b') ∧ Below w.heap.size w w' := by subst h; exact hc
set_option maxRecDepth 100000 in
set_option maxHeartbeats 1000000 in
theorem indexFunc_any (v : Value) (l : List Col) (x : ByteArray) (q : Addr) (w : World) (hs : Sl w 4 v l.length (cols l)) (hl : l.length ≤ 9223372036854775807) (hq : w.cell? q = some (.string x)) :
    Calls Tryd.prog 51 #[v, .func (.func 52) #[] #[.pointer (some q)]] w (RetN w (findC l x)) := by
  obtain ⟨A, c, rfl, hc1, hc2⟩ := hs.form
  have HQ := Lib.hid (World.block_lt_of_cell? w q hq)
  go_enter Tryd.func51, Tryd.ntmps51
  go_wp2
  go_loopw [8] (fun i wr => ∃ k : Nat, k ≤ l.length ∧ i = .int .i64 k ∧ Below w.heap.size w wr ∧ Hid (∀ (j : Nat) (d : Col), l[j]? = some d → j < k → d.nm ≠ x)) (fun i _ => l.length - (intOf i).toNat)
  case atStart => exact ⟨0, by omega, rfl, Below.refl _ _, Lib.hid fun j d _ hj => absurd hj (Nat.not_lt_zero _)⟩
  case round =>
    obtain ⟨k, hk, rfl, hbel, hno⟩ := hrel
    by_cases hlt : k < l.length
    · obtain ⟨ad, e, p, rfl, he, hp, hE⟩ := (hs.below hbel).col_load rfl hlt
      obtain ⟨hplt, c0, c1, c2, c3⟩ := hE
      have hqw := (hbel.cell HQ.out).trans hq
      have HE := Lib.hid he
      clear he
      by_cases hn : e.nm = x
      · have HC := Lib.hid (retBB_at (decide_eq_true hn) (findLit_any e x q wr hqw))
        have HF := Lib.hid (findC_hit HE.out hn hno.out)
        clear hn
        go_wp2_with fail
        refine HC.out.mono ?_
        rintro _ w2 ⟨rfl, hb2⟩
        go_wp2
        go_ret
        exact RetN.mk_ HF.out (hbel.trans (hb2.mono hbel.size))
      · have HC := Lib.hid (retBB_at (decide_eq_false hn) (findLit_any e x q wr hqw))
        have HN := Lib.hid (show ∀ (j : Nat) (d : Col), l[j]? = some d → j < k + 1 → d.nm ≠ x from fun j d hd hj => by
          by_cases ej : j = k
          · subst ej; rw [HE.out] at hd; injection hd with hd; rw [← hd]; exact hn
          · exact hno.out j d hd (by omega))
        clear hn
        go_wp2_with fail
        refine HC.out.mono ?_
        rintro _ w2 ⟨rfl, hb2⟩
        have HB := Lib.hid (hbel.trans (hb2.mono hbel.size))
        clear hb2 hbel
        go_wp2
        go_roundw
        case rel => exact ⟨k + 1, by omega, by go_num, HB.out, HN⟩
        case measure => simp [intOf]; omega
    · have HF := Lib.hid (findC_miss (l := l) (x := x) (fun j d hd => hno.out j d hd (by have := (List.getElem?_eq_some_iff.1 hd).1; omega)))
      go_wp2
      go_ret
      exact RetN.mk_ HF.out hbel
theorem retN_at {P : Program} {f : FuncId} {args : Array Value} {w : World} {x : Int} (hc : Calls P f args w (RetN w x)) : Calls P f args w fun e w' => e = .returned (.int .i64 x) ∧ Below w.heap.size w w' := hc
set_option maxRecDepth 100000 in
set_option maxHeartbeats 1000000 in
theorem find_any (v : Value) (l : List Col) (key : Int) (x : ByteArray) (w : World) (hs : Sl w 4 v l.length (cols l)) (hl : l.length ≤ 9223372036854775807) :
    Calls Tryd.prog 39 #[.agg #[v, .int .i64 key], .string x] w (RetN w (findC l x)) := by
  obtain ⟨A, c, rfl, hc1, hc2⟩ := hs.form
  obtain ⟨W, hW⟩ : ∃ W, W = (w.alloc (.cells #[.slice A l.length c, .int .i64 key] 24)).alloc (.cells #[.string x] 9) := ⟨_, rfl⟩
  have hb := Joins.below_alloc2 w (.cells #[.slice A l.length c, .int .i64 key] 24) (.cells #[.string x] 9)
  rw [← hW] at hb
  have hq : W.cell? ⟨w.heap.size + 1, 0, none⟩ = some (.string x) := by rw [hW]; simp
  have HC := Lib.hid (retN_at (indexFunc_any _ l x ⟨w.heap.size + 1, 0, none⟩ W (hs.below hb) hl hq))
  have HB := Lib.hid hb
  clear hq hb hs
  go_enter Tryd.func39, Tryd.ntmps39
  go_wp2_with fail
  rw [← hW]
  clear hW
  refine HC.out.mono ?_
  rintro _ w2 ⟨rfl, hb2⟩
  go_wp2
  go_ret
  exact RetN.mk_ rfl (bst HB.out hb2)
end Go.Proofs.YtjnamjkdjcndiaaDoor
