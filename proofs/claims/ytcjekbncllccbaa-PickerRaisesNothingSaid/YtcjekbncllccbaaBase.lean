/-
  Words, plain laws and contracts on which the walks lean, in one text.
-/
import Derived.RegionTactic
import Derived.WalkKit
import Derived.Lib.Hide
import Derived.Deep.Draws
import Derived.WalkSpells
import Derived.Maps.AppendAt
import Derived.Test.YtcjekbncllccbaaProg
import Derived.Deep.AppendLies
import Derived.OwnWalk
import Derived.WalkLawsBesides
import Derived.Test.YtcjekbncllccbaaRows
import Derived.ProofKit
import Derived.OpenShut
import Derived.ShutString
import Derived.ChangeOld
import Derived.JoinedCond
import Derived.Lib.SmallJoins
import Derived.Lib.Varint
import Derived.Lib.Zigzag
import Derived.Deep.RegionHeld3
import Derived.Lib.QuietBelow
import Derived.BigQuiet
import Derived.Deep.QuietTactic
namespace Go.Proofs.Ytcjekbncllccbaa
open Go
/-- A goal by another name: so that what is taken apart beside it costs little. -/
theorem via_eq {G : Prop} (h : ∀ X : Prop, X = G → X) : G := h G rfl
section
variable {P : Program} {ops : Array Oper} {Q : Exit → Act → World → Prop}
def upd (L : Nat → Bool) (i : Nat) : Nat → Bool := fun j => if j = i then true else L j
def backward (ops : Array Oper) : Bool := (List.range ops.size).all fun i => ((ops[i]?).map (·.after.all fun e => !Region.binds .any e || decide (e.on < i))).getD true
theorem ready_mem {listed : Array Bool} {i : Nat} (h : i ∈ Region.ready .any ops listed) :
    i < ops.size ∧ listed.getD i true = false ∧ ∃ o, ops[i]? = some o ∧ ∀ e ∈ o.after, Region.binds .any e = true → listed.getD e.on false = true := by
  simp only [Region.ready, List.mem_filter, List.mem_range, Bool.and_eq_true, Bool.not_eq_true'] at h
  obtain ⟨h1, h2, h3⟩ := h
  refine ⟨h1, h2, ?_⟩
  cases ho : ops[i]? with
  | none => simp [ho] at h3
  | some o =>
    refine ⟨o, rfl, fun e he hb => ?_⟩
    simp only [ho, Option.map_some, Option.getD_some, Array.all_eq_true_iff_forall_mem] at h3
    have := h3 e he
    simpa [hb] using this
theorem ready_nil (hb : backward ops = true) {listed : Array Bool} (hs : listed.size = ops.size) (h : Region.ready .any ops listed = []) (i : Nat) :
    listed.getD i true = true := by
  induction i using Nat.strongRecOn with
  | ind i ih =>
    by_cases hi : i < ops.size
    · cases hl : listed.getD i true with
      | true => rfl
      | false =>
        exfalso
        have hm : i ∈ Region.ready .any ops listed := by
          simp only [Region.ready, List.mem_filter, List.mem_range, Bool.and_eq_true, Bool.not_eq_true']
          refine ⟨hi, hl, ?_⟩
          have ho : ops[i]? = some ops[i] := Array.getElem?_eq_getElem hi
          rw [ho]
          simp only [Option.map_some, Option.getD_some, Array.all_eq_true_iff_forall_mem]
          intro e he
          have hbi := hb
          simp only [backward, List.all_eq_true, List.mem_range] at hbi
          have := hbi i hi
          rw [ho] at this
          simp only [Option.map_some, Option.getD_some, Array.all_eq_true_iff_forall_mem] at this
          have := this e he
          cases hbe : Region.binds .any e with
          | false => simp
          | true =>
            simp only [hbe, Bool.not_true, Bool.false_or, decide_eq_true_eq] at this
            have h2 := ih e.on this
            have h3 : e.on < listed.size := by omega
            simp only [Array.getD_eq_getD_getElem?, Array.getElem?_eq_getElem h3, Option.getD_some] at h2 ⊢
            simp [h2]
        rw [h] at hm
        cases hm
    · simp [Array.getD_eq_getD_getElem?, hs, hi]
theorem wpAny_inv (hb : backward ops = true) (I : (Nat → Bool) → Act → World → Prop)
    (hstep : ∀ i o, ops[i]? = some o → ∀ L a w, I L a w → L i = false → (∀ e ∈ o.after, Region.binds .any e = true → L e.on = true) →
      ∀ K : Act → World → Prop, (∀ a w, I (upd L i) a w → K a w) → if Region.wanted o (yielded ops a.tmps) = true then Oper.wp P o a w K Q else K (a.put o.dst undef) w)
    (hend : ∀ a w, I (fun _ => true) a w → Q .normal a w) :
    ∀ (fuel : Nat) (listed : Array Bool) (a : Act) (w : World), listed.size = ops.size → listed.toList.count false ≤ fuel → I (fun j => listed.getD j true) a w → wpAny P .any ops Q fuel listed a w := by
  have hdone : ∀ (listed : Array Bool) (a : Act) (w : World), listed.size = ops.size → I (fun j => listed.getD j true) a w → Region.ready .any ops listed = [] → Q .normal a w := by
    intro listed a w hs hi hr
    apply hend
    rw [show (fun _ : Nat => true) = (fun j => listed.getD j true) from funext fun j => (ready_nil hb hs hr j).symm]
    exact hi
  intro fuel
  induction fuel with
  | zero =>
    intro listed a w hs hc hi
    have hr : Region.ready .any ops listed = [] := by
      rw [List.eq_nil_iff_forall_not_mem]
      intro i hm
      obtain ⟨h1, h2, _⟩ := ready_mem hm
      have h3 : i < listed.size := by omega
      simp only [Array.getD_eq_getD_getElem?, Array.getElem?_eq_getElem h3, Option.getD_some] at h2
      have : false ∈ listed.toList := h2 ▸ (by simp)
      have := List.count_pos_iff.2 this
      omega
    exact ⟨hr, hdone listed a w hs hi hr⟩
  | succ fuel ih =>
    intro listed a w hs hc hi
    refine ⟨hdone listed a w hs hi, fun i hm => ?_⟩
    obtain ⟨h1, h2, o, ho, hd⟩ := ready_mem hm
    refine wpOp_step ho fun K hK => ?_
    refine hstep i o ho _ a w hi h2 (fun e he hbe => ?_) K fun a' w' hI => hK a' w' (ih _ _ _ (by simpa using hs) ?_ ?_)
    · have := hd e he hbe
      rw [Array.getD_eq_getD_getElem?] at this ⊢
      cases h : listed[e.on]? with
      | none => rfl
      | some b => rw [h] at this; simpa using this
    · have h3 : i < listed.size := by omega
      have h4 : listed[i] = false := by simpa only [Array.getD_eq_getD_getElem?, Array.getElem?_eq_getElem h3, Option.getD_some] using h2
      have h5 : (listed.setIfInBounds i true).toList = listed.toList.set i true := by simp
      have h6 : listed.toList[i]'(by simpa using h3) = false := by simpa using h4
      have h7 : false ∈ listed.toList := by rw [← h6]; exact List.getElem_mem _
      have := List.count_pos_iff.2 h7
      rw [h5, List.count_set (by simpa using h3), h6]
      simp only [beq_self_eq_true, if_true, show (true == false) = false from rfl, Bool.false_eq_true, if_false]
      omega
    · have he : (fun j => (listed.setIfInBounds i true).getD j true) = upd (fun j => listed.getD j true) i := by
        funext j
        have h3 : i < listed.size := by omega
        by_cases hj : j = i
        · subst hj; simp [upd, Array.getD_eq_getD_getElem?, h3]
        · simp [upd, Array.getD_eq_getD_getElem?, hj, Array.getElem?_setIfInBounds_ne (Ne.symm hj)]
      rw [he]; exact hI
def Steps (P : Program) (ops : Array Oper) (Q : Exit → Act → World → Prop) (I : (Nat → Bool) → Act → World → Prop) : Nat → List Oper → Prop
  | _, [] => True
  | i, o :: r => (∀ L a w, I L a w → L i = false → (o.after.toList.all fun e => !Region.binds .any e || L e.on) = true →
      ∀ K : Act → World → Prop, (∀ a w, I (upd L i) a w → K a w) → if Region.wanted o (yielded ops a.tmps) = true then Oper.wp P o a w K Q else K (a.put o.dst undef) w) ∧ Steps P ops Q I (i + 1) r
theorem Steps.get {I : (Nat → Bool) → Act → World → Prop} : ∀ (l : List Oper) (k : Nat), Steps P ops Q I k l → ∀ i o, l[i]? = some o → ∀ L a w, I L a w → L (k + i) = false → (o.after.toList.all fun e => !Region.binds .any e || L e.on) = true →
      ∀ K : Act → World → Prop, (∀ a w, I (upd L (k + i)) a w → K a w) → if Region.wanted o (yielded ops a.tmps) = true then Oper.wp P o a w K Q else K (a.put o.dst undef) w
  | [], _, _, i, o, h => by simp at h
  | x :: r, k, hs, 0, o, h => by simp at h; subst h; exact hs.1
  | x :: r, k, hs, i + 1, o, h => by
    have := Steps.get r (k + 1) hs.2 i o (by simpa using h)
    rwa [show k + 1 + i = k + (i + 1) by omega] at this
theorem wp_region_inv {id : Nat} {a : Act} {w : World} (hm : P.follows .mixedOrders = true) (hb : backward ops = true) (I : (Nat → Bool) → Act → World → Prop)
    (h0 : I (fun j => decide (ops.size ≤ j)) a w.drew)
    (hstep : Steps P ops Q I 0 ops.toList)
    (hend : ∀ a w, I (fun _ => true) a w → Q .normal a w) : (Code.region id ops true).wp P Q a w := by
  refine wp_region_any hm (wpAny_inv hb I ?_ hend _ _ _ _ (by simp) (by simp [List.count_replicate]) ?_)
  · intro i o ho L a w hI hl hd K hK
    have := Steps.get ops.toList 0 hstep i o (by simpa using ho) L a w hI (by simpa using hl) ?_ K (by simpa using hK)
    · exact this
    · rw [List.all_eq_true]
      intro e he
      cases hbe : Region.binds .any e with
      | false => rfl
      | true => simpa [hbe] using hd e (by simpa using he) hbe
  · have : (fun j => (Array.replicate ops.size false).getD j true) = fun j => decide (ops.size ≤ j) := by
      funext j
      by_cases hj : j < ops.size
      · simp [Array.getD_eq_getD_getElem?, hj]
      · simp [Array.getD_eq_getD_getElem?, hj]; omega
    rw [this]; exact h0
end
end Go.Proofs.Ytcjekbncllccbaa
namespace Go.Proofs.Ytcjekbncllccbaa
open Go.RowKit

theorem block_of_add (a : Addr) (n : Nat) : (a.add n).block = a.block := by unfold Addr.add; split <;> rfl
theorem add_of_add (a : Addr) (i j : Nat) : (a.add i).add j = a.add (i + j) := by
  unfold Addr.add
  by_cases hi : i = 0 <;> by_cases hj : j = 0 <;> simp [hi, hj, Nat.add_assoc]

/-- The slice value v of n elements (size cells each) reads as the cells xs. -/
def Sl (w : World) (size : Nat) (v : Value) (n : Nat) (xs : List Value) : Prop :=
  ∃ A c, v = .slice A n c ∧ n ≤ c ∧ c ≤ maxLen ∧ xs.length = n * size ∧ (0 < n → ∃ ad, A = some ad ∧ ad.block < w.heap.size ∧ ∀ j u, xs[j]? = some u → w.cell? (ad.add j) = some u)

section
variable {w w' : World} {B size n : Nat} {v : Value} {xs : List Value}
theorem Sl.nil (w : World) (size : Nat) : Sl w size (.slice none 0 0) 0 [] := ⟨none, 0, rfl, Nat.le_refl _, by simp [maxLen], by simp, fun h => absurd h (by omega)⟩
theorem Sl.keep (h : Sl w size v n xs) (hs : w.heap.size ≤ w'.heap.size) (hk : ∀ p : Addr, p.block < w.heap.size → w'.cell? p = w.cell? p) : Sl w' size v n xs := by
  obtain ⟨A, c, e, h1, h2, h3, h4⟩ := h
  refine ⟨A, c, e, h1, h2, h3, fun hn => ?_⟩
  obtain ⟨ad, e, hb, hc⟩ := h4 hn
  exact ⟨ad, e, by omega, fun j u hu => (hk _ (by rw [block_of_add]; exact hb)).trans (hc j u hu)⟩
theorem Sl.below (h : Sl w size v n xs) (hb : Below w.heap.size w w') : Sl w' size v n xs := h.keep hb.size fun _ hp => hb.cell hp
theorem Sl.drew (h : Sl w size v n xs) : Sl w.drew size v n xs := h
theorem Sl.drewN (h : Sl w size v n xs) (k : Nat) : Sl (w.drewN k) size v n xs := h
theorem Sl.alloc (h : Sl w size v n xs) (o : Obj) : Sl (w.alloc o) size v n xs := h.keep (by simp) fun p hp => World.cell?_alloc_lt w o p (by omega)
theorem Sl.of_own {base : Nat} {e : TypeId} (h : w.ownsRow base e size v n xs) : Sl w size v n xs := by
  obtain ⟨h1, h2⟩ := h
  rcases h2 with ⟨rfl, rfl⟩ | ⟨g, cap, cur, rfl, hb, hg, hn, hc, hcs, ht⟩
  · exact ⟨none, 0, rfl, Nat.le_refl _, by simp [maxLen], h1, fun h => absurd h (by omega)⟩
  · refine ⟨some ⟨g, 0, none⟩, cap, rfl, hn, hc, h1, fun _ => ⟨_, rfl, (Array.getElem?_eq_some_iff.1 hg).1, ?_⟩⟩
    exact World.ownsRow.cells (base := base) (e := e) ⟨h1, .inr ⟨g, cap, cur, rfl, hb, hg, hn, hc, hcs, ht⟩⟩ rfl
/-- One-cell elements: the cell of element k. -/
theorem Sl.at_ {A : Option Addr} {c k : Nat} (h : Sl w 1 (.slice A n c) n xs) (hk : k < n) : ∃ ad u, A = some ad ∧ ad.block < w.heap.size ∧ xs[k]? = some u ∧ w.cell? (ad.add k) = some u := by
  obtain ⟨A', c', e, h1, h2, h3, h4⟩ := h
  injection e with e1 e2 e3
  subst e1
  obtain ⟨ad, e, hb, hc⟩ := h4 (by omega)
  have hl : k < xs.length := by omega
  exact ⟨ad, xs[k], e, hb, List.getElem?_eq_getElem hl, hc k _ (List.getElem?_eq_getElem hl)⟩
theorem Sl.form (h : Sl w size v n xs) : ∃ A c, v = .slice A n c ∧ n ≤ c ∧ c ≤ maxLen := by
  obtain ⟨A, c, e, h1, h2, _⟩ := h
  exact ⟨A, c, e, h1, h2⟩
end

/-- Only new blocks: nothing that was there has turned. -/
theorem Below.step {B : Nat} {a w w' : World} (h : Below B a w) (hB : B ≤ w.heap.size) (k : Below w.heap.size w w') : Below B a w' := h.trans (k.mono hB)
theorem bst {a w w' : World} (h : Below a.heap.size a w) (k : Below w.heap.size w w') : Below a.heap.size a w' := h.trans (k.mono h.size)
theorem below_drewN {B : Nat} {a w : World} (h : Below B a w) (n : Nat) : Below B a (w.drewN n) := ⟨h.os, h.tape, h.output, h.size, h.block⟩

theorem bcell {W w1 : World} (hb : Below W.heap.size W w1) : (∀ b o, b < W.heap.size → w1.cell? ⟨b, o, none⟩ = W.cell? ⟨b, o, none⟩) ∧ (∀ b o, b < W.heap.size → w1.frozen? ⟨b, o, none⟩ = W.frozen? ⟨b, o, none⟩) :=
  ⟨fun b o h => hb.cell (p := ⟨b, o, none⟩) h, fun b o h => hb.frozen (p := ⟨b, o, none⟩) h⟩

/-- What is owned stays owned over calls that only make new memory. -/
theorem own_below {w w' : World} {base : Nat} {e : TypeId} {size : Nat} {v : Value} {n : Nat} {xs : List Value} (h : w.ownsRow base e size v n xs) (hb : Below w.heap.size w w') : w'.ownsRow base e size v n xs := by
  obtain ⟨h1, h2⟩ := h
  refine ⟨h1, ?_⟩
  rcases h2 with h2 | ⟨g, cap, cur, rfl, hb', hg, r⟩
  · exact .inl h2
  · exact .inr ⟨g, cap, cur, rfl, hb', by rw [hb.block g (Array.getElem?_eq_some_iff.1 hg).1]; exact hg, r⟩
theorem own_mono {w : World} {base base' : Nat} {e : TypeId} {size : Nat} {v : Value} {n : Nat} {xs : List Value} (h : w.ownsRow base e size v n xs) (hb : base' ≤ base) : w.ownsRow base' e size v n xs := by
  obtain ⟨h1, h2⟩ := h
  refine ⟨h1, ?_⟩
  rcases h2 with h2 | ⟨g, cap, cur, rfl, hb', r⟩
  · exact .inl h2
  · exact .inr ⟨g, cap, cur, rfl, by omega, r⟩
/-- A cell that is there is there behind a new block. -/
theorem cell_alloc {w : World} {p : Addr} {v : Value} (h : w.cell? p = some v) (o : Obj) : (w.alloc o).cell? p = some v := (World.cell?_alloc_lt w o p (World.block_lt_of_cell? w p h)).trans h
theorem ret_int {k : IntKind} {a b : Int} (h : a = b) : Ending.returned (.int k a) = .returned (.int k b) := by rw [h]
theorem ret_bool {a b : Bool} (h : a = b) : Ending.returned (.bool a) = .returned (.bool b) := by rw [h]

/-- The call returns a slice in new memory that owns the n elements whose cells are xs; nothing that was there has turned. -/
def RetRow (w : World) (e : TypeId) (size n : Nat) (xs : List Value) (d : Ending) (w' : World) : Prop := ∃ v, d = .returned v ∧ Below w.heap.size w w' ∧ w'.ownsRow w.heap.size e size v n xs
theorem RetRow.nil_ (w : World) (e : TypeId) (size : Nat) {n : Nat} {xs : List Value} (h : xs = []) (hn : n = 0) : RetRow w e size n xs (.returned (.slice none 0 0)) w := by
  subst h; subst hn; exact ⟨_, rfl, Below.refl _ _, World.ownsRow_nil _ _ _ _⟩
theorem RetRow.mk_ {w w' : World} {e : TypeId} {size n n' : Nat} {v : Value} {xs xs' : List Value} (hb : Below w.heap.size w w') (h : w'.ownsRow w.heap.size e size v n xs) (hn : n = n') (hx : xs = xs') : RetRow w e size n' xs' (.returned v) w' := by
  subst hn; subst hx; exact ⟨v, rfl, hb, h⟩

/-- The new cell of 'append(out, x)'. -/
theorem news_one {w : World} {u : Value} {t : TypeId} : ∀ j v, ([u] : List Value)[j]? = some v → (w.alloc (.cells #[u] t)).cell? ((⟨w.heap.size, 0, none⟩ : Addr).add j) = some v := by
  intro j v hj
  match j, hj with
  | 0, hj => simp at hj; subst hj; simp [Addr.add]
theorem grown_trans' {a b c : World} {row : Option Nat} (h : a.grownBy b row) (k : b.grownBy c row) : a.grownBy c row :=
  ⟨k.os.trans h.os, k.tape.trans h.tape, k.output.trans h.output, Nat.le_trans h.size k.size, fun i hi hne => (k.block i (Nat.lt_of_lt_of_le hi h.size) hne).trans (h.block i hi hne)⟩

/-- 'out = append(out, x)', out the call's own: behind it out owns one element more; nothing else that was there has turned. -/
theorem app1 {P : Program} {w w0 : World} {B : Nat} {ops : Array Oper} {rest : List Oper} {o : Oper} {a : Act} {Q : Exit → Act → World → Prop} (s x : Operand) {t e : TypeId} {z : Value} {size bytes base : Nat} {v : Value} {n : Nat} {xs : List Value} {us : Array Value}
    (hown : w.ownsRow base e size v n xs) (hbel : Below B w0 w) (hB : B ≤ base) (hbase : base ≤ w.heap.size)
    (ht : P.underlying t = some (.slice e)) (hinfo : (P.info? e).map (fun i => (i.zero, i.size, i.bytes)) = some (some z, size, bytes)) (hzs : z.cells.size = size) (hsz : 0 < size)
    (hus : us.size = size) (h1 : ∀ u ∈ us.toList, u.oneCell' = true) (hbytes : (n + 1) * bytes ≤ 140737488355328) (hn : n < 140737488355328)
    (hgd : o.guard = none) (ho : o.op = .call { callee := .builtin .append, args := #[s, x], argTypes := #[t, t] })
    (hs : a.eval s = v) (hx : a.eval x = .slice (some ⟨w.heap.size, 0, none⟩) 1 1)
    (h : ∀ g cap w', w'.ownsRow base e size (.slice (some ⟨g, 0, none⟩) (n + 1) cap) (n + 1) (xs ++ us.toList) → Below B w0 w' → w.grownBy w' v.ownBlock → ((Value.slice (some ⟨g, 0, none⟩) (n + 1) cap).ownBlock = v.ownBlock ∨ ∃ b, (Value.slice (some ⟨g, 0, none⟩) (n + 1) cap).ownBlock = some b ∧ w.heap.size ≤ b) → wpList P ops Q rest (a.put o.dst (.slice (some ⟨g, 0, none⟩) (n + 1) cap)) w') :
    wpList P ops Q (o :: rest) a (w.alloc (.cells us e)) := by
  obtain ⟨i, hi, hz, hs1, hby⟩ := info_parts hinfo
  have hnews : ∀ j u, us.toList[j]? = some u → (w.alloc (.cells us e)).cell? ((⟨w.heap.size, 0, none⟩ : Addr).add j) = some u := by
    intro j u hj
    have hj' : us[j]? = some u := by simpa using hj
    have e1 : (⟨w.heap.size, 0, none⟩ : Addr).add j = ⟨w.heap.size, j, none⟩ := by unfold Addr.add; split <;> simp_all
    rw [e1, cell_of_row _ w.heap.size j us e (0, 0) (heap_alloc_new w _)]
    exact hj'
  obtain ⟨v', w', hrun, h2, h3, _, h5⟩ := run_append_own_at (P := P) (w.alloc (.cells us e)) base t o.type e i z size bytes ht hi hz hs1 hby hzs hsz v n xs (hown.alloc _) ⟨w.heap.size, 0, none⟩ 1 1 us.toList (by simp [hus]) hnews h1 (by unfold maxLen; omega) hbytes (by simp; omega)
  refine wpList_plain hgd fun K hK => ?_
  unfold Oper.wp execOp
  simp only [ho, resolve, invoke, builtin, Sem.run_bind, Sem.run_pure, Result.andThen_ok, List.map_toArray, List.map_cons, List.map_nil, hs, hx, hrun]
  refine hK _ _ ?_
  have hg : w.grownBy w' v.ownBlock := grown_trans' (World.grownBy_alloc w _ _) h3
  obtain ⟨g, cap, rfl⟩ : ∃ g cap, v' = .slice (some ⟨g, 0, none⟩) (n + 1) cap := by
    rcases h2.2 with ⟨_, h0⟩ | ⟨g, cap, _, hv, _⟩
    · omega
    · exact ⟨g, cap, hv⟩
  refine h g cap w' h2 (hbel.grown hg (by omega) (fun k hk => by have := (hown.lt k hk).1; omega)) hg ?_
  rcases h5 with h5 | h5
  · exact .inl h5
  · exact .inr ⟨_, h5, by simp⟩
end Go.Proofs.Ytcjekbncllccbaa
namespace Go.Proofs.Ytcjekbncllccbaa
open Go.RowKit
def pick (v n : Int) : Int := (v % 18446744073709551616) % n
theorem pick_lo (v n : Int) (h : 0 < n) : 0 ≤ pick v n := Int.emod_nonneg _ (by omega)
theorem pick_hi (v n : Int) (h : 0 < n) : pick v n < n := Int.emod_lt_of_pos _ h
theorem pick_eq (v n : Int) (h0 : 0 < n) (h1 : n ≤ 4294967296) : wrap64 ((IntKind.u64.wrap v).tmod n) = pick v n := by
  have a : 0 ≤ IntKind.u64.wrap v := by rw [IntKind.wrap_u64]; omega
  rw [Int.tmod_eq_emod_of_nonneg a, IntKind.wrap_u64]
  have := pick_lo v n h0
  have := pick_hi v n h0
  exact IntWalk.wrap64_in _ ⟨by show _ ≤ pick v n; omega, by show pick v n ≤ _; omega⟩
set_option maxHeartbeats 400000 in
theorem pick_any (v n : Int) (w : World) (h0 : 0 < n) (h1 : n ≤ 4294967296) :
    Calls Try.prog 12 #[.int .i64 v, .int .i64 n] w fun e w' => e = .returned (.int .i64 (pick v n)) ∧ w = w' := by
  go_enter Try.func12, Try.ntmps12
  go_wp2
  go_ret
  exact ⟨ret_int (pick_eq v n h0 h1), rfl⟩
end Go.Proofs.Ytcjekbncllccbaa
namespace Go.Proofs.Ytcjekbncllccbaa
open Go.RowKit
/-- The call answers the bool b; of the world only the count of draws has turned. -/
def QuietB (w : World) (b : Bool) (e : Ending) (w' : World) : Prop := e = .returned (.bool b) ∧ ∃ n, w' = w.drewN n
theorem QuietB.mk_ {w : World} {b b' : Bool} (n : Nat) (h : b' = b) : QuietB w b (.returned (.bool b')) (w.drewN n) := by subst h; exact ⟨rfl, n, rfl⟩
theorem QuietB.mk0 {w : World} {b b' : Bool} (h : b' = b) : QuietB w b (.returned (.bool b')) w := by subst h; exact ⟨rfl, 0, rfl⟩
/-- The first k elements agree. -/
def Pre {α : Type} (xs ys : List α) (k : Nat) : Prop := ∀ j : Nat, j < k → xs[j]? = ys[j]?
theorem Pre.zero {α : Type} (xs ys : List α) : Pre xs ys 0 := fun j h => by omega
theorem Pre.next {α : Type} {xs ys : List α} {k : Nat} (h : Pre xs ys k) (he : xs[k]? = ys[k]?) : Pre xs ys (k + 1) := fun j hj => by
  by_cases e : j = k
  · subst e; exact he
  · exact h j (by omega)
theorem Pre.all {α : Type} {xs ys : List α} (hl : xs.length = ys.length) (h : Pre xs ys xs.length) : xs = ys := by
  apply List.ext_getElem?
  intro j
  by_cases hj : j < xs.length
  · exact h j hj
  · rw [List.getElem?_eq_none (by omega), List.getElem?_eq_none (by omega)]
theorem quiet_b {P : Program} {f : FuncId} {args : Array Value} {w : World} {n : Nat} {b : Bool} (h : Calls P f args (w.drewN n) (QuietB (w.drewN n) b)) : Calls P f args (w.drewN n) fun e w' => e = .returned (.bool b) ∧ ∃ m, w' = w.drewN m :=
  h.mono fun _ _ ⟨he, m, hm⟩ => ⟨he, n + m, by rw [hm, World.drewN_drewN]⟩
theorem quiet_b2 {P : Program} {f : FuncId} {args : Array Value} {w : World} {a n : Nat} {b : Bool} (h : Calls P f args (w.drewN (a + n)) (QuietB (w.drewN (a + n)) b)) : Calls P f args (w.drewN (a + n)) fun e w' => e = .returned (.bool b) ∧ ∃ m, w' = w.drewN (a + m) :=
  h.mono fun _ _ ⟨he, m, hm⟩ => ⟨he, n + m, by rw [hm, World.drewN_drewN, Nat.add_assoc]⟩
end Go.Proofs.Ytcjekbncllccbaa
namespace Go.Proofs.Ytcjekbncllccbaa
open Go.RowKit
section
variable {P : Program}
theorem run_append_none (w : World) (base : Nat) (t ty e : TypeId) (i : TypeInfo) (size : Nat) (ht : P.underlying t = some (.slice e)) (hi : P.info? e = some i)
    (v : Value) (n : Nat) (xs : List Value) (hown : w.ownsRow base e size v n xs) (c : Nat) : (Builtin.append_ #[t, t] ty #[v, .slice none 0 c]).run P w = .ok v w := by
  rcases hown.2 with ⟨rfl, rfl⟩ | ⟨g, cap, cur, rfl, _, _, hnc, _⟩
  · simp [Builtin.append_, run_underlying ht, sizeOf, typeInfo, hi, Builtin.lenOf, Builtin.firstCells]
  · simp [Builtin.append_, run_underlying ht, sizeOf, typeInfo, hi, Builtin.lenOf, Builtin.firstCells, hnc, storeCells]
theorem run_append_sl {w : World} {base : Nat} {t ty e : TypeId} {z : Value} {size bytes : Nat} (ht : P.underlying t = some (.slice e)) (hinfo : (P.info? e).map (fun i => (i.zero, i.size, i.bytes)) = some (some z, size, bytes)) (hzs : z.cells.size = size) (hsz : 0 < size)
    {v u : Value} {n m : Nat} {xs news : List Value} (hown : w.ownsRow base e size v n xs) (hr : Sl w size u m news) (h1 : ∀ y ∈ news, y.oneCell' = true)
    (h63 : n + m ≤ maxLen) (hbytes : (n + m) * bytes ≤ 140737488355328) (hbase : base ≤ w.heap.size) :
    ∃ v' w', (Builtin.append_ #[t, t] ty #[v, u]).run P w = .ok v' w' ∧ w'.ownsRow base e size v' (n + m) (xs ++ news) ∧ w.grownBy w' v.ownBlock ∧ (v'.ownBlock = v.ownBlock ∨ v'.ownBlock = some w.heap.size) := by
  obtain ⟨i, hi, hz, hs1, hby⟩ := info_parts hinfo
  obtain ⟨A, c, rfl, _, _, hlen, hc⟩ := hr
  rcases A with _ | ad
  · have hm : m = 0 := by
      rcases Nat.eq_zero_or_pos m with h0 | h0
      · exact h0
      · obtain ⟨ad, h, _⟩ := hc h0
        cases h
    subst hm
    have hn : news = [] := List.eq_nil_of_length_eq_zero (by simpa using hlen)
    subst hn
    exact ⟨v, w, run_append_none w base t ty e i size ht hi v n xs hown c, by simpa using hown, World.grownBy.refl w _, .inl rfl⟩
  · have hcells : ∀ j u, news[j]? = some u → w.cell? (ad.add j) = some u := by
      intro j u hu
      rcases Nat.eq_zero_or_pos m with h0 | h0
      · subst h0
        have hn : news = [] := List.eq_nil_of_length_eq_zero (by simpa using hlen)
        subst hn
        simp at hu
      · obtain ⟨ad', h, _, hc'⟩ := hc h0
        injection h with h
        subst h
        exact hc' j u hu
    obtain ⟨v', w', hrun, h2, h3, _, h5⟩ := run_append_own_at (P := P) w base t ty e i z size bytes ht hi hz hs1 hby hzs hsz v n xs hown ad m c news hlen hcells h1 h63 hbytes hbase
    exact ⟨v', w', hrun, h2, h3, h5⟩
/-- 'out = append(out, xs...)', out the call's own, xs any slice that reads as news. -/
theorem appN {w : World} {ops : Array Oper} {rest : List Oper} {o : Oper} {a : Act} {Q : Exit → Act → World → Prop} (s x : Operand) {t e : TypeId} {z : Value} {size bytes base : Nat} {v u : Value} {n m : Nat} {xs news : List Value}
    (hown : w.ownsRow base e size v n xs) (hr : Sl w size u m news) (hbase : base ≤ w.heap.size)
    (ht : P.underlying t = some (.slice e)) (hinfo : (P.info? e).map (fun i => (i.zero, i.size, i.bytes)) = some (some z, size, bytes)) (hzs : z.cells.size = size) (hsz : 0 < size)
    (h1 : ∀ y ∈ news, y.oneCell' = true) (hbytes : (n + m) * bytes ≤ 140737488355328) (hnm : n + m < 140737488355328)
    (hgd : o.guard = none) (ho : o.op = .call { callee := .builtin .append, args := #[s, x], argTypes := #[t, t] })
    (hs : a.eval s = v) (hx : a.eval x = u)
    (h : ∀ v' w', w'.ownsRow base e size v' (n + m) (xs ++ news) → w.grownBy w' v.ownBlock → (v'.ownBlock = v.ownBlock ∨ v'.ownBlock = some w.heap.size) → wpList P ops Q rest (a.put o.dst v') w') :
    wpList P ops Q (o :: rest) a w := by
  obtain ⟨v', w', hrun, h2, h3, h4⟩ := run_append_sl (P := P) (ty := o.type) ht hinfo hzs hsz hown hr h1 (by unfold maxLen; omega) hbytes hbase
  refine wpList_plain hgd fun K hK => ?_
  unfold Oper.wp execOp
  simp only [ho, resolve, invoke, builtin, Sem.run_bind, Sem.run_pure, Result.andThen_ok, List.map_toArray, List.map_cons, List.map_nil, hs, hx, hrun]
  exact hK _ _ (h v' w' h2 h3 h4)
end
end Go.Proofs.Ytcjekbncllccbaa
namespace Go.Proofs.Ytcjekbncllccbaa
open Go.RowKit
def lowB (c : UInt8) : Bool := decide (97 ≤ c.toNat ∧ c.toNat ≤ 122)
def okB (c : UInt8) : Bool := decide ((97 ≤ c.toNat ∧ c.toNat ≤ 122) ∨ (48 ≤ c.toNat ∧ c.toNat ≤ 57) ∨ c.toNat = 95)
def nameB (l : List UInt8) : Bool := (!l.isEmpty) && decide (l.length ≤ 16) && (l != [107, 101, 121]) && lowB (l.headD 0) && l.all okB
theorem get_data (s : ByteArray) (k : Nat) (h : k < s.size) : s.data.toList[k]? = some s[k] := by
  rw [List.getElem?_eq_getElem (by simpa using h)]
  rfl
theorem size_data (s : ByteArray) : s.data.toList.length = s.size := by cases s; rfl
theorem head_data (s : ByteArray) (h : 0 < s.size) : s.data.toList.headD 0 = s[0] := by
  have := get_data s 0 h
  cases hl : s.data.toList with
  | nil => rw [hl] at this; simp at this
  | cons a r => rw [hl] at this; simp at this; simpa using this
theorem name_empty {s : ByteArray} (h : s.size = 0) : nameB s.data.toList = false := by
  have : s.data.toList = [] := List.eq_nil_of_length_eq_zero (by rw [size_data]; exact h)
  rw [this]; rfl
theorem name_long {s : ByteArray} (h : 16 < s.size) : nameB s.data.toList = false := by
  have : decide (s.data.toList.length ≤ 16) = false := by rw [size_data]; simp; omega
  unfold nameB; rw [this]; simp
theorem name_key {s : ByteArray} (h : s.data.toList = [107, 101, 121]) : nameB s.data.toList = false := by rw [h]; decide
theorem name_head {s : ByteArray} (h0 : 0 < s.size) (h : s[0].toNat < 97 ∨ 122 < s[0].toNat) : nameB s.data.toList = false := by
  have : lowB (s.data.toList.headD 0) = false := by rw [head_data s h0]; unfold lowB; rw [decide_eq_false_iff_not]; omega
  unfold nameB
  rw [this]
  simp
theorem name_char {s : ByteArray} {k : Nat} (hk : k < s.size) (h : okB s[k] = false) : nameB s.data.toList = false := by
  have : s.data.toList.all okB = false := by
    rw [List.all_eq_false]
    exact ⟨s[k], List.mem_of_getElem? (get_data s k hk), by simp [h]⟩
  unfold nameB
  rw [this]
  simp
theorem name_yes {s : ByteArray} (h0 : 0 < s.size) (h1 : s.size ≤ 16) (h2 : s.data.toList ≠ [107, 101, 121]) (h3 : lowB s[0] = true) (h4 : ∀ k (h : k < s.size), okB s[k] = true) : nameB s.data.toList = true := by
  have e0 : s.data.toList.isEmpty = false := by
    rw [List.isEmpty_eq_false_iff]; intro e
    have := size_data s; rw [e] at this; simp at this; omega
  have e1 : decide (s.data.toList.length ≤ 16) = true := by rw [size_data]; simpa using h1
  have e2 : (s.data.toList != [107, 101, 121]) = true := by simpa using h2
  have e3 : lowB (s.data.toList.headD 0) = true := by rw [head_data s h0]; exact h3
  have e4 : s.data.toList.all okB = true := by
    rw [List.all_eq_true]
    intro c hc
    obtain ⟨k, hk⟩ := List.mem_iff_getElem?.1 hc
    have hl : k < s.size := by rw [← size_data]; exact (List.getElem?_eq_some_iff.1 hk).1
    rw [get_data s k hl] at hk
    injection hk with hk
    rw [← hk]; exact h4 k hl
  unfold nameB
  rw [e0, e1, e2, e3, e4]; rfl
/-- The call answers the bool b; the world is as it was. -/
def Ret0 (w : World) (b : Bool) (e : Ending) (w' : World) : Prop := e = .returned (.bool b) ∧ w = w'
theorem Ret0.mk_ {w : World} {b b' : Bool} (h : b = b') : Ret0 w b (.returned (.bool b')) w := by subst h; exact ⟨rfl, rfl⟩
def OkTo (s : ByteArray) (k : Nat) : Prop := ∀ j (h : j < s.size), j < k → okB s[j] = true
theorem OkTo.next {s : ByteArray} {k : Nat} (h : OkTo s k) (hk : k < s.size) (hc : okB s[k] = true) : OkTo s (k + 1) := fun j hj hlt => by
  by_cases e : j = k
  · subst e; exact hc
  · exact h j hj (by omega)
theorem ok_cases (c : UInt8) : (okB c = true ∧ (97 ≤ (c.toNat : Int) ∧ (c.toNat : Int) ≤ 122 ∨ 48 ≤ (c.toNat : Int) ∧ (c.toNat : Int) ≤ 57 ∨ (c.toNat : Int) = 95)) ∨
    (okB c = false ∧ ((c.toNat : Int) < 48 ∨ (57 < (c.toNat : Int) ∧ (c.toNat : Int) < 95) ∨ (c.toNat : Int) = 96 ∨ 122 < (c.toNat : Int))) := by
  by_cases h : (97 ≤ c.toNat ∧ c.toNat ≤ 122) ∨ (48 ≤ c.toNat ∧ c.toNat ≤ 57) ∨ c.toNat = 95
  · exact .inl ⟨by unfold okB; rw [decide_eq_true_eq]; exact h, by omega⟩
  · exact .inr ⟨by unfold okB; rw [decide_eq_false_iff_not]; exact h, by omega⟩
theorem toList_ne {s : ByteArray} (h0 : 0 < s.size) : s.toList.isEmpty = false := by
  rw [Go.ByteArray.toList_eq, List.isEmpty_eq_false_iff]; intro e
  have := size_data s; rw [e] at this; simp at this; omega
theorem toList_nil {s : ByteArray} (h0 : s.size = 0) : s.toList = [] := by
  rw [Go.ByteArray.toList_eq]; exact List.eq_nil_of_length_eq_zero (by rw [size_data]; exact h0)
end Go.Proofs.Ytcjekbncllccbaa
namespace Go.Proofs.Ytcjekbncllccbaa
open Go.RowKit
def ordI (a b : Int) : Int := if a < b then -1 else if b < a then 1 else 0
def ordS (a b : List UInt8) : Int := if a < b then -1 else if a = b then 0 else 1
/-- The order of two values of type t: null first. -/
def cmpV (t : Int) (na : Bool) (xa : Int) (sa : ByteArray) (nb : Bool) (xb : Int) (sb : ByteArray) : Int :=
  if na && nb then 0 else if na then -1 else if nb then 1 else if t = 3 then ordS sa.data.toList sb.data.toList else ordI xa xb
/-- The call answers the number x; the world is as it was. -/
def RetI0 (w : World) (x : Int) (e : Ending) (w' : World) : Prop := e = .returned (.int .i64 x) ∧ w = w'
theorem RetI0.mk_ {w : World} {x x' : Int} (h : x = x') : RetI0 w x (.returned (.int .i64 x')) w := by subst h; exact ⟨rfl, rfl⟩
/-- The call answers the number x; nothing that was there has turned. -/
def RetN (w : World) (x : Int) (e : Ending) (w' : World) : Prop := e = .returned (.int .i64 x) ∧ Below w.heap.size w w'
theorem RetN.mk_ {w w' : World} {x x' : Int} (h : x = x') (hb : Below w.heap.size w w') : RetN w x (.returned (.int .i64 x')) w' := by subst h; exact ⟨rfl, hb⟩
/-- The model's '<' on strings is the lexical order of the bytes. -/
theorem less_lex : ∀ (x y : List UInt8), Op.bytesLess x y = decide (x < y)
  | [], [] => by simp [Op.bytesLess]
  | _ :: _, [] => by simp [Op.bytesLess]
  | [], _ :: _ => by simp [Op.bytesLess]
  | a :: x, b :: y => by
    rw [Op.bytesLess, less_lex x y]
    simp only [List.cons_lt_cons_iff]
    by_cases h1 : a < b <;> by_cases h2 : a = b <;> by_cases h3 : x < y <;> simp [h1, h2, h3]
theorem less_of (a b : ByteArray) : Op.bytesLess a.toList b.toList = decide (a.data.toList < b.data.toList) := by
  rw [Go.ByteArray.toList_eq, Go.ByteArray.toList_eq]; exact less_lex _ _
set_option maxHeartbeats 400000 in
theorem cmpS_any (a b : ByteArray) (w : World) : Calls Try.prog 88 #[.string a, .string b] w (RetI0 w (ordS a.data.toList b.data.toList)) := by
  by_cases h1 : a.data.toList < b.data.toList
  · have hl : Op.bytesLess a.toList b.toList = true := by rw [less_of]; simpa using h1
    have H := Lib.hid (show ordS a.data.toList b.data.toList = -1 by unfold ordS; rw [if_pos h1])
    clear h1
    go_enter Try.func88, Try.ntmps88
    go_wp2
    go_ret
    exact RetI0.mk_ H.out
  · have hl : Op.bytesLess a.toList b.toList = false := by rw [less_of]; simpa using h1
    by_cases h2 : a.data.toList = b.data.toList
    · have he : (a.toList == b.toList) = true := by rw [Go.ByteArray.toList_eq, Go.ByteArray.toList_eq, h2]; simp
      have H := Lib.hid (show ordS a.data.toList b.data.toList = 0 by unfold ordS; rw [if_neg h1, if_pos h2])
      clear h1 h2
      go_enter Try.func88, Try.ntmps88
      go_wp2
      go_ret
      exact RetI0.mk_ H.out
    · have he : (a.toList == b.toList) = false := by rw [Go.ByteArray.toList_eq, Go.ByteArray.toList_eq]; simpa using h2
      have H := Lib.hid (show ordS a.data.toList b.data.toList = 1 by unfold ordS; rw [if_neg h1, if_neg h2])
      clear h1 h2
      go_enter Try.func88, Try.ntmps88
      go_wp2
      go_ret
      exact RetI0.mk_ H.out
set_option maxHeartbeats 400000 in
theorem cmpI_any (a b : Int) (w : World) : Calls Try.prog 61 #[.int .i64 a, .int .i64 b] w (RetI0 w (ordI a b)) := by
  by_cases h1 : a < b
  · have H := Lib.hid (show ordI a b = -1 by unfold ordI; rw [if_pos h1])
    go_enter Try.func61, Try.ntmps61
    go_wp2
    go_ret
    exact RetI0.mk_ H.out
  · by_cases h2 : b < a
    · have H := Lib.hid (show ordI a b = 1 by unfold ordI; rw [if_neg h1, if_pos h2])
      go_enter Try.func61, Try.ntmps61
      go_wp2
      go_ret
      exact RetI0.mk_ H.out
    · have H := Lib.hid (show ordI a b = 0 by unfold ordI; rw [if_neg h1, if_neg h2])
      go_enter Try.func61, Try.ntmps61
      go_wp2
      go_ret
      exact RetI0.mk_ H.out
theorem ordS_eq (a b : List UInt8) : (if decide (a < b) then (-1 : Int) else if a == b then 0 else 1) = ordS a b := by simp [ordS]
theorem ordI_eq (a b : Int) : (if decide (a < b) then (-1 : Int) else if a == b then 0 else 1) = ordI a b := by
  unfold ordI
  by_cases h : a < b
  · simp [h]
  · by_cases h2 : b < a
    · have : a ≠ b := by omega
      simp [h, h2, this]
    · have : a = b := by omega
      simp [this]
set_option maxHeartbeats 1000000 in
theorem compare_any (t : Int) (na : Bool) (xa : Int) (sa : ByteArray) (nb : Bool) (xb : Int) (sb : ByteArray) (w : World) :
    Calls Try.prog 60 #[.int .i64 t, .agg #[.bool na, .int .i64 xa, .string sa], .agg #[.bool nb, .int .i64 xb, .string sb]] w (RetN w (cmpV t na xa sa nb xb sb)) := by
  have hb2 := ((Below.refl w.heap.size w).alloc (Nat.le_refl _) (.cells #[.bool na, .int .i64 xa, .string sa] 35)).alloc (by simp) (.cells #[.bool nb, .int .i64 xb, .string sb] 35)
  cases na <;> cases nb
  · by_cases ht : t = 3
    · have H := Lib.hid (show ordS sa.data.toList sb.data.toList = cmpV t false xa sa false xb sb by simp [cmpV, ht])
      have ht' : (t == 3) = true := by simpa using ht
      clear ht
      go_enter Try.func60, Try.ntmps60
      go_wp2_with fail
      refine (cmpS_any _ _ _).mono ?_
      rintro e w1 ⟨rfl, rfl⟩
      go_wp2
      go_ret
      exact RetN.mk_ H.out.symm hb2
    · have H := Lib.hid (show ordI xa xb = cmpV t false xa sa false xb sb by simp [cmpV, ht])
      have ht' : (t == 3) = false := by simpa using ht
      clear ht
      go_enter Try.func60, Try.ntmps60
      go_wp2_with fail
      refine (cmpI_any _ _ _).mono ?_
      rintro e w1 ⟨rfl, rfl⟩
      go_wp2
      go_ret
      exact RetN.mk_ H.out.symm hb2
  all_goals
    go_enter Try.func60, Try.ntmps60
    go_wp2
    go_ret
    exact RetN.mk_ (by simp [cmpV]) hb2
end Go.Proofs.Ytcjekbncllccbaa
namespace Go.Proofs.Ytcjekbncllccbaa
open Go.RowKit
set_option maxHeartbeats 400000 in
theorem order_any (x y : Bool) (w : World) : Calls Try.prog 63 #[.bool x, .bool y] w (RetI0 w (if x then -1 else if y then 0 else 1)) := by
  cases x <;> cases y
  all_goals
    go_enter Try.func63, Try.ntmps63
    go_wp2
    go_ret
    exact RetI0.mk_ (by simp)
set_option maxHeartbeats 1000000 in
theorem rcompare_any (t : Int) (na : Bool) (xa : Int) (sa : ByteArray) (nb : Bool) (xb : Int) (sb : ByteArray) (w : World) :
    Calls Try.prog 50 #[.int .i64 t, .agg #[.bool na, .int .i64 xa, .string sa], .agg #[.bool nb, .int .i64 xb, .string sb]] w (RetN w (cmpV t na xa sa nb xb sb)) := by
  have hb2 := ((Below.refl w.heap.size w).alloc (Nat.le_refl _) (.cells #[.bool na, .int .i64 xa, .string sa] 35)).alloc (by simp) (.cells #[.bool nb, .int .i64 xb, .string sb] 35)
  cases na <;> cases nb
  · by_cases ht : t = 3
    · have H := Lib.hid (show (if Op.bytesLess sa.toList sb.toList then (-1 : Int) else if sa.toList == sb.toList then 0 else 1) = cmpV t false xa sa false xb sb by
        rw [less_of, Go.ByteArray.toList_eq, Go.ByteArray.toList_eq, ordS_eq]; simp [cmpV, ht])
      have ht' : (t == 3) = true := by simpa using ht
      clear ht
      go_enter Try.func50, Try.ntmps50
      go_wp2_with fail
      refine (order_any _ _ _).mono ?_
      rintro e w1 ⟨rfl, rfl⟩
      rw [H.out]
      go_wp2
      go_ret
      exact RetN.mk_ rfl hb2
    · have H := Lib.hid (show (if decide (xa < xb) then (-1 : Int) else if xa == xb then 0 else 1) = cmpV t false xa sa false xb sb by rw [ordI_eq]; simp [cmpV, ht])
      have ht' : (t == 3) = false := by simpa using ht
      clear ht
      go_enter Try.func50, Try.ntmps50
      go_wp2_with fail
      refine (order_any _ _ _).mono ?_
      rintro e w1 ⟨rfl, rfl⟩
      rw [H.out]
      go_wp2
      go_ret
      exact RetN.mk_ rfl hb2
  all_goals
    go_enter Try.func50, Try.ntmps50
    go_wp2
    go_ret
    exact RetN.mk_ (by simp [cmpV]) hb2
end Go.Proofs.Ytcjekbncllccbaa
namespace Go.Proofs.Ytcjekbncllccbaa
open Go.RowKit
def ints (l : List Int) : List Value := l.map (Value.int .i64)
theorem ints_snoc (l : List Int) (x : Int) : ints (l ++ [x]) = ints l ++ [.int .i64 x] := by simp [ints]
theorem ints_length (l : List Int) : (ints l).length = l.length := by simp [ints]
theorem ints_get {l : List Int} {k : Nat} {u : Value} (h : (ints l)[k]? = some u) : ∃ x, l[k]? = some x ∧ u = .int .i64 x := by
  simp only [ints, List.getElem?_map, Option.map_eq_some_iff] at h
  obtain ⟨x, hx, rfl⟩ := h
  exact ⟨x, hx, rfl⟩
theorem oneInt (k : IntKind) (x : Int) : ∀ u ∈ (#[Value.int k x] : Array Value).toList, u.oneCell' = true := by intro u hu; simp at hu; subst hu; rfl
theorem oneSlice (A : Option Addr) (n c : Nat) : ∀ u ∈ (#[Value.slice A n c] : Array Value).toList, u.oneCell' = true := by intro u hu; simp at hu; subst hu; rfl
theorem own_ints {w : World} {base : Nat} {e : TypeId} {v : Value} {l : List Int} {x : Int} (h : w.ownsRow base e 1 v (l.length + 1) (ints l ++ (#[Value.int .i64 x] : Array Value).toList)) : w.ownsRow base e 1 v (l ++ [x]).length (ints (l ++ [x])) := by
  rw [ints_snoc, List.length_append]; exact h

/-- A known element of a read slice of integers. -/
theorem Sl.int_at {w : World} {A : Option Addr} {c k : Nat} {zs : List Int} {n : Nat} (h : Sl w 1 (.slice A n c) n (ints zs)) (hk : k < n) : ∃ ad x, A = some ad ∧ zs[k]? = some x ∧ w.cell? (ad.add k) = some (.int .i64 x) := by
  obtain ⟨ad, u, e, _, hu, hc⟩ := h.at_ hk
  obtain ⟨x, hx, rfl⟩ := ints_get hu
  exact ⟨ad, x, e, hx, hc⟩

/-- A slice of integers that came in (as the frame of a law hands it over) reads as a list of integers of its kind. -/
theorem isRow_sl {w : World} {a : Option Addr} {len cap : Nat} {zs : List Int} (h : (a = none ∧ len = 0 ∧ cap = 0 ∧ zs = []) ∨
    ∃ x, a = some x ∧ len ≤ cap ∧ cap ≤ maxLen ∧ zs.length = cap ∧ (∀ i, i < zs.length → w.cell? (x.add i) = some (.int .i64 (zs.getD i 0))) ∧ ∀ n ∈ zs, (Lit.int .i64 n).wf = true) :
    ∃ l : List Int, len = l.length ∧ Sl w 1 (.slice a l.length cap) l.length (ints l) ∧ l.length ≤ 9223372036854775807 ∧ ∀ n ∈ l, (Lit.int .i64 n).wf = true := by
  rcases h with ⟨rfl, rfl, rfl, rfl⟩ | ⟨x, rfl, h1, h2, h3, h4, h5⟩
  · exact ⟨[], rfl, Sl.nil _ _, by simp, by simp⟩
  · have hl : (zs.take len).length = len := by rw [List.length_take]; omega
    unfold maxLen at h2
    refine ⟨zs.take len, hl.symm, ⟨some x, cap, rfl, by omega, by unfold maxLen; omega, by rw [ints_length]; omega, fun hn => ⟨x, rfl, ?_, ?_⟩⟩, by omega, fun n hn => h5 n (List.mem_of_mem_take hn)⟩
    · have := World.block_lt_of_cell? w (x.add 0) (h4 0 (by omega))
      rwa [block_of_add] at this
    · intro j u hj
      obtain ⟨y, hy, rfl⟩ := ints_get hj
      have hjl : j < zs.length := by
        have := (List.getElem?_eq_some_iff.1 hy).1
        rw [hl] at this; omega
      rw [h4 j hjl]
      rw [List.getElem?_take] at hy
      split at hy
      · simp [List.getD, hy]
      · cases hy

def ints8 (l : List Int) : List Value := l.map (Value.int .u8)
theorem ints8_length (l : List Int) : (ints8 l).length = l.length := by simp [ints8]
theorem ints8_get {l : List Int} {k : Nat} {u : Value} (h : (ints8 l)[k]? = some u) : ∃ x, l[k]? = some x ∧ u = .int .u8 x := by
  simp only [ints8, List.getElem?_map, Option.map_eq_some_iff] at h
  obtain ⟨x, hx, rfl⟩ := h
  exact ⟨x, hx, rfl⟩
theorem Sl.int8_at {w : World} {A : Option Addr} {c k : Nat} {zs : List Int} {n : Nat} (h : Sl w 1 (.slice A n c) n (ints8 zs)) (hk : k < n) : ∃ ad x, A = some ad ∧ zs[k]? = some x ∧ w.cell? (ad.add k) = some (.int .u8 x) := by
  obtain ⟨ad, u, e, _, hu, hc⟩ := h.at_ hk
  obtain ⟨x, hx, rfl⟩ := ints8_get hu
  exact ⟨ad, x, e, hx, hc⟩
/-- A slice of integers that came in (as the frame of a law hands it over) reads as a list of integers of its kind. -/
theorem isRow_sl8 {w : World} {a : Option Addr} {len cap : Nat} {zs : List Int} (h : (a = none ∧ len = 0 ∧ cap = 0 ∧ zs = []) ∨
    ∃ x, a = some x ∧ len ≤ cap ∧ cap ≤ maxLen ∧ zs.length = cap ∧ (∀ i, i < zs.length → w.cell? (x.add i) = some (.int .u8 (zs.getD i 0))) ∧ ∀ n ∈ zs, (Lit.int .u8 n).wf = true) :
    ∃ l : List Int, len = l.length ∧ Sl w 1 (.slice a l.length cap) l.length (ints8 l) ∧ l.length ≤ 9223372036854775807 ∧ ∀ n ∈ l, (Lit.int .u8 n).wf = true := by
  rcases h with ⟨rfl, rfl, rfl, rfl⟩ | ⟨x, rfl, h1, h2, h3, h4, h5⟩
  · exact ⟨[], rfl, Sl.nil _ _, by simp, by simp⟩
  · have hl : (zs.take len).length = len := by rw [List.length_take]; omega
    unfold maxLen at h2
    refine ⟨zs.take len, hl.symm, ⟨some x, cap, rfl, by omega, by unfold maxLen; omega, by rw [ints8_length]; omega, fun hn => ⟨x, rfl, ?_, ?_⟩⟩, by omega, fun n hn => h5 n (List.mem_of_mem_take hn)⟩
    · have := World.block_lt_of_cell? w (x.add 0) (h4 0 (by omega))
      rwa [block_of_add] at this
    · intro j u hj
      obtain ⟨y, hy, rfl⟩ := ints8_get hj
      have hjl : j < zs.length := by
        have := (List.getElem?_eq_some_iff.1 hy).1
        rw [hl] at this; omega
      rw [h4 j hjl]
      rw [List.getElem?_take] at hy
      split at hy
      · simp [List.getD, hy]
      · cases hy

/-- The values vs are slices that read as gs, each in memory of the call's own. -/
structure LL (w : World) (base : Nat) (e : TypeId) (vs : List Value) (gs : List (List Int)) : Prop where
  len : vs.length = gs.length
  rows : ∀ (j : Nat) (u : Value) (g : List Int), vs[j]? = some u → gs[j]? = some g → w.ownsRow base e 1 u g.length (ints g)

theorem LL.nil (w : World) (base : Nat) (e : TypeId) : LL w base e [] [] := ⟨rfl, fun j u g h => by simp at h⟩
theorem LL.snoc {w : World} {base : Nat} {e : TypeId} {vs : List Value} {gs : List (List Int)} {u : Value} {cur : List Int} (h : LL w base e vs gs) (hu : w.ownsRow base e 1 u cur.length (ints cur)) : LL w base e (vs ++ [u]) (gs ++ [cur]) := by
  refine ⟨by simp [h.len], fun j x g hx hg => ?_⟩
  by_cases hj : j < vs.length
  · rw [List.getElem?_append_left hj] at hx
    rw [List.getElem?_append_left (by rw [← h.len]; exact hj)] at hg
    exact h.rows j x g hx hg
  · rw [List.getElem?_append_right (by omega)] at hx
    rw [List.getElem?_append_right (by rw [← h.len]; omega), ← h.len] at hg
    rcases hjj : j - vs.length with _ | m
    · rw [hjj] at hx hg
      simp at hx hg
      subst hx; subst hg
      exact hu
    · rw [hjj] at hx; simp at hx
theorem own_grown {w w' : World} {base : Nat} {e : TypeId} {size : Nat} {v : Value} {n : Nat} {xs : List Value} {row : Option Nat} (h : w.ownsRow base e size v n xs) (hg : w.grownBy w' row) (hne : ∀ g, v.ownBlock = some g → row ≠ some g) : w'.ownsRow base e size v n xs := by
  refine h.kept hg ?_
  cases hv : v.ownBlock with
  | none => exact .inl rfl
  | some g => exact .inr (fun e => hne g hv e.symm)
theorem LL.grown {w w' : World} {base : Nat} {e : TypeId} {vs : List Value} {gs : List (List Int)} {row : Option Nat} (h : LL w base e vs gs) (hg : w.grownBy w' row) (hne : ∀ x ∈ vs, ∀ g, x.ownBlock = some g → row ≠ some g) : LL w' base e vs gs :=
  ⟨h.len, fun j u g hu hgg => own_grown (h.rows j u g hu hgg) hg (hne u (List.mem_of_getElem? hu))⟩
theorem LL.below {w w' : World} {base : Nat} {e : TypeId} {vs : List Value} {gs : List (List Int)} (h : LL w base e vs gs) (hb : Below w.heap.size w w') : LL w' base e vs gs :=
  ⟨h.len, fun j u g hu hgg => own_below (h.rows j u g hu hgg) hb⟩
theorem LL.alloc {w : World} {base : Nat} {e : TypeId} {vs : List Value} {gs : List (List Int)} (h : LL w base e vs gs) (o : Obj) : LL (w.alloc o) base e vs gs :=
  ⟨h.len, fun j u g hu hgg => (h.rows j u g hu hgg).alloc o⟩
/-- Rows of different element types never share a block. -/
theorem own_ne {w : World} {base base' : Nat} {e e' : TypeId} {size size' n n' : Nat} {v v' : Value} {xs xs' : List Value} (h : w.ownsRow base e size v n xs) (h' : w.ownsRow base' e' size' v' n' xs') (hne : e ≠ e') : ∀ g, v.ownBlock = some g → v'.ownBlock ≠ some g := by
  intro g hg hg'
  rcases h.2 with ⟨rfl, _⟩ | ⟨g1, cap, cur, rfl, _, hh, _⟩
  · simp [Value.ownBlock] at hg
  rcases h'.2 with ⟨rfl, _⟩ | ⟨g2, cap2, cur2, rfl, _, hh2, _⟩
  · simp [Value.ownBlock] at hg'
  have e1 : g1 = g := by simpa [Value.ownBlock] using hg
  have e2 : g2 = g := by simpa [Value.ownBlock] using hg'
  subst e1; subst e2
  rw [hh] at hh2
  injection hh2 with hh2
  injection hh2 with _ ht
  exact hne ht
theorem LL.mem_row {w : World} {base : Nat} {e : TypeId} {vs : List Value} {gs : List (List Int)} (h : LL w base e vs gs) {x : Value} (hx : x ∈ vs) : ∃ g : List Int, w.ownsRow base e 1 x g.length (ints g) := by
  obtain ⟨j, hj⟩ := List.mem_iff_getElem?.1 hx
  have hl : j < gs.length := by rw [← h.len]; exact (List.getElem?_eq_some_iff.1 hj).1
  exact ⟨gs[j], h.rows j x _ hj (List.getElem?_eq_getElem hl)⟩

/-- The call returns a slice of slices in new memory. -/
def RetLL (w : World) (eO eI : TypeId) (gs : List (List Int)) (d : Ending) (w' : World) : Prop := ∃ v vs, d = .returned v ∧ Below w.heap.size w w' ∧ w'.ownsRow w.heap.size eO 1 v gs.length vs ∧ LL w' w.heap.size eI vs gs
theorem RetLL.nil_ (w w' : World) (eO eI : TypeId) {gs : List (List Int)} (h : gs = []) (hb : Below w.heap.size w w') : RetLL w eO eI gs (.returned (.slice none 0 0)) w' := by
  subst h; exact ⟨_, [], rfl, hb, World.ownsRow_nil _ _ _ _, LL.nil _ _ _⟩
theorem RetLL.mk_ {w w' : World} {eO eI : TypeId} {v : Value} {vs : List Value} {gs gs' : List (List Int)} (hb : Below w.heap.size w w') (h : w'.ownsRow w.heap.size eO 1 v gs.length vs) (hl : LL w' w.heap.size eI vs gs) (hg : gs = gs') : RetLL w eO eI gs' (.returned v) w' := by
  subst hg; exact ⟨v, vs, rfl, hb, h, hl⟩

/-- The state of the loop that builds the groups: the outer slice v owns the values vs; with the last one taken apart. -/
structure Build (w : World) (base : Nat) (eO eI : TypeId) (v : Value) (vs : List Value) (gs : List (List Int)) : Prop where
  own : w.ownsRow base eO 1 v gs.length vs
  ll : LL w base eI vs gs
  apart : ∀ (i j : Nat) (x y : Value) (b : Nat), i < j → vs[i]? = some x → vs[j]? = some y → x.ownBlock = some b → y.ownBlock ≠ some b
theorem Build.nil (w : World) (base : Nat) (eO eI : TypeId) : Build w base eO eI (.slice none 0 0) [] [] := ⟨World.ownsRow_nil _ _ _ _, LL.nil _ _ _, fun i j x y b _ h => by simp at h⟩
/-- behind 'append(groups, nil)' -/
theorem Build.push {w w' : World} {base : Nat} {eO eI : TypeId} {v v' : Value} {vs : List Value} {gs : List (List Int)} (h : Build w base eO eI v vs gs) (hne : eO ≠ eI)
    (hown : w'.ownsRow base eO 1 v' (gs.length + 1) (vs ++ (#[Value.slice none 0 0] : Array Value).toList)) (hg : w.grownBy w' v.ownBlock) : Build w' base eO eI v' (vs ++ [.slice none 0 0]) (gs ++ [[]]) := by
  refine ⟨by rw [List.length_append]; exact hown, ?_, ?_⟩
  · refine LL.snoc (h.ll.grown hg (fun x hx g hxg => ?_)) (World.ownsRow_nil _ _ _ _)
    obtain ⟨l, hl⟩ := h.ll.mem_row hx
    exact own_ne hl h.own (Ne.symm hne) g hxg
  · intro i j x y b hij hx hy hb
    by_cases hj : j < vs.length
    · rw [List.getElem?_append_left (by omega)] at hx
      rw [List.getElem?_append_left hj] at hy
      exact h.apart i j x y b hij hx hy hb
    · rw [List.getElem?_append_right (by omega)] at hy
      rcases hjj : j - vs.length with _ | m
      · rw [hjj] at hy; simp at hy; subst hy; simp [Value.ownBlock]
      · rw [hjj] at hy; simp at hy
theorem Build.kept {w w' : World} {base : Nat} {eO eI : TypeId} {v : Value} {vs : List Value} {gs : List (List Int)} (h : Build w base eO eI v vs gs) (hb : Below w.heap.size w w') : Build w' base eO eI v vs gs :=
  ⟨own_below h.own hb, h.ll.below hb, h.apart⟩
/-- behind 'groups[last] = append(groups[last], x)' -/
theorem Build.put {w w1 : World} {base : Nat} {eO eI : TypeId} {g cap : Nat} {vs : List Value} {gs : List (List Int)} {u u' : Value} {cur : List Int} {x : Int}
    (h : Build w base eO eI (.slice (some ⟨g, 0, none⟩) (gs.length + 1) cap) (vs ++ [u]) (gs ++ [cur])) (hne : eO ≠ eI) 
    (hown : w1.ownsRow base eI 1 u' (cur.length + 1) (ints cur ++ (#[Value.int .i64 x] : Array Value).toList)) (hg : w.grownBy w1 u.ownBlock) (hat : u'.ownBlock = u.ownBlock ∨ ∃ b, u'.ownBlock = some b ∧ w.heap.size ≤ b) :
    Build (w1.setCell ⟨g, gs.length, none⟩ u') base eO eI (.slice (some ⟨g, 0, none⟩) (gs.length + 1) cap) (vs ++ [u']) (gs ++ [cur ++ [x]]) := by
  have hlen : vs.length = gs.length := by have := h.ll.len; simpa using this
  have hown0 : w.ownsRow base eO 1 (.slice (some ⟨g, 0, none⟩) (gs.length + 1) cap) (gs.length + 1) (vs ++ [u]) := by have := h.own; simpa using this
  have hu : w.ownsRow base eI 1 u cur.length (ints cur) := h.ll.rows gs.length u cur (by rw [← hlen]; simp) (by simp)
  have hO : w1.ownsRow base eO 1 (.slice (some ⟨g, 0, none⟩) (gs.length + 1) cap) (gs.length + 1) (vs ++ [u]) := own_grown hown0 hg (fun b hb => own_ne hown0 hu hne b hb)
  obtain ⟨hS, hSg⟩ := hO.stored gs.length u'
  have hset : (vs ++ [u]).set gs.length u' = vs ++ [u'] := by rw [← hlen]; simp
  rw [hset] at hS
  have hll0 : LL w base eI vs gs := ⟨hlen, fun j y q hy hq => h.ll.rows j y q (by rw [List.getElem?_append_left (List.getElem?_eq_some_iff.1 hy).1]; exact hy) (by rw [List.getElem?_append_left (List.getElem?_eq_some_iff.1 hq).1]; exact hq)⟩
  have hap : ∀ y ∈ vs, ∀ b, y.ownBlock = some b → u.ownBlock ≠ some b := by
    intro y hy b hb
    obtain ⟨j, hj⟩ := List.mem_iff_getElem?.1 hy
    have hjl := (List.getElem?_eq_some_iff.1 hj).1
    exact h.apart j vs.length y u b hjl (by rw [List.getElem?_append_left hjl]; exact hj) (by simp) hb
  have hll1 : LL w1 base eI vs gs := hll0.grown hg hap
  have ho' : w1.ownsRow base eI 1 u' (cur ++ [x]).length (ints (cur ++ [x])) := own_ints hown
  have hll2 : LL w1 base eI (vs ++ [u']) (gs ++ [cur ++ [x]]) := hll1.snoc ho'
  refine ⟨by simpa using hS, hll2.grown hSg (fun y hy b hb => ?_), ?_⟩
  · obtain ⟨l, hl⟩ := hll2.mem_row hy
    intro e
    exact own_ne hl hO (Ne.symm hne) b hb (by simpa [Value.ownBlock] using e)
  · intro i j a c b hij ha hc hb
    by_cases hj : j < vs.length
    · rw [List.getElem?_append_left (by omega)] at ha
      rw [List.getElem?_append_left hj] at hc
      exact h.apart i j a c b hij (by rw [List.getElem?_append_left (by omega)]; exact ha) (by rw [List.getElem?_append_left hj]; exact hc) hb
    · rw [List.getElem?_append_right (by omega)] at hc
      rcases hjj : j - vs.length with _ | m
      · rw [hjj] at hc; simp at hc; subst hc
        rw [List.getElem?_append_left (by omega)] at ha
        rcases hat with hat | ⟨b', hb', hbs⟩
        · rw [hat]; exact hap a (List.mem_of_getElem? ha) b hb
        · intro e
          rw [hb'] at e
          injection e with e
          subst e
          obtain ⟨l, hl⟩ := hll0.mem_row (List.mem_of_getElem? ha)
          have := (hl.lt _ hb).2
          omega
      · rw [hjj] at hc; simp at hc
end Go.Proofs.Ytcjekbncllccbaa
namespace Go.Proofs.Ytcjekbncllccbaa
open Go.ChangeShapes Go.WideShapes Go.ChangeAt Go.RowKit
section
variable {H : Type} {enc : TypeId × Value → H} {P : Program} {W : World} {base : Nat} {b0 : Nat}
def IsRow (k : IntKind) (w : World) (a : Option Addr) (len cap : Nat) (zs : List Int) : Prop :=
  (a = none ∧ len = 0 ∧ cap = 0 ∧ zs = []) ∨
  ∃ x, a = some x ∧ len ≤ cap ∧ cap ≤ maxLen ∧ zs.length = cap ∧ (∀ i, i < zs.length → w.cell? (x.add i) = some (.int k (zs.getD i 0))) ∧ ∀ n ∈ zs, (Lit.int k n).wf = true
theorem opened_ints {k : IntKind} {t e : TypeId} {v : Value} {d : DataW H} {p : List MemPlace} (ht : P.underlying t = some (.slice e)) (he : P.underlying e = some (.int k)) (hc : P.cellsOf e = 1)
    (hval : Value.okWide P W .any b0 t v) (h : DataW.Trod enc P W 0 (fun _ => true) true t v d p) : ∃ a len cap zs, v = .slice a len cap ∧ IsRow k W a len cap zs ∧ len ≤ Rows.uptoBulk d := by
  obtain ⟨a0, len0, cap0, rfl⟩ := okWide_slice ht hval
  obtain ⟨fuel, hf⟩ := h
  rcases open_ints ht he hc hf with ⟨hcs, _⟩ | ⟨x, l, c, zs, hcs, _, hl, hm, hz, hx, hcell, hwz⟩
  · simp [Value.cells] at hcs
    obtain ⟨rfl, rfl, rfl⟩ := hcs
    exact ⟨_, _, _, [], rfl, .inl ⟨rfl, rfl, rfl, rfl⟩, by omega⟩
  · simp [Value.cells] at hcs
    obtain ⟨rfl, rfl, rfl⟩ := hcs
    refine ⟨_, _, _, zs, rfl, .inr ⟨_, rfl, hl, hm, by simpa using hz, hcell, hwz⟩, ?_⟩
    simp only [Prod.mk.injEq] at hx
    rw [hx.1]
    have e1 : (lits (H := H) k (zs.take len0)).length = len0 := by
      have : zs.length = cap0 := by simpa using hz
      simp [lits]; omega
    have hlen : ∀ l : List (DataW H), l.length ≤ Rows.uptoBulkAll l := by
      intro l
      induction l with
      | nil => simp [Rows.uptoBulkAll]
      | cons x r ih =>
        have : 1 ≤ Rows.uptoBulk x := by
          cases x with
          | lit l => cases l <;> simp [Rows.uptoBulk]
          | nil => simp [Rows.uptoBulk]
          | ptr d => simp [Rows.uptoBulk]
          | slice elems spare => simp [Rows.uptoBulk]
          | agg parts => simp [Rows.uptoBulk]
          | iface t d => simp [Rows.uptoBulk]
          | map entries => simp [Rows.uptoBulk]
          | held h => simp [Rows.uptoBulk]
        simp only [Rows.uptoBulkAll, List.length_cons]; omega
    have := hlen (lits (H := H) k (zs.take len0))
    simp only [Rows.uptoBulk]
    omega
end
end Go.Proofs.Ytcjekbncllccbaa
namespace Go.Proofs.Ytcjekbncllccbaa
open Go.ChangeShapes Go.WideShapes Go.ChangeAt Go.RowKit
section
variable {H : Type} {enc : TypeId × Value → H} {W : World} {b0 : Nat}
theorem wf_bd {a : Int} (h : (Lit.int .i64 a).wf = true) : -9223372036854775808 ≤ a ∧ a ≤ 9223372036854775807 := by
  simp [Lit.wf, IntKind.min, IntKind.max, IntKind.signed, IntKind.bits] at h; omega
set_option maxRecDepth 100000 in
theorem opened_value {v : Value} {d : DataW H} {p : List MemPlace} (hval : Value.okWide Try.prog W .any b0 35 v) (h : DataW.Trod enc Try.prog W 0 (fun _ => true) true 35 v d p) :
    ∃ (b : Bool) (a : Int) (s : ByteArray), v = .agg #[.bool b, .int .i64 a, .string s] ∧ (-9223372036854775808 ≤ a ∧ a ≤ 9223372036854775807) ∧ s.size ≤ maxLen := by
  obtain ⟨v0, v1, v2, y0, y1, y2, n, rfl, _, _, h0, h1, h2⟩ := Go.Joins.open_agg3 Try.underlying35 (by kernel_rfl) (by kernel_rfl) hval h
  obtain ⟨b, e0, _⟩ := DataW.trod_bool Try.underlying4 h0
  obtain ⟨a, e1, _, wa⟩ := DataW.trod_int Try.underlying2 h1
  obtain ⟨s, e2, _, ws⟩ := DataW.trod_string Try.underlying9 h2
  simp at e0 e1 e2
  subst e0 e1 e2
  exact ⟨b, a, s, rfl, wf_bd wa, ws⟩
end
end Go.Proofs.Ytcjekbncllccbaa
namespace Go.Proofs.Ytcjekbncllccbaa
open Go.RowKit
theorem info_u8 : (Try.prog.info? 5).map (fun i => (i.zero, i.size, i.bytes)) = some (some (.int .u8 0), 1, 1) := by kernel_rfl
/-- The call answers a string of the bytes l; nothing that was there has turned. -/
def RetStr (w : World) (l : List UInt8) (e : Ending) (w' : World) : Prop := e = .returned (.string ⟨l.toArray⟩) ∧ Below w.heap.size w w'
theorem str_eq {s : ByteArray} {l : List UInt8} (h : s.data.toList = l) : s = ⟨l.toArray⟩ := by subst h; cases s; simp
theorem RetStr.mk_ {w w' : World} {l : List UInt8} {s : ByteArray} (h : s.data.toList = l) (hb : Below w.heap.size w w') : RetStr w l (.returned (.string s)) w' := by rw [str_eq h]; exact ⟨rfl, hb⟩
def byt (xs : List Int) : List UInt8 := xs.map fun n => UInt8.ofNat n.toNat
theorem own_ints8 {w : World} {base : Nat} {e : TypeId} {v : Value} {l : List Int} {x : Int} (h : w.ownsRow base e 1 v (l.length + 1) (ints8 l ++ (#[Value.int .u8 x] : Array Value).toList)) : w.ownsRow base e 1 v (l ++ [x]).length (ints8 (l ++ [x])) := by
  have e1 : ints8 (l ++ [x]) = ints8 l ++ [.int .u8 x] := by simp [ints8]
  rw [e1, List.length_append]; exact h
/-- A row of bytes of the call's own, made a string. -/
theorem conv_own {P : Program} {w : World} {base : Nat} {e src : TypeId} (hs : P.underlying src = some (.slice e)) (he : P.underlying e = some (.int .u8)) {g cap n : Nat} {xs : List Int} (h : w.ownsRow base e 1 (.slice (some ⟨g, 0, none⟩) n cap) n (ints8 xs)) :
    ∀ dst, P.underlying dst = some .string → (convert src dst (.slice (some ⟨g, 0, none⟩) n cap)).run P w = .ok (.string (strOfNums xs)) w := by
  have hl : xs.length = n := by have := h.1; rw [ints8_length] at this; omega
  refine run_convert_bytes_arg w src e hs he g 0 n cap xs hl (fun i hi => ?_)
  rw [Nat.zero_add, h.cellAt i (by omega)]
  have : i < xs.length := by omega
  simp [ints8, List.getD, List.getElem?_eq_getElem this]
theorem strOf_byt (xs : List Int) : (strOfNums xs).data.toList = byt xs := strOfNums_data xs
theorem zig_bits (n : Int) (h0 : -9223372036854775808 ≤ n) (h1 : n ≤ 9223372036854775807) :
    bits .xor .u64 (IntKind.u64.wrap (wrap64 (n * 2))) (IntKind.u64.wrap (n / 9223372036854775808)) = ((Lib.zigzag n : Nat) : Int) := by
  by_cases hn : 0 ≤ n
  · have e1 : IntKind.u64.wrap (wrap64 (n * 2)) = (((2 * n).toNat : Nat) : Int) := by
      rw [IntKind.wrap_u64]; unfold wrap64; omega
    have e2 : IntKind.u64.wrap (n / 9223372036854775808) = ((0 : Nat) : Int) := by
      rw [IntKind.wrap_u64]; omega
    rw [e1, e2, bits_xor_u64_nat _ _ (by omega) (by decide)]
    unfold Lib.zigzag
    rw [if_pos hn, Nat.xor_zero]
  · have e1 : IntKind.u64.wrap (wrap64 (n * 2)) = (((2 * n + 18446744073709551616).toNat : Nat) : Int) := by
      rw [IntKind.wrap_u64]; unfold wrap64; omega
    have e2 : IntKind.u64.wrap (n / 9223372036854775808) = ((2 ^ 64 - 1 : Nat) : Int) := by
      rw [IntKind.wrap_u64]; omega
    rw [e1, e2, bits_xor_u64_nat _ _ (by omega) (by decide), Nat.xor_comm, Lib.xor_ones64 _ (by omega)]
    unfold Lib.zigzag
    rw [if_neg hn]
    omega
end Go.Proofs.Ytcjekbncllccbaa
namespace Go.Proofs.Ytcjekbncllccbaa
open Go.RowKit Go.Sort
def putV (nul : Bool) (n : Int) (s : ByteArray) : List UInt8 := if nul then [0] else (1 :: Lib.uvarint (Lib.zigzag n)) ++ Lib.uvarint s.size ++ s.data.toList
theorem bs_append (a b : ByteArray) : (a ++ b).data.toList = a.data.toList ++ b.data.toList := by simp
theorem reg_str {P : Program} {f : FuncId} {args : Array Value} {w : World} {l : List UInt8} (h : ∀ W, Calls P f args W (RetStr W l)) : ∀ d os, Calls P f args (grow (redrawn w d) os) fun e w'' => e = .returned (.string ⟨l.toArray⟩) ∧ ∃ p : Regrown, w'' = grow (redrawn w p.d) p.os :=
  fun d os => Calls.regrown_of ((h (grow (redrawn w d) os)).mono fun _ _ h => h)
theorem reg_same {P : Program} {f : FuncId} {args : Array Value} {w : World} {v : Value} (h : ∀ W, Calls P f args W fun e w' => e = .returned v ∧ W = w') : ∀ d os, Calls P f args (grow (redrawn w d) os) fun e w'' => e = .returned v ∧ ∃ p : Regrown, w'' = grow (redrawn w p.d) p.os :=
  fun d os => (h (grow (redrawn w d) os)).mono fun _ _ h => ⟨h.1, ⟨d, os⟩, h.2.symm⟩
def RetB1' (w : World) (b : Bool) (e : Ending) (w' : World) : Prop := e = .returned (.bool b) ∧ Below w.heap.size w w'
theorem put3 : putV false 3 ⟨#[]⟩ = [1, 6, 0] := by
  have e1 : Lib.zigzag 3 = 6 := by decide
  have e2 : (⟨#[]⟩ : ByteArray).size = 0 := rfl
  simp [putV, e1, e2, Lib.uvarint_small]
end Go.Proofs.Ytcjekbncllccbaa
namespace Go.Proofs.Ytcjekbncllccbaa
open Go.RowKit
def same (xs ys : List Int) : Bool := decide (xs = ys)
theorem same_len {xs ys : List Int} (h : xs.length ≠ ys.length) : false = same xs ys := by unfold same; symm; rw [decide_eq_false_iff_not]; rintro rfl; exact h rfl
theorem same_no {xs ys : List Int} {k : Nat} {x y : Int} (hx : xs[k]? = some x) (hy : ys[k]? = some y) (h : ¬ x = y) : false = same xs ys := by
  unfold same; symm; rw [decide_eq_false_iff_not]; rintro rfl; rw [hx] at hy; injection hy with e; exact h e
theorem same_yes {xs ys : List Int} (h : xs = ys) : true = same xs ys := by unfold same; symm; rw [decide_eq_true_eq]; exact h
set_option maxHeartbeats 400000 in
theorem same_any (a b : Value) (xs ys : List Int) (w : World) (ha : Sl w 1 a xs.length (ints xs)) (hb : Sl w 1 b ys.length (ints ys)) :
    Calls Try.prog 8 #[a, b] w (QuietB w (same xs ys)) := by
  obtain ⟨A, c, rfl, hc1, hc2⟩ := ha.form
  obtain ⟨A', c', rfl, hc1', hc2'⟩ := hb.form
  unfold maxLen at hc2 hc2'
  by_cases hl : xs.length = ys.length
  · have hne : ((xs.length : Int) != (ys.length : Int)) = false := by simp; omega
    have HL := Lib.hid hl
    clear hl
    go_enter Try.func8, Try.ntmps8
    go_wp2
    go_loopw [13] (fun i wr => ∃ (k : Nat), k ≤ xs.length ∧ i = .int .i64 k ∧ (∃ m, wr = w.drewN m) ∧ Pre xs ys k)
      (fun i _ => xs.length - (intOf i).toNat)
    case atStart => exact ⟨0, by omega, rfl, ⟨0, rfl⟩, Pre.zero _ _⟩
    case round =>
      obtain ⟨k, hk, rfl, ⟨m, rfl⟩, hall⟩ := hrel
      by_cases hlt : k < xs.length
      · obtain ⟨ad, x, rfl, hx, hcx⟩ := ha.int_at hlt
        have hlt' : k < ys.length := by rw [← HL.out]; exact hlt
        obtain ⟨bd, y, rfl, hy, hcy⟩ := hb.int_at hlt'
        have Hx := Lib.hid hx
        have Hy := Lib.hid hy
        clear hx hy
        by_cases he : x = y
        · have hne2 : (x != y) = false := by simp [he]
          have HE := Lib.hid he
          clear he
          go_wp2
          go_quiet (fail)
          go_wp2
          go_roundw
          case rel => exact ⟨k + 1, by omega, by go_num, ⟨_, rfl⟩, hall.next (by rw [Hx.out, Hy.out, HE.out])⟩
          case measure => simp [intOf]; omega
        · have hne2 : (x != y) = true := by simp [he]
          go_wp2
          go_quiet (fail)
          go_wp2
          go_ret
          rw [World.drewN_drewN]
          exact QuietB.mk_ _ (same_no Hx.out Hy.out he)
      · go_wp2
        go_ret
        exact QuietB.mk_ _ (same_yes (Pre.all HL.out (by rw [show xs.length = k from by omega]; exact hall)))
  · have hne : ((xs.length : Int) != (ys.length : Int)) = true := by simp; omega
    go_enter Try.func8, Try.ntmps8
    go_wp2
    go_ret
    exact QuietB.mk0 (same_len hl)
/-- The values vs are slices that read as gs. -/
structure RL (w : World) (vs : List Value) (gs : List (List Int)) : Prop where
  len : vs.length = gs.length
  rows : ∀ (j : Nat) (u : Value) (g : List Int), vs[j]? = some u → gs[j]? = some g → Sl w 1 u g.length (ints g)
theorem LL.rl {w : World} {base : Nat} {e : TypeId} {vs : List Value} {gs : List (List Int)} (h : LL w base e vs gs) : RL w vs gs := ⟨h.len, fun j u g hu hg => Sl.of_own (h.rows j u g hu hg)⟩
theorem RL.below {w w' : World} {vs : List Value} {gs : List (List Int)} (h : RL w vs gs) (hb : Below w.heap.size w w') : RL w' vs gs := ⟨h.len, fun j u g hu hg => (h.rows j u g hu hg).below hb⟩
theorem RL.drewN {w : World} {vs : List Value} {gs : List (List Int)} (h : RL w vs gs) (n : Nat) : RL (w.drewN n) vs gs := ⟨h.len, fun j u g hu hg => h.rows j u g hu hg⟩
def sameL (xs ys : List (List Int)) : Bool := decide (xs = ys)
theorem sameL_len {xs ys : List (List Int)} (h : xs.length ≠ ys.length) : false = sameL xs ys := by unfold sameL; symm; rw [decide_eq_false_iff_not]; rintro rfl; exact h rfl
theorem sameL_no {xs ys : List (List Int)} {k : Nat} {x y : List Int} (hx : xs[k]? = some x) (hy : ys[k]? = some y) (h : same x y = false) : false = sameL xs ys := by
  unfold sameL; symm; rw [decide_eq_false_iff_not]; rintro rfl; rw [hx] at hy; injection hy with e; unfold same at h; rw [decide_eq_false_iff_not] at h; exact h e
theorem sameL_yes {xs ys : List (List Int)} (h : xs = ys) : true = sameL xs ys := by unfold sameL; symm; rw [decide_eq_true_eq]; exact h
theorem same_iff {xs ys : List Int} (h : same xs ys = true) : xs = ys := by unfold same at h; rwa [decide_eq_true_eq] at h
theorem RL.at_ {w : World} {A : Option Addr} {c k : Nat} {vs : List Value} {gs : List (List Int)} {n : Nat} (h : RL w vs gs) (hs : Sl w 1 (.slice A n c) n vs) (hk : k < n) (hn : n = gs.length) : ∃ ad u g, A = some ad ∧ gs[k]? = some g ∧ w.cell? (ad.add k) = some u ∧ Sl w 1 u g.length (ints g) := by
  obtain ⟨ad, u, e, _, hu, hc⟩ := hs.at_ hk
  have hg : gs[k]? = some (gs[k]'(by omega)) := List.getElem?_eq_getElem (by omega)
  exact ⟨ad, u, _, e, hg, hc, h.rows k u _ hu hg⟩
end Go.Proofs.Ytcjekbncllccbaa
namespace Go.Proofs.Ytcjekbncllccbaa
open Go.RowKit
structure Rk where
  null : Bool
  n : Int
  s : ByteArray
  seq : Int
structure Ent where
  id : Int
  rows : Int
  live : Int
  lo : Rk
  hi : Rk
  del : Int
/-- The numbers are integers of 64 bits, the strings are not too long. -/
def Rk.wf (r : Rk) : Prop := -9223372036854775808 ≤ r.n ∧ r.n ≤ 9223372036854775807 ∧ -9223372036854775808 ≤ r.seq ∧ r.seq ≤ 9223372036854775807 ∧ r.s.size ≤ 9223372036854775807
def i64ok (n : Int) : Prop := -9223372036854775808 ≤ n ∧ n ≤ 9223372036854775807
def Ent.wf (e : Ent) : Prop := i64ok e.id ∧ i64ok e.rows ∧ i64ok e.live ∧ e.lo.wf ∧ e.hi.wf ∧ i64ok e.del
def Rk.cells (r : Rk) : List Value := [.bool r.null, .int .i64 r.n, .string r.s, .int .i64 r.seq]
def Ent.cells (e : Ent) : List Value :=
  [.int .i64 e.id, .int .i64 e.rows, .int .i64 e.live, .bool e.lo.null, .int .i64 e.lo.n, .string e.lo.s, .int .i64 e.lo.seq, .bool e.hi.null, .int .i64 e.hi.n, .string e.hi.s, .int .i64 e.hi.seq, .int .i64 e.del]
theorem Ent.cells_length (e : Ent) : e.cells.length = 12 := rfl
def ents (l : List Ent) : List Value := l.flatMap Ent.cells
theorem ents_length (l : List Ent) : (ents l).length = l.length * 12 := by
  induction l with
  | nil => rfl
  | cons e r ih => simp only [ents, List.flatMap_cons, List.length_append, Ent.cells_length, List.length_cons] at ih ⊢; omega
theorem ents_nil : ents [] = [] := rfl
theorem ents_cons (e : Ent) (l : List Ent) : ents (e :: l) = e.cells ++ ents l := rfl
theorem ents_append (a b : List Ent) : ents (a ++ b) = ents a ++ ents b := by simp [ents]
theorem ents_snoc (a : List Ent) (e : Ent) : ents (a ++ [e]) = ents a ++ e.cells := by simp [ents]
theorem ents_get {l : List Ent} {k j : Nat} {e : Ent} (h : l[k]? = some e) (hj : j < 12) : (ents l)[k * 12 + j]? = e.cells[j]? := by
  induction l generalizing k with
  | nil => simp at h
  | cons x r ih =>
    rw [ents_cons]
    cases k with
    | zero =>
      simp at h; subst h
      rw [List.getElem?_append_left (by rw [Ent.cells_length]; omega)]; simp
    | succ k =>
      rw [List.getElem?_append_right (by rw [Ent.cells_length]; omega), Ent.cells_length, show (k + 1) * 12 + j - 12 = k * 12 + j by omega]
      exact ih (by simpa using h)

/-- A valid rank; a valid entry. -/
def Rk.okB (r : Rk) : Bool := (if r.null then decide (r.n = 0) && decide (r.s.size = 0) else decide (r.s.size ≤ 64)) && (decide (0 ≤ r.seq) && decide (r.seq ≤ 1099511627776))
def Ent.okB (e : Ent) : Bool :=
  (decide (1 ≤ e.id) && decide (e.id ≤ 2147483647)) && (decide (1 ≤ e.rows) && decide (e.rows ≤ 1024)) && (decide (1 ≤ e.live) && decide (e.live ≤ e.rows)) && e.lo.okB && e.hi.okB && (decide (0 ≤ e.del) && decide (e.del ≤ 2147483647))
/-- f holds at every number below k. -/
def allTo (f : Nat → Bool) : Nat → Bool
  | 0 => true
  | k + 1 => allTo f k && f k
theorem allTo_true {f : Nat → Bool} {n : Nat} : allTo f n = true ↔ ∀ k, k < n → f k = true := by
  induction n with
  | zero => simp [allTo]
  | succ n ih =>
    simp only [allTo, Bool.and_eq_true, ih]
    constructor
    · intro ⟨h, h'⟩ k hk
      by_cases e : k = n
      · subst e; exact h'
      · exact h k (by omega)
    · intro h; exact ⟨fun k hk => h k (by omega), h n (by omega)⟩
theorem allTo_false {f : Nat → Bool} {n k : Nat} (hk : k < n) (h : f k = false) : allTo f n = false := by
  rw [← Bool.not_eq_true, allTo_true]
  intro h'; rw [h' k hk] at h; cases h
theorem allTo_and (f g : Nat → Bool) (n : Nat) : allTo (fun k => f k && g k) n = (allTo f n && allTo g n) := by
  induction n with
  | zero => rfl
  | succ n ih => simp only [allTo, ih]; cases allTo f n <;> cases allTo g n <;> cases f n <;> cases g n <;> rfl
theorem allTo_congr {f g : Nat → Bool} {n : Nat} (h : ∀ k, k < n → f k = g k) : allTo f n = allTo g n := by
  induction n with
  | zero => rfl
  | succ n ih => simp only [allTo]; rw [ih (fun k hk => h k (by omega)), h n (by omega)]
/-- The number of the entry ahead of place k lies below that of the entry there. -/
def ascAt (l : List Ent) (k : Nat) : Bool :=
  match k with
  | 0 => true
  | j + 1 => match l[j]?, l[j + 1]? with
    | some a, some b => decide (a.id < b.id)
    | _, _ => true
def okAt (l : List Ent) (k : Nat) : Bool := (match l[k]? with | some e => e.okB | none => true) && ascAt l k
def Ent.underB (e : Ent) (q n : Int) : Bool := decide (e.id < n) && decide (e.del < n) && decide (e.lo.seq < q) && decide (e.hi.seq < q)
def underAt (q n : Int) (l : List Ent) (k : Nat) : Bool := match l[k]? with | some e => e.underB q n | none => true
def entsB (l : List Ent) : Bool := allTo (okAt l) l.length
/-- A valid version. -/
def headB (v q n : Int) (len : Nat) : Bool :=
  decide (0 ≤ v) && decide (v ≤ 2147483647) && decide (0 ≤ q) && decide (q ≤ 1099511627777) && decide (1 ≤ n) && decide (n ≤ 2147483647) && decide (len ≤ 256)
def snapB (v q n : Int) (l : List Ent) : Bool := headB v q n l.length && entsB l && allTo (underAt q n l) l.length
theorem okAt_get {l : List Ent} {k : Nat} {e : Ent} (h : l[k]? = some e) : okAt l k = (e.okB && ascAt l k) := by unfold okAt; rw [h]
theorem underAt_get {q n : Int} {l : List Ent} {k : Nat} {e : Ent} (h : l[k]? = some e) : underAt q n l k = e.underB q n := by unfold underAt; rw [h]
theorem ascAt_zero (l : List Ent) : ascAt l 0 = true := rfl
theorem ascAt_succ {l : List Ent} {k : Nat} {a b : Ent} (ha : l[k]? = some a) (hb : l[k + 1]? = some b) : ascAt l (k + 1) = decide (a.id < b.id) := by
  unfold ascAt; simp only [ha, hb]
end Go.Proofs.Ytcjekbncllccbaa
namespace Go.Proofs.Ytcjekbncllccbaa
open Go.RowKit
def Rk.val (r : Rk) : Value := .agg #[.bool r.null, .int .i64 r.n, .string r.s, .int .i64 r.seq]
def Ent.val (e : Ent) : Value := .agg #[.int .i64 e.id, .int .i64 e.rows, .int .i64 e.live, .bool e.lo.null, .int .i64 e.lo.n, .string e.lo.s, .int .i64 e.lo.seq, .bool e.hi.null, .int .i64 e.hi.n, .string e.hi.s, .int .i64 e.hi.seq, .int .i64 e.del]
def objB (n : Int) : Bool := decide (1 ≤ n) && decide (n ≤ 2147483647)
def plainB (b : Bool) (n : Int) (s : ByteArray) : Bool := if b then decide (n = 0) && decide (s.size = 0) else decide (s.size ≤ 64)
def inB (n lo hi : Int) : Bool := decide (lo ≤ n) && decide (n ≤ hi)
theorem object_any (n : Int) (w : World) : Calls Try.prog 64 #[.int .i64 n] w fun e w' => e = .returned (.bool (objB n)) ∧ w = w' := by
  by_cases h1 : 1 ≤ n
  · by_cases h2 : n ≤ 2147483647
    · go_enter Try.func64, Try.ntmps64
      go_wp2
      go_ret
      exact ⟨ret_bool (by simp [objB, h1, h2]), rfl⟩
    · go_enter Try.func64, Try.ntmps64
      go_wp2
      go_ret
      exact ⟨ret_bool (by simp [objB, h1, h2]), rfl⟩
  · go_enter Try.func64, Try.ntmps64
    go_wp2
    go_ret
    exact ⟨ret_bool (by simp [objB]; omega), rfl⟩
theorem in_any (n lo hi : Int) (w : World) : Calls Try.prog 90 #[.int .i64 n, .int .i64 lo, .int .i64 hi] w fun e w' => e = .returned (.bool (inB n lo hi)) ∧ w = w' := by
  by_cases h1 : lo ≤ n
  · by_cases h2 : n ≤ hi
    · go_enter Try.func90, Try.ntmps90
      go_wp2
      go_ret
      exact ⟨ret_bool (by simp [inB, h1, h2]), rfl⟩
    · go_enter Try.func90, Try.ntmps90
      go_wp2
      go_ret
      exact ⟨ret_bool (by simp [inB, h1, h2]), rfl⟩
  · go_enter Try.func90, Try.ntmps90
    go_wp2
    go_ret
    exact ⟨ret_bool (by simp [inB]; omega), rfl⟩
theorem nil_size (s : ByteArray) : s.toList = [] ↔ s.size = 0 := by
  rw [Go.ByteArray.toList_eq, ← List.length_eq_zero_iff, size_data]
theorem abel (w : World) (o : Obj) : Below w.heap.size w (w.alloc o) := (Below.refl _ _).alloc (Nat.le_refl _) _
theorem abel2 (w : World) (o p : Obj) : Below w.heap.size w ((w.alloc o).alloc p) := (abel w o).alloc (by simp) _
set_option maxHeartbeats 1000000 in
theorem plain_any (b : Bool) (n : Int) (s : ByteArray) (w : World) (hs : s.size ≤ 9223372036854775807) : Calls Try.prog 92 #[.agg #[.bool b, .int .i64 n, .string s]] w (RetB1' w (plainB b n s)) := by
  cases b
  · by_cases h : s.size ≤ 64
    · go_enter Try.func92, Try.ntmps92
      go_wp2
      go_ret
      exact ⟨ret_bool (by simp [plainB]; omega), abel _ _⟩
    · go_enter Try.func92, Try.ntmps92
      go_wp2
      go_ret
      exact ⟨ret_bool (by simp [plainB]; omega), abel _ _⟩
  · have HN := Lib.hid (nil_size s)
    go_enter Try.func92, Try.ntmps92
    go_wp2
    all_goals
      go_ret
      refine ⟨ret_bool ?_, abel _ _⟩
      simp [plainB, ← HN.out, *]
      try (cases s.toList <;> simp)
set_option maxHeartbeats 1000000 in
theorem rplain_any (r : Rk) (w : World) (hs : r.s.size ≤ 9223372036854775807) : Calls Try.prog 91 #[r.val] w (RetB1' w r.okB) := by
  obtain ⟨b, n, s, q⟩ := r
  have HN := Lib.hid (nil_size s)
  change Calls _ _ #[.agg #[.bool b, .int .i64 n, .string s, .int .i64 q]] w _
  by_cases h1 : 0 ≤ q
  · by_cases h2 : q ≤ 1099511627776
    · cases b
      · by_cases h : s.size ≤ 64
        all_goals
          go_enter Try.func91, Try.ntmps91
          go_wp2
          go_ret
          exact ⟨ret_bool (by simp [Rk.okB, h1, h2]; omega), abel2 _ _ _⟩
      · go_enter Try.func91, Try.ntmps91
        go_wp2
        all_goals
          go_ret
          refine ⟨ret_bool ?_, abel2 _ _ _⟩
          simp [Rk.okB, ← HN.out, *]
          try (cases s.toList <;> simp)
    · go_enter Try.func91, Try.ntmps91
      go_wp2
      go_ret
      exact ⟨ret_bool (by simp [Rk.okB]; omega), abel2 _ _ _⟩
  · go_enter Try.func91, Try.ntmps91
    go_wp2
    go_ret
    exact ⟨ret_bool (by simp [Rk.okB]; omega), abel2 _ _ _⟩
theorem Rk.okB_plain (r : Rk) : r.okB = (plainB r.null r.n r.s && (decide (0 ≤ r.seq) && decide (r.seq ≤ 1099511627776))) := rfl
set_option maxHeartbeats 1000000 in
theorem rank_any (b : Bool) (n : Int) (s : ByteArray) (q : Int) (w : World) (hs : s.size ≤ 9223372036854775807) : Calls Try.prog 65 #[.agg #[.bool b, .int .i64 n, .string s, .int .i64 q]] w (RetB1' w (Rk.okB ⟨b, n, s, q⟩)) := by
  have H := Lib.hid (Rk.okB_plain ⟨b, n, s, q⟩)
  have HP := Lib.hid (fun X => plain_any b n s X hs)
  have HO := Lib.hid (abel w (.cells #[.bool b, .int .i64 n, .string s, .int .i64 q] 37))
  go_enter Try.func65, Try.ntmps65
  go_wp2_with fail
  refine (HP.out _).mono ?_
  rintro _ w1 ⟨rfl, hb1⟩
  have c3 : w1.cell? ⟨w.heap.size, 3, none⟩ = some (.int .i64 q) := (hb1.cell (p := ⟨w.heap.size, 3, none⟩) (by simp)).trans (by simp)
  have HB := Lib.hid hb1
  clear hb1
  go_wp2
  all_goals
    go_ret
    exact ⟨ret_bool (by rw [H.out]; simp [*] <;> omega), bst HO.out HB.out⟩
theorem rplain_any' (b : Bool) (n : Int) (s : ByteArray) (q : Int) (w : World) (hs : s.size ≤ 9223372036854775807) : Calls Try.prog 91 #[.agg #[.bool b, .int .i64 n, .string s, .int .i64 q]] w (RetB1' w (Rk.okB ⟨b, n, s, q⟩)) := rplain_any ⟨b, n, s, q⟩ w hs
theorem Ent.okB_prog (e : Ent) : e.okB = (objB e.id && decide (1 ≤ e.rows) && decide (e.rows ≤ 1024) && decide (1 ≤ e.live) && decide (e.live ≤ e.rows) && e.lo.okB && e.hi.okB && (decide (e.del = 0) || objB e.del)) := by
  have h : (decide (e.del = 0) || objB e.del) = (decide (0 ≤ e.del) && decide (e.del ≤ 2147483647)) := by
    unfold objB
    by_cases h0 : e.del = 0
    · simp [h0]
    · by_cases h1 : 0 ≤ e.del
      · simp [h0, h1]; omega
      · simp [h0, h1]; omega
  rw [h]; simp only [Ent.okB, objB, Bool.and_assoc]
theorem Ent.okB_ref (e : Ent) : e.okB = (inB e.id 1 2147483647 && inB e.rows 1 1024 && inB e.live 1 e.rows && e.lo.okB && e.hi.okB && inB e.del 0 2147483647) := by
  simp only [Ent.okB, inB, Bool.and_assoc]
set_option maxHeartbeats 4000000 in
theorem entry_any (e : Ent) (w : World) (h1 : e.lo.s.size ≤ 9223372036854775807) (h2 : e.hi.s.size ≤ 9223372036854775807) : Calls Try.prog 52 #[e.val] w (RetB1' w e.okB) := by
  have H := Lib.hid e.okB_prog
  obtain ⟨id, rows, live, ⟨ln, lx, ls, lq⟩, ⟨hn, hx, hs, hq⟩, del⟩ := e
  change Calls _ _ #[.agg #[.int .i64 id, .int .i64 rows, .int .i64 live, .bool ln, .int .i64 lx, .string ls, .int .i64 lq, .bool hn, .int .i64 hx, .string hs, .int .i64 hq, .int .i64 del]] w _
  have HL := Lib.hid (fun X => rank_any ln lx ls lq X h1)
  have HH := Lib.hid (fun X => rank_any hn hx hs hq X h2)
  have HO := Lib.hid (abel w (.cells #[.int .i64 id, .int .i64 rows, .int .i64 live, .bool ln, .int .i64 lx, .string ls, .int .i64 lq, .bool hn, .int .i64 hx, .string hs, .int .i64 hq, .int .i64 del] 41))
  go_enter Try.func52, Try.ntmps52
  go_wp2_with (first
    | (go_at_call 64; refine (object_any _ _).mono ?_; rintro _ _ ⟨rfl, rfl⟩)
    | (with_reducible refine (HL.out _).mono ?_
       rintro _ w1 ⟨rfl, hb1⟩
       obtain ⟨hc, hf⟩ := bcell hb1
       have hz : w.heap.size < w1.heap.size := by have := hb1.size; simp at this; omega
       have HB1 := Lib.hid hb1
       clear hb1)
    | (with_reducible refine (HH.out _).mono ?_
       rintro _ w2 ⟨rfl, hb2⟩
       obtain ⟨hc2, hf2⟩ := bcell hb2
       have HB2 := Lib.hid hb2
       clear hb2))
  all_goals
    go_ret
    refine ⟨ret_bool (by rw [H.out]; simp [*] <;> omega), ?_⟩
    first | exact bst (bst HO.out HB1.out) HB2.out | exact bst HO.out HB1.out | exact HO.out
set_option maxHeartbeats 4000000 in
theorem rentry_any (e : Ent) (w : World) (h1 : e.lo.s.size ≤ 9223372036854775807) (h2 : e.hi.s.size ≤ 9223372036854775807) : Calls Try.prog 62 #[e.val] w (RetB1' w e.okB) := by
  have H := Lib.hid e.okB_ref
  obtain ⟨id, rows, live, ⟨ln, lx, ls, lq⟩, ⟨hn, hx, hs, hq⟩, del⟩ := e
  change Calls _ _ #[.agg #[.int .i64 id, .int .i64 rows, .int .i64 live, .bool ln, .int .i64 lx, .string ls, .int .i64 lq, .bool hn, .int .i64 hx, .string hs, .int .i64 hq, .int .i64 del]] w _
  have HL := Lib.hid (fun X => rplain_any' ln lx ls lq X h1)
  have HH := Lib.hid (fun X => rplain_any' hn hx hs hq X h2)
  have HO := Lib.hid (abel w (.cells #[.int .i64 id, .int .i64 rows, .int .i64 live, .bool ln, .int .i64 lx, .string ls, .int .i64 lq, .bool hn, .int .i64 hx, .string hs, .int .i64 hq, .int .i64 del] 41))
  go_enter Try.func62, Try.ntmps62
  go_wp2_with (first
    | (go_at_call 90; refine (in_any _ _ _ _).mono ?_; rintro _ _ ⟨rfl, rfl⟩)
    | (with_reducible refine (HL.out _).mono ?_
       rintro _ w1 ⟨rfl, hb1⟩
       obtain ⟨hc, hf⟩ := bcell hb1
       have hz : w.heap.size < w1.heap.size := by have := hb1.size; simp at this; omega
       have HB1 := Lib.hid hb1
       clear hb1)
    | (with_reducible refine (HH.out _).mono ?_
       rintro _ w2 ⟨rfl, hb2⟩
       obtain ⟨hc2, hf2⟩ := bcell hb2
       have HB2 := Lib.hid hb2
       clear hb2))
  all_goals
    go_ret
    refine ⟨ret_bool (by rw [H.out]; simp [*] <;> omega), ?_⟩
    first | exact bst (bst HO.out HB1.out) HB2.out | exact bst HO.out HB1.out | exact HO.out
end Go.Proofs.Ytcjekbncllccbaa
namespace Go.Proofs.Ytcjekbncllccbaa
open Go.RowKit
def Blk (w : World) (g : Nat) (t : TypeId) (cs : Array Value) : Prop := w.heap[g]? = some (.cells cs t (0, 0))
section
variable {w w' : World} {g : Nat} {t : TypeId} {cs : Array Value}
theorem Blk.lt (h : Blk w g t cs) : g < w.heap.size := by
  rcases Nat.lt_or_ge g w.heap.size with hlt | hge
  · exact hlt
  · unfold Blk at h; rw [Array.getElem?_eq_none hge] at h; cases h
theorem Blk.cell (h : Blk w g t cs) (i : Nat) : w.cell? ⟨g, i, none⟩ = cs[i]? := cell_of_row w g i cs t (0, 0) h
theorem Blk.frozen (h : Blk w g t cs) (i : Nat) : w.frozen? ⟨g, i, none⟩ = false := by
  unfold Blk at h
  simp [World.frozen?, h]
theorem Blk.new (w : World) (t : TypeId) (cs : Array Value) : Blk (w.alloc (.cells cs t)) w.heap.size t cs := heap_alloc_new w _
theorem Blk.drewN (h : Blk w g t cs) (n : Nat) : Blk (w.drewN n) g t cs := h
theorem Blk.alloc (h : Blk w g t cs) (o : Obj) : Blk (w.alloc o) g t cs := (Below.heap_alloc w o g h.lt).trans h
theorem Blk.set_ (h : Blk w g t cs) (i : Nat) (u : Value) : Blk (w.setCell ⟨g, i, none⟩ u) g t (cs.setIfInBounds i u) := by
  unfold Blk at h ⊢
  simp [World.setCell, Array.getElem?_modify, h]
theorem Blk.far (h : Blk w g t cs) {p : Addr} (hp : g ≠ p.block) (u : Value) : Blk (w.setCell p u) g t cs := (Below.heap_setCell w p u g hp).trans h
theorem Blk.below {B : Nat} (h : Blk w g t cs) (hb : Below B w w') (hg : g < B) : Blk w' g t cs := (hb.block g hg).trans h
theorem Blk.grown {row : Option Nat} (h : Blk w g t cs) (hb : w.grownBy w' row) (hg : row ≠ some g) : Blk w' g t cs := (hb.block g h.lt (Ne.symm hg)).trans h
theorem own_blk_ne {base : Nat} {e : TypeId} {size n : Nat} {v : Value} {xs : List Value} (h : w.ownsRow base e size v n xs) (hg : Blk w g t cs) (hne : e ≠ t) : v.ownBlock ≠ some g := by
  rcases h.2 with ⟨rfl, _⟩ | ⟨g', cap, cur, rfl, _, hh, _⟩
  · simp [Value.ownBlock]
  · intro he
    have : g' = g := by simpa [Value.ownBlock] using he
    subst this
    unfold Blk at hg
    rw [hh] at hg
    injection hg with hg
    injection hg with _ ht
    exact hne ht
end

/-- Block g is a source of type t over integers that lie below block B; rest: those that are left. -/
def Src (w : World) (B : Nat) (t : TypeId) (g : Nat) (rest : List Int) : Prop :=
  ∃ (A : Option Addr) (c : Nat) (zs : List Int) (i : Nat) (w0 : World), Blk w g t #[.slice A zs.length c, .int .i64 i] ∧ Sl w0 1 (.slice A zs.length c) zs.length (ints zs) ∧ w0.heap.size = B ∧ Below B w0 w ∧ B ≤ g ∧ i ≤ zs.length ∧ rest = zs.drop i ∧ zs.length ≤ 9223372036854775807 ∧ (∀ x ∈ rest, -9223372036854775808 ≤ x ∧ x ≤ 9223372036854775807)

/-- Only block g, and what is new, has turned. -/
def Only (g : Nat) (w w' : World) : Prop := w.grownBy w' (some g)
/-- A raw choice. -/
def raw (l : List Int) : Int := l.headD 0
section
variable {w w' w'' : World} {B g : Nat} {t : TypeId} {rest : List Int}
theorem Only.refl (g : Nat) (w : World) : Only g w w := World.grownBy.refl _ _
theorem Only.trans (h : Only g w w') (k : Only g w' w'') : Only g w w'' := grown_trans' h k
theorem Only.of_below (h : Below w.heap.size w w') : Only g w w' := ⟨h.os, h.tape, h.output, h.size, fun i hi _ => h.block i hi⟩
theorem Only.drewN (h : Only g w w') (_n : Nat) : Only g w (w'.drewN _n) := ⟨h.os, h.tape, h.output, h.size, h.block⟩
theorem Only.alloc (h : Only g w w') (o : Obj) : Only g w (w'.alloc o) := h.trans (World.grownBy_alloc _ _ _)
theorem Only.set_ (h : Only g w w') (i : Nat) (u : Value) : Only g w (w'.setCell ⟨g, i, none⟩ u) :=
  ⟨h.os, h.tape, h.output, by simpa [World.setCell] using h.size, fun k hk hne => (Below.heap_setCell w' _ u k (by rintro rfl; exact hne rfl)).trans (h.block k hk hne)⟩
/-- A write to a block of the call's own, or to g. -/
theorem Only.grown {row : Option Nat} (h : Only g w w') (hg : w'.grownBy w'' row) (hr : ∀ k, row = some k → w.heap.size ≤ k ∨ k = g) : Only g w w'' :=
  ⟨hg.os.trans h.os, hg.tape.trans h.tape, hg.output.trans h.output, Nat.le_trans h.size hg.size, fun i hi hne => (hg.block i (Nat.lt_of_lt_of_le hi h.size) (fun e => by
    rcases hr i e.symm with hk | hk
    · omega
    · subst hk; exact hne rfl)).trans (h.block i hi hne)⟩
theorem Only.below (h : Only g w w') {b : Nat} (hb : b ≤ g) (hs : b ≤ w.heap.size) : Below b w w' := ⟨h.os, h.tape, h.output, h.size, fun i hi => h.block i (by omega) (by intro e; injection e; omega)⟩

theorem Src.lt (h : Src w B t g rest) : g < w.heap.size := by obtain ⟨A, c, zs, i, w0, hb, _⟩ := h; exact hb.lt
theorem Src.ge (h : Src w B t g rest) : B ≤ g := by obtain ⟨A, c, zs, i, w0, hb, _, _, _, hg, _⟩ := h; exact hg
theorem Src.drewN (h : Src w B t g rest) (n : Nat) : Src (w.drewN n) B t g rest := by
  obtain ⟨A, c, zs, i, w0, hb, hs, h0, hbel, r⟩ := h
  exact ⟨A, c, zs, i, w0, hb, hs, h0, below_drewN hbel n, r⟩
theorem Src.grown {row : Option Nat} (h : Src w B t g rest) (hg : w.grownBy w' row) (hne : row ≠ some g) (hr : ∀ k, row = some k → B ≤ k) : Src w' B t g rest := by
  obtain ⟨A, c, zs, i, w0, hb, hs, h0, hbel, hB, r⟩ := h
  exact ⟨A, c, zs, i, w0, hb.grown hg hne, hs, h0, hbel.grown hg (by have := hb.lt; omega) hr, hB, r⟩
theorem Src.below (h : Src w B t g rest) (hb : Below w.heap.size w w') : Src w' B t g rest :=
  h.grown (row := none) ⟨hb.os, hb.tape, hb.output, hb.size, fun i hi _ => hb.block i hi⟩ (by simp) (by simp)
theorem Src.alloc (h : Src w B t g rest) (o : Obj) : Src (w.alloc o) B t g rest := h.grown (World.grownBy_alloc w o none) (by simp) (by simp)
theorem Src.new {zs : List Int} {A : Option Addr} {c : Nat} (hs : Sl w 1 (.slice A zs.length c) zs.length (ints zs)) (hl : zs.length ≤ 9223372036854775807) (hr : ∀ x ∈ zs, -9223372036854775808 ≤ x ∧ x ≤ 9223372036854775807) : Src (w.alloc (.cells #[.slice A zs.length c, .int .i64 0] t)) w.heap.size t w.heap.size zs :=
  ⟨A, c, zs, 0, w, Blk.new _ _ _, hs, rfl, (Below.refl _ _).alloc (Nat.le_refl _) _, Nat.le_refl _, by omega, rfl, hl, hr⟩
theorem Src.stepped {A : Option Addr} {c : Nat} {zs : List Int} {i : Nat} {w0 : World} (hb : Blk w g t #[.slice A zs.length c, .int .i64 i]) (hs : Sl w0 1 (.slice A zs.length c) zs.length (ints zs)) (h0 : w0.heap.size = B) (hbel : Below B w0 w) (hg : B ≤ g) (hi : i < zs.length) (hl : zs.length ≤ 9223372036854775807) (hr : ∀ x ∈ zs.drop i, -9223372036854775808 ≤ x ∧ x ≤ 9223372036854775807) :
    Src (w.setCell ⟨g, 1, none⟩ (.int .i64 ((i : Int) + 1))) B t g (zs.drop i).tail := by
  refine ⟨A, c, zs, i + 1, w0, ?_, hs, h0, hbel.setCell hg _, hg, by omega, by simp, hl, fun x hx => hr x (List.mem_of_mem_tail hx)⟩
  have := hb.set_ 1 (.int .i64 ((i + 1 : Nat) : Int))
  simpa using this
end

theorem Src.raw_bd {w : World} {B g : Nat} {t : TypeId} {rest : List Int} (h : Src w B t g rest) : -9223372036854775808 ≤ raw rest ∧ raw rest ≤ 9223372036854775807 := by
  obtain ⟨A, c, zs, i, w0, _, _, _, _, _, _, _, _, hr⟩ := h
  cases rest with
  | nil => simp [raw]
  | cons x r => exact hr x (by simp)
theorem Src.own_ne {w : World} {B g : Nat} {t : TypeId} {rest : List Int} {base : Nat} {e : TypeId} {size n : Nat} {v : Value} {xs : List Value} (h : Src w B t g rest) (ho : w.ownsRow base e size v n xs) (hne : e ≠ t) : v.ownBlock ≠ some g := by
  obtain ⟨A, c, zs, i, w0, hb, _⟩ := h
  exact own_blk_ne ho hb hne
/-- What is owned stays owned while a source is used. -/
theorem own_only {w w' : World} {B g : Nat} {t : TypeId} {rest : List Int} {base : Nat} {e : TypeId} {size n : Nat} {v : Value} {xs : List Value} (ho : w.ownsRow base e size v n xs) (h : Src w B t g rest) (hne : e ≠ t) (hg : Only g w w') : w'.ownsRow base e size v n xs :=
  own_grown ho hg (fun k hk e' => h.own_ne ho hne (by rw [hk, ← e']))
theorem below_only {B g : Nat} {a w w' : World} (h : Below B a w) (hg : Only g w w') (hB : B ≤ g) (hs : B ≤ w.heap.size) : Below B a w' := h.grown hg hs (fun k hk => by injection hk; omega)

theorem grownBy_set (w : World) (p : Addr) (u : Value) : w.grownBy (w.setCell p u) (some p.block) :=
  ⟨rfl, rfl, rfl, by simp [World.setCell], fun k _ hne => Below.heap_setCell w p u k (by rintro rfl; exact hne rfl)⟩
/-- A write to a block that the call itself has made. -/
theorem Only.setNew {g : Nat} {w w' : World} (h : Only g w w') {p : Addr} (hp : w.heap.size ≤ p.block) (u : Value) : Only g w (w'.setCell p u) :=
  h.grown (grownBy_set w' p u) (fun k hk => by injection hk with hk; exact .inl (by omega))
theorem Src.set_ {w : World} {B g : Nat} {t : TypeId} {rest : List Int} (h : Src w B t g rest) {p : Addr} (hp : p.block ≠ g) (hB : B ≤ p.block) (u : Value) : Src (w.setCell p u) B t g rest :=
  h.grown (grownBy_set w p u) (by intro e; injection e with e; exact hp e) (fun k hk => by injection hk with hk; omega)

/-- The next choice out of a source. -/
def nxt (m : Int) : List Int → Int
  | [] => 0
  | x :: _ => (x % 18446744073709551616) % m
theorem nxt_lo (m : Int) (l : List Int) (h : 0 < m) : 0 ≤ nxt m l := by
  cases l with
  | nil => simp [nxt]
  | cons x r => exact Int.emod_nonneg _ (by omega)
theorem nxt_hi (m : Int) (l : List Int) (h : 0 < m) : nxt m l < m := by
  cases l with
  | nil => simpa [nxt] using h
  | cons x r => exact Int.emod_lt_of_pos _ h
end Go.Proofs.Ytcjekbncllccbaa
namespace Go.Proofs.Ytcjekbncllccbaa
open Go.RowKit
def Got (p : Bool) (u v : Value) : Prop := p = true → u = v
def GotRow (p : Bool) (N : Nat) (u : Value) (n : Nat) (T : TypeId) (cs : Array Value) (w : World) : Prop := p = true → ∃ A, u = .slice (some ⟨A, 0, none⟩) n n ∧ N ≤ A ∧ Blk w A T cs
def GotPtr (p : Bool) (N : Nat) (u : Value) (k : Nat) (T : TypeId) (cs : Array Value) (w : World) : Prop := p = true → ∃ A, u = .pointer (some ⟨A, k, none⟩) ∧ N ≤ A ∧ Blk w A T cs
theorem GotRow.below {p : Bool} {N : Nat} {u : Value} {n : Nat} {T : TypeId} {cs : Array Value} {w w' : World} (h : GotRow p N u n T cs w) (hb : Below w.heap.size w w') : GotRow p N u n T cs w' := fun hp => by
  obtain ⟨A, e, hN, hB⟩ := h hp
  exact ⟨A, e, hN, hB.below hb hB.lt⟩
theorem GotPtr.below {p : Bool} {N : Nat} {u : Value} {k : Nat} {T : TypeId} {cs : Array Value} {w w' : World} (h : GotPtr p N u k T cs w) (hb : Below w.heap.size w w') : GotPtr p N u k T cs w' := fun hp => by
  obtain ⟨A, e, hN, hB⟩ := h hp
  exact ⟨A, e, hN, hB.below hb hB.lt⟩
theorem below_new (w : World) (o : Obj) : Below w.heap.size w (w.alloc o) := (Below.refl _ _).alloc (Nat.le_refl _) _
/-- The operation 'append(out, xs...)' alone: what it leaves. -/
theorem wp_app {P : Program} {w : World} {o : Oper} {a : Act} {K : Act → World → Prop} {Q : Exit → Act → World → Prop} (s x : Operand) {t e : TypeId} {z : Value} {size bytes base : Nat} {v u : Value} {n m : Nat} {xs news : List Value}
    (hown : w.ownsRow base e size v n xs) (hr : Sl w size u m news) (hbase : base ≤ w.heap.size)
    (ht : P.underlying t = some (.slice e)) (hinfo : (P.info? e).map (fun i => (i.zero, i.size, i.bytes)) = some (some z, size, bytes)) (hzs : z.cells.size = size) (hsz : 0 < size)
    (h1 : ∀ y ∈ news, y.oneCell' = true) (hbytes : (n + m) * bytes ≤ 140737488355328) (hnm : n + m < 140737488355328)
    (ho : o.op = .call { callee := .builtin .append, args := #[s, x], argTypes := #[t, t] }) (hs : a.eval s = v) (hx : a.eval x = u)
    (h : ∀ v' w', w'.ownsRow base e size v' (n + m) (xs ++ news) → w.grownBy w' v.ownBlock → (v'.ownBlock = v.ownBlock ∨ v'.ownBlock = some w.heap.size) → K (a.put o.dst v') w') :
    Oper.wp P o a w K Q := by
  obtain ⟨v', w', hrun, h2, h3, h4⟩ := run_append_sl (P := P) (ty := o.type) ht hinfo hzs hsz hown hr h1 (by unfold maxLen; omega) hbytes hbase
  unfold Oper.wp execOp
  simp only [ho, resolve, invoke, builtin, Sem.run_bind, Sem.run_pure, Result.andThen_ok, List.map_toArray, List.map_cons, List.map_nil, hs, hx, hrun]
  exact h v' w' h2 h3 h4
end Go.Proofs.Ytcjekbncllccbaa
namespace Go.Proofs.Ytcjekbncllccbaa
open Go.RowKit
def RetSrc (w : World) (zs : List Int) (e : Ending) (w' : World) : Prop :=
  ∃ g, e = .returned (.pointer (some ⟨g, 0, none⟩)) ∧ Below w.heap.size w w' ∧ Src w' w.heap.size 86 g zs
set_option maxHeartbeats 400000 in
theorem from_any (v : Value) (zs : List Int) (w : World) (hs : Sl w 1 v zs.length (ints zs)) (hl : zs.length ≤ 9223372036854775807) (hr : ∀ x ∈ zs, -9223372036854775808 ≤ x ∧ x ≤ 9223372036854775807) :
    Calls Try.prog 40 #[v] w (RetSrc w zs) := by
  obtain ⟨A, c, rfl, _, _⟩ := hs.form
  have HR := Lib.hid hr
  clear hr
  go_enter Try.func40, Try.ntmps40
  go_wp2
  go_ret
  exact ⟨_, rfl, (Below.refl _ _).alloc (Nat.le_refl _) _, Src.new hs hl HR.out⟩
/-- A step of a source: the answer x, and what is left. -/
def RetNext (w : World) (B g : Nat) (x : Int) (rest : List Int) (e : Ending) (w' : World) : Prop := e = .returned (.int .i64 x) ∧ Only g w w' ∧ Src w' B 86 g rest
set_option maxHeartbeats 400000 in
theorem next_any (B g : Nat) (m : Int) (rest : List Int) (w : World) (hsrc : Src w B 86 g rest) (h0 : 0 < m) (h1 : m ≤ 4294967296) :
    Calls Try.prog 42 #[.pointer (some ⟨g, 0, none⟩), .int .i64 m] w (RetNext w B g (nxt m rest) rest.tail) := by
  obtain ⟨A, c, zs, i, w0, hb, hs, hB, hbel, hg, hi, rfl, hl, hr⟩ := hsrc
  have HR := Lib.hid hr
  clear hr
  obtain ⟨_, _, e, hc1, hc2⟩ := hs.form
  injection e with e1 e2 e3
  subst e1; subst e3
  clear e2
  have c0 : w.cell? ⟨g, 0, none⟩ = some (.slice A zs.length c) := hb.cell 0
  have c1 : w.cell? ⟨g, 1, none⟩ = some (.int .i64 i) := hb.cell 1
  have f1 : w.frozen? ⟨g, 1, none⟩ = false := hb.frozen 1
  have HB := Lib.hid hB
  clear hB
  by_cases hlt : i < zs.length
  · obtain ⟨ad, x, rfl, hx, hc⟩ := hs.int_at hlt
    obtain ⟨ad', _, e, hbl, _⟩ := hs.at_ hlt
    injection e with e
    subst e
    have hc' : w.cell? (ad.add i) = some (.int .i64 x) := (hbel.cell (p := ad.add i) (by rw [block_of_add, ← HB.out]; exact hbl)).trans hc
    have hd : zs.drop i = x :: zs.drop (i + 1) := by
      rw [List.drop_eq_getElem_cons hlt]; congr 1
      rw [List.getElem?_eq_getElem hlt] at hx; injection hx
    have HX := Lib.hid (show nxt m (zs.drop i) = pick x m by rw [hd]; rfl)
    have hne : ad.block ≠ g := by have := HB.out; omega
    have hgeq : decide ((zs.length : Int) ≤ (i : Int)) = false := by simp; omega
    clear hc hx hd
    go_enter Try.func42, Try.ntmps42
    go_wp2_with fail
    go_quiet (fail)
    go_wp2_with fail
    obtain ⟨X, hX⟩ : ∃ X : World, X = (w.drewN nq).setCell ⟨g, 1, none⟩ (.int .i64 ((i : Int) + 1)) := ⟨_, rfl⟩
    rw [← hX]
    have x0 : X.cell? ⟨g, 0, none⟩ = some (.slice (some ad) zs.length c) := by rw [hX, World.cell?_setCell_other _ _ _ _ (by simp)]; exact c0
    have x1 : X.cell? ⟨g, 1, none⟩ = some (.int .i64 ((i : Int) + 1)) := by
      rw [hX]; exact ((hb.drewN nq).set_ 1 (.int .i64 ((i : Int) + 1))).cell 1
    have x2 : X.cell? (ad.add i) = some (.int .i64 x) := by rw [hX, World.cell?_setCell_other _ _ _ _ (by intro e; first | exact hne ((block_of_add ad i).symm.trans (congrArg Addr.block e)) | exact hne ((block_of_add ad i).symm.trans (congrArg Addr.block e).symm))]; exact hc'
    have HS := Lib.hid (show Src X B 86 g (zs.drop i).tail by rw [hX]; exact Src.stepped (hb.drewN nq) hs HB.out (below_drewN hbel nq) hg hlt hl HR.out)
    have HO := Lib.hid (show Only g w X by rw [hX]; exact ((Only.refl g w).drewN nq).set_ _ _)
    have hk : (0 : Int) ≤ (i : Int) + 1 - 1 := by omega
    clear hX c0 c1 f1 hc' hb hbel hs
    go_quiet ((go_at_call 12; exact Calls.quiet_of_same ((pick_any _ _ _ h0 h1).mono fun _ _ h => ⟨h.1, h.2.symm⟩)))
    go_wp2
    go_ret
    exact ⟨ret_int HX.out.symm, HO.out.drewN _, HS.out.drewN _⟩
  · have hd : zs.drop i = [] := List.drop_eq_nil_of_le (by omega)
    have HS := Lib.hid (show Src w B 86 g (zs.drop i) from ⟨A, c, zs, i, w0, hb, hs, HB.out, hbel, hg, hi, rfl, hl, HR.out⟩)
    have HD := Lib.hid hd
    clear hd hb hs hbel
    go_enter Try.func42, Try.ntmps42
    go_wp2_with fail
    go_quiet (fail)
    go_wp2
    go_ret
    refine ⟨ret_int (by rw [HD.out]; rfl), (Only.refl g w).drewN _, ?_⟩
    rw [HD.out]
    have := HS.out.drewN nq
    rw [HD.out] at this
    exact this
end Go.Proofs.Ytcjekbncllccbaa
namespace Go.Proofs.Ytcjekbncllccbaa
open Go.RowKit
theorem blk8 {w : World} {A : Nat} {T : TypeId} {x0 x1 x2 x3 x4 x5 x6 x7 : Value} (a0 a1 a2 a3 a4 a5 a6 a7 : Value) (h : Blk w A T #[x0, x1, x2, x3, x4, x5, x6, x7]) :
    Blk ((((((((w.setCell ⟨A, 0, none⟩ a0).setCell ⟨A, 1, none⟩ a1).setCell ⟨A, 2, none⟩ a2).setCell ⟨A, 3, none⟩ a3).setCell ⟨A, 4, none⟩ a4).setCell ⟨A, 5, none⟩ a5).setCell ⟨A, 6, none⟩ a6).setCell ⟨A, 7, none⟩ a7) A T #[a0, a1, a2, a3, a4, a5, a6, a7] := by
  have h0 := h.set_ 0 a0
  simp only [List.setIfInBounds_toArray, List.set_cons_zero] at h0
  have h1 := h0.set_ 1 a1
  simp only [List.setIfInBounds_toArray, List.set_cons_zero, List.set_cons_succ] at h1
  have h2 := h1.set_ 2 a2
  simp only [List.setIfInBounds_toArray, List.set_cons_zero, List.set_cons_succ] at h2
  have h3 := h2.set_ 3 a3
  simp only [List.setIfInBounds_toArray, List.set_cons_zero, List.set_cons_succ] at h3
  have h4 := h3.set_ 4 a4
  simp only [List.setIfInBounds_toArray, List.set_cons_zero, List.set_cons_succ] at h4
  have h5 := h4.set_ 5 a5
  simp only [List.setIfInBounds_toArray, List.set_cons_zero, List.set_cons_succ] at h5
  have h6 := h5.set_ 6 a6
  simp only [List.setIfInBounds_toArray, List.set_cons_zero, List.set_cons_succ] at h6
  have h7 := h6.set_ 7 a7
  simp only [List.setIfInBounds_toArray, List.set_cons_zero, List.set_cons_succ] at h7
  exact h7
theorem grown8 (w : World) (A : Nat) (a0 a1 a2 a3 a4 a5 a6 a7 : Value) : w.grownBy ((((((((w.setCell ⟨A, 0, none⟩ a0).setCell ⟨A, 1, none⟩ a1).setCell ⟨A, 2, none⟩ a2).setCell ⟨A, 3, none⟩ a3).setCell ⟨A, 4, none⟩ a4).setCell ⟨A, 5, none⟩ a5).setCell ⟨A, 6, none⟩ a6).setCell ⟨A, 7, none⟩ a7) (some A) := grown_trans' (grown_trans' (grown_trans' (grown_trans' (grown_trans' (grown_trans' (grown_trans' (grownBy_set w ⟨A, 0, none⟩ a0) (grownBy_set _ ⟨A, 1, none⟩ a1)) (grownBy_set _ ⟨A, 2, none⟩ a2)) (grownBy_set _ ⟨A, 3, none⟩ a3)) (grownBy_set _ ⟨A, 4, none⟩ a4)) (grownBy_set _ ⟨A, 5, none⟩ a5)) (grownBy_set _ ⟨A, 6, none⟩ a6)) (grownBy_set _ ⟨A, 7, none⟩ a7)
theorem blk12 {w : World} {A : Nat} {T : TypeId} {x0 x1 x2 x3 x4 x5 x6 x7 x8 x9 x10 x11 : Value} (a0 a1 a2 a3 a4 a5 a6 a7 a8 a9 a10 a11 : Value) (h : Blk w A T #[x0, x1, x2, x3, x4, x5, x6, x7, x8, x9, x10, x11]) :
    Blk ((((((((((((w.setCell ⟨A, 0, none⟩ a0).setCell ⟨A, 1, none⟩ a1).setCell ⟨A, 2, none⟩ a2).setCell ⟨A, 3, none⟩ a3).setCell ⟨A, 4, none⟩ a4).setCell ⟨A, 5, none⟩ a5).setCell ⟨A, 6, none⟩ a6).setCell ⟨A, 7, none⟩ a7).setCell ⟨A, 8, none⟩ a8).setCell ⟨A, 9, none⟩ a9).setCell ⟨A, 10, none⟩ a10).setCell ⟨A, 11, none⟩ a11) A T #[a0, a1, a2, a3, a4, a5, a6, a7, a8, a9, a10, a11] := by
  have h0 := h.set_ 0 a0
  simp only [List.setIfInBounds_toArray, List.set_cons_zero] at h0
  have h1 := h0.set_ 1 a1
  simp only [List.setIfInBounds_toArray, List.set_cons_zero, List.set_cons_succ] at h1
  have h2 := h1.set_ 2 a2
  simp only [List.setIfInBounds_toArray, List.set_cons_zero, List.set_cons_succ] at h2
  have h3 := h2.set_ 3 a3
  simp only [List.setIfInBounds_toArray, List.set_cons_zero, List.set_cons_succ] at h3
  have h4 := h3.set_ 4 a4
  simp only [List.setIfInBounds_toArray, List.set_cons_zero, List.set_cons_succ] at h4
  have h5 := h4.set_ 5 a5
  simp only [List.setIfInBounds_toArray, List.set_cons_zero, List.set_cons_succ] at h5
  have h6 := h5.set_ 6 a6
  simp only [List.setIfInBounds_toArray, List.set_cons_zero, List.set_cons_succ] at h6
  have h7 := h6.set_ 7 a7
  simp only [List.setIfInBounds_toArray, List.set_cons_zero, List.set_cons_succ] at h7
  have h8 := h7.set_ 8 a8
  simp only [List.setIfInBounds_toArray, List.set_cons_zero, List.set_cons_succ] at h8
  have h9 := h8.set_ 9 a9
  simp only [List.setIfInBounds_toArray, List.set_cons_zero, List.set_cons_succ] at h9
  have h10 := h9.set_ 10 a10
  simp only [List.setIfInBounds_toArray, List.set_cons_zero, List.set_cons_succ] at h10
  have h11 := h10.set_ 11 a11
  simp only [List.setIfInBounds_toArray, List.set_cons_zero, List.set_cons_succ] at h11
  exact h11
theorem grown12 (w : World) (A : Nat) (a0 a1 a2 a3 a4 a5 a6 a7 a8 a9 a10 a11 : Value) : w.grownBy ((((((((((((w.setCell ⟨A, 0, none⟩ a0).setCell ⟨A, 1, none⟩ a1).setCell ⟨A, 2, none⟩ a2).setCell ⟨A, 3, none⟩ a3).setCell ⟨A, 4, none⟩ a4).setCell ⟨A, 5, none⟩ a5).setCell ⟨A, 6, none⟩ a6).setCell ⟨A, 7, none⟩ a7).setCell ⟨A, 8, none⟩ a8).setCell ⟨A, 9, none⟩ a9).setCell ⟨A, 10, none⟩ a10).setCell ⟨A, 11, none⟩ a11) (some A) := grown_trans' (grown_trans' (grown_trans' (grown_trans' (grown_trans' (grown_trans' (grown_trans' (grown_trans' (grown_trans' (grown_trans' (grown_trans' (grownBy_set w ⟨A, 0, none⟩ a0) (grownBy_set _ ⟨A, 1, none⟩ a1)) (grownBy_set _ ⟨A, 2, none⟩ a2)) (grownBy_set _ ⟨A, 3, none⟩ a3)) (grownBy_set _ ⟨A, 4, none⟩ a4)) (grownBy_set _ ⟨A, 5, none⟩ a5)) (grownBy_set _ ⟨A, 6, none⟩ a6)) (grownBy_set _ ⟨A, 7, none⟩ a7)) (grownBy_set _ ⟨A, 8, none⟩ a8)) (grownBy_set _ ⟨A, 9, none⟩ a9)) (grownBy_set _ ⟨A, 10, none⟩ a10)) (grownBy_set _ ⟨A, 11, none⟩ a11)
theorem Only.row {g A : Nat} {w w' w'' : World} (h : Only g w w') (k : w'.grownBy w'' (some A)) (hA : w.heap.size ≤ A) : Only g w w'' := h.grown k (fun j hj => by injection hj; exact .inl (by omega))
theorem Blk.row {g A : Nat} {w w' : World} {t : TypeId} {cs : Array Value} (h : Blk w g t cs) (k : w.grownBy w' (some A)) (hA : g ≠ A) : Blk w' g t cs := h.grown k (by intro e; injection e with e; exact hA e.symm)
theorem Src.row {w w' : World} {B g A : Nat} {t : TypeId} {rest : List Int} (h : Src w B t g rest) (k : w.grownBy w' (some A)) (hg : g ≠ A) (hB : B ≤ A) : Src w' B t g rest := h.grown k (by intro e; injection e with e; exact hg e.symm) (fun j hj => by injection hj; omega)
theorem own_row {w w' : World} {A base : Nat} {e : TypeId} {size n : Nat} {v : Value} {xs : List Value} (h : w.ownsRow base e size v n xs) (k : w.grownBy w' (some A)) (hA : ∀ b, v.ownBlock = some b → b ≠ A) : w'.ownsRow base e size v n xs :=
  own_grown h k (fun b hb e' => by injection e' with e'; exact hA b hb e'.symm)
theorem below_row {w w' w'' : World} {B A : Nat} (h : Below B w w') (k : w'.grownBy w'' (some A)) (hA : B ≤ A) (hB : B ≤ w'.heap.size) : Below B w w'' := h.grown k hB (fun j hj => by injection hj; omega)
end Go.Proofs.Ytcjekbncllccbaa
namespace Go.Proofs.Ytcjekbncllccbaa
open Go.RowKit Go.Sort
/-- A known element of a read slice of entries: its address and its cells. -/
theorem Sl.ent_at {w : World} {A : Option Addr} {c k : Nat} {l : List Ent} {n : Nat} (h : Sl w 12 (.slice A n c) n (ents l)) (hn : n = l.length) (hk : k < n) : ∃ ad e, A = some ad ∧ l[k]? = some e ∧ ∀ j u, e.cells[j]? = some u → w.cell? (ad.add (k * 12 + j)) = some u := by
  obtain ⟨A', c', e0, h1, h2, h3, h4⟩ := h
  injection e0 with e1 e2 e3
  subst e1
  obtain ⟨ad, e, hb, hc⟩ := h4 (by omega)
  have hl : k < l.length := by omega
  refine ⟨ad, l[k], e, List.getElem?_eq_getElem hl, fun j u hu => ?_⟩
  have hj : j < 12 := by have := (List.getElem?_eq_some_iff.1 hu).1; rwa [Ent.cells_length] at this
  exact hc _ u ((ents_get (List.getElem?_eq_getElem hl) hj).trans hu)
/-- Entry e lies at p. -/
structure EntAt (w : World) (p : Addr) (e : Ent) : Prop where
  lt : p.block < w.heap.size
  c0 : w.cell? p = some (.int .i64 e.id)
  c1 : w.cell? { block := p.block, off := p.off + 1 } = some (.int .i64 e.rows)
  c2 : w.cell? { block := p.block, off := p.off + 2 } = some (.int .i64 e.live)
  c3 : w.cell? { block := p.block, off := p.off + 3 } = some (.bool e.lo.null)
  c4 : w.cell? { block := p.block, off := p.off + 4 } = some (.int .i64 e.lo.n)
  c5 : w.cell? { block := p.block, off := p.off + 5 } = some (.string e.lo.s)
  c6 : w.cell? { block := p.block, off := p.off + 6 } = some (.int .i64 e.lo.seq)
  c7 : w.cell? { block := p.block, off := p.off + 7 } = some (.bool e.hi.null)
  c8 : w.cell? { block := p.block, off := p.off + 8 } = some (.int .i64 e.hi.n)
  c9 : w.cell? { block := p.block, off := p.off + 9 } = some (.string e.hi.s)
  c10 : w.cell? { block := p.block, off := p.off + 10 } = some (.int .i64 e.hi.seq)
  c11 : w.cell? { block := p.block, off := p.off + 11 } = some (.int .i64 e.del)
theorem EntAt.keep {w w' : World} {p : Addr} {e : Ent} (h : EntAt w p e) (hs : w.heap.size ≤ w'.heap.size) (hk : ∀ q : Addr, q.block < w.heap.size → w'.cell? q = w.cell? q) : EntAt w' p e :=
  have k := h.lt
  ⟨by omega, (hk _ k).trans h.c0, (hk ⟨p.block, p.off + 1, none⟩ k).trans h.c1, (hk ⟨p.block, p.off + 2, none⟩ k).trans h.c2, (hk ⟨p.block, p.off + 3, none⟩ k).trans h.c3, (hk ⟨p.block, p.off + 4, none⟩ k).trans h.c4, (hk ⟨p.block, p.off + 5, none⟩ k).trans h.c5, (hk ⟨p.block, p.off + 6, none⟩ k).trans h.c6, (hk ⟨p.block, p.off + 7, none⟩ k).trans h.c7, (hk ⟨p.block, p.off + 8, none⟩ k).trans h.c8, (hk ⟨p.block, p.off + 9, none⟩ k).trans h.c9, (hk ⟨p.block, p.off + 10, none⟩ k).trans h.c10, (hk ⟨p.block, p.off + 11, none⟩ k).trans h.c11⟩
theorem EntAt.below {w w' : World} {p : Addr} {e : Ent} (h : EntAt w p e) (hb : Below w.heap.size w w') : EntAt w' p e := h.keep hb.size fun _ hq => hb.cell hq
theorem EntAt.of_blk {w : World} {g : Nat} {t : TypeId} {e : Ent} (h : Blk w g t e.cells.toArray) : EntAt w ⟨g, 0, none⟩ e :=
  ⟨h.lt, h.cell 0, h.cell 1, h.cell 2, h.cell 3, h.cell 4, h.cell 5, h.cell 6, h.cell 7, h.cell 8, h.cell 9, h.cell 10, h.cell 11⟩
theorem add_off (a : Addr) (i j : Nat) (hj : 0 < j) : a.add (i + j) = { block := (a.add i).block, off := (a.add i).off + j } := by
  rw [← add_of_add]
  generalize a.add i = p
  unfold Addr.add
  rw [if_neg (by omega)]
theorem Sl.ent_load {w : World} {A : Option Addr} {c k : Nat} {l : List Ent} {n : Nat} (h : Sl w 12 (.slice A n c) n (ents l)) (hn : n = l.length) (hk : k < n) : ∃ ad e p, A = some ad ∧ l[k]? = some e ∧ ad.add (k * 12) = p ∧ EntAt w p e := by
  obtain ⟨ad, e, rfl, he, hc⟩ := h.ent_at hn hk
  refine ⟨ad, e, _, rfl, he, rfl, ?_⟩
  have h0 := hc 0 _ rfl
  rw [Nat.add_zero] at h0
  have hj : ∀ j u, 0 < j → e.cells[j]? = some u → w.cell? { block := (ad.add (k * 12)).block, off := (ad.add (k * 12)).off + j } = some u := fun j u h1 h2 => by rw [← add_off _ _ _ h1]; exact hc j u h2
  exact ⟨World.block_lt_of_cell? w _ h0, h0, hj 1 _ (by omega) rfl, hj 2 _ (by omega) rfl, hj 3 _ (by omega) rfl, hj 4 _ (by omega) rfl, hj 5 _ (by omega) rfl, hj 6 _ (by omega) rfl, hj 7 _ (by omega) rfl, hj 8 _ (by omega) rfl, hj 9 _ (by omega) rfl, hj 10 _ (by omega) rfl, hj 11 _ (by omega) rfl⟩
def Ent.small (e : Ent) : Prop := e.lo.s.size ≤ 9223372036854775807 ∧ e.hi.s.size ≤ 9223372036854775807
theorem rentry_b (e : Ent) (hs : e.small) {b : Bool} (hb : e.okB = b) (w : World) : Calls Try.prog 62 #[.agg #[.int .i64 e.id, .int .i64 e.rows, .int .i64 e.live, .bool e.lo.null, .int .i64 e.lo.n, .string e.lo.s, .int .i64 e.lo.seq, .bool e.hi.null, .int .i64 e.hi.n, .string e.hi.s, .int .i64 e.hi.seq, .int .i64 e.del]] w (RetB1' w b) := by subst hb; exact rentry_any e w hs.1 hs.2
theorem entry_b (e : Ent) (hs : e.small) {b : Bool} (hb : e.okB = b) (w : World) : Calls Try.prog 52 #[.agg #[.int .i64 e.id, .int .i64 e.rows, .int .i64 e.live, .bool e.lo.null, .int .i64 e.lo.n, .string e.lo.s, .int .i64 e.lo.seq, .bool e.hi.null, .int .i64 e.hi.n, .string e.hi.s, .int .i64 e.hi.seq, .int .i64 e.del]] w (RetB1' w b) := by subst hb; exact entry_any e w hs.1 hs.2
theorem reg_bb {P : Program} {f : FuncId} {args : Array Value} {w : World} {b : Bool} (h : ∀ W, Calls P f args W (RetB1' W b)) : ∀ d os, Calls P f args (grow (redrawn w d) os) fun e w'' => e = .returned (.bool b) ∧ ∃ p : Regrown, w'' = grow (redrawn w p.d) p.os :=
  fun d os => Calls.regrown_of ((h (grow (redrawn w d) os)).mono fun _ _ h => h)
/-- The cells of an entry in every world that has only grown. -/
theorem EntAt.regrown {w : World} {p : Addr} {e : Ent} (h : EntAt w p e) (d : Nat) (os : Array Obj) : EntAt (grow (redrawn w d) os) p e := h.below (below_regrown w d os)
theorem okAt_false {l : List Ent} {k : Nat} {e : Ent} (he : l[k]? = some e) (h : e.okB = false) : okAt l k = false := by rw [okAt_get he, h]; rfl
theorem okAt_asc {l : List Ent} {m : Nat} {a b : Ent} {t : Bool} (ha : l[m]? = some a) (hb : l[m + 1]? = some b) (h : b.okB = true) (ht : decide (a.id < b.id) = t) : okAt l (m + 1) = t := by rw [okAt_get hb, h, ascAt_succ ha hb, ht]; rfl
theorem okAt_first {l : List Ent} {b : Ent} (hb : l[0]? = some b) (h : b.okB = true) : okAt l 0 = true := by rw [okAt_get hb, h]; rfl
theorem allTo_next {f : Nat → Bool} {k : Nat} (h : allTo f k = true) (h' : f k = true) : allTo f (k + 1) = true := by simp [allTo, h, h']
end Go.Proofs.Ytcjekbncllccbaa
namespace Go.Proofs.Ytcjekbncllccbaa
open Go.RowKit Go.Sort
def HeadOk (x q n : Int) (len : Nat) : Prop := 0 ≤ x ∧ x ≤ 2147483647 ∧ 0 ≤ q ∧ q ≤ 1099511627777 ∧ 1 ≤ n ∧ n ≤ 2147483647 ∧ len ≤ 256
theorem headB_of {x q n : Int} {len : Nat} (h : HeadOk x q n len) : headB x q n len = true := by
  obtain ⟨h1, h2, h3, h4, h5, h6, h7⟩ := h
  simp [headB, *]
theorem headB_not {x q n : Int} {len : Nat} (h : ¬HeadOk x q n len) : headB x q n len = false := by
  cases hb : headB x q n len with
  | false => rfl
  | true =>
    refine absurd ?_ h
    simp only [headB, Bool.and_eq_true, decide_eq_true_eq] at hb
    obtain ⟨⟨⟨⟨⟨⟨h1, h2⟩, h3⟩, h4⟩, h5⟩, h6⟩, h7⟩ := hb
    exact ⟨h1, h2, h3, h4, h5, h6, h7⟩
theorem snapB_head {x q n : Int} {l : List Ent} (h : ¬HeadOk x q n l.length) : snapB x q n l = false := by unfold snapB; rw [headB_not h]; rfl
def goodAt (q n : Int) (l : List Ent) (k : Nat) : Bool := okAt l k && underAt q n l k
theorem snapB_good {x q n : Int} {l : List Ent} (h : HeadOk x q n l.length) {t : Bool} (ht : allTo (goodAt q n l) l.length = t) : snapB x q n l = t := by
  unfold snapB; rw [headB_of h, Bool.true_and, entsB, ← allTo_and]; exact ht
theorem goodAt_of {q n : Int} {l : List Ent} {k : Nat} {a b : Bool} (h1 : okAt l k = a) (h2 : underAt q n l k = b) : goodAt q n l k = (a && b) := by unfold goodAt; rw [h1, h2]
theorem under_of {q n : Int} {l : List Ent} {k : Nat} {e : Ent} (he : l[k]? = some e) {t : Bool} (h : e.underB q n = t) : underAt q n l k = t := by rw [underAt_get he, h]
end Go.Proofs.Ytcjekbncllccbaa
namespace Go.Proofs.Ytcjekbncllccbaa
open Go.RowKit Go.Sort
theorem in_b (n lo hi : Int) {b : Bool} (hb : inB n lo hi = b) (w : World) : Calls Try.prog 90 #[.int .i64 n, .int .i64 lo, .int .i64 hi] w fun e w' => e = .returned (.bool b) ∧ w = w' := by subst hb; exact in_any n lo hi w
theorem snapB_ents {x q n : Int} {l : List Ent} (h : entsB l = false) : snapB x q n l = false := by simp [snapB, h]
theorem snapB_under {x q n : Int} {l : List Ent} (h : HeadOk x q n l.length) (he : entsB l = true) {t : Bool} (ht : allTo (underAt q n l) l.length = t) : snapB x q n l = t := by
  unfold snapB; rw [headB_of h, he, ht]; rfl
end Go.Proofs.Ytcjekbncllccbaa
