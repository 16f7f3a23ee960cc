/-
  Words for the invariant of a drawn region: a slot's value, once its operation has run; a row that the region itself makes; a pointer into it.
-/
import Derived.Test.YtjnamjkdjcndiaaDoorBase
import Derived.Test.YtjnamjkdjcndiaaDoorSrcMem
namespace Go.Proofs.YtjnamjkdjcndiaaDoor
open Go.RowKit
def Got (p : Bool) (u v : Value) : Prop := p = true → u = v
def GotRow (p : Bool) (N : Nat) (u : Value) (n : Nat) (T : TypeId) (cs : Array Value) (w : World) : Prop := p = true → ∃ A, u = .slice (some ⟨A, 0, none⟩) n n ∧ N ≤ A ∧ Blk w A T cs
def GotPtr (p : Bool) (N : Nat) (u : Value) (k : Nat) (T : TypeId) (cs : Array Value) (w : World) : Prop := p = true → ∃ A, u = .pointer (some ⟨A, k, none⟩) ∧ N ≤ A ∧ Blk w A T cs
theorem GotRow.below {p : Bool} {N : Nat} {u : Value} {n : Nat} {T : TypeId} {cs : Array Value} {w w' : World} (h : GotRow p N u n T cs w) (hb : Below w.heap.size w w') : GotRow p N u n T cs w' := fun hp => by
  obtain ⟨A, e, hN, hB⟩ := h hp
  exact ⟨A, e, hN, hB.below hb hB.lt⟩
theorem GotPtr.below {p : Bool} {N : Nat} {u : Value} {k : Nat} {T : TypeId} {cs : Array Value} {w w' : World} (h : GotPtr p N u k T cs w) (hb : Below w.heap.size w w') : GotPtr p N u k T cs w' := fun hp => by
  obtain ⟨A, e, hN, hB⟩ := h hp
  exact ⟨A, e, hN, hB.below hb hB.lt⟩
theorem below_new (w : World) (o : Obj) : Below w.heap.size w (w.alloc o) := (Below.refl _ _).alloc (Nat.le_refl _) _
/-- The operation 'append(out, xs...)' alone: what it leaves. -/
theorem wp_app {P : Program} {w : World} {o : Oper} {a : Act} {K : Act → World → Prop} {Q : Exit → Act → World → Prop} (s x : Operand) {t e : TypeId} {z : Value} {size bytes base : Nat} {v u : Value} {n m : Nat} {xs news : List Value}
    (hown : w.ownsRow base e size v n xs) (hr : Sl w size u m news) (hbase : base ≤ w.heap.size)
    (ht : P.underlying t = some (.slice e)) (hinfo : (P.info? e).map (fun i => (i.zero, i.size, i.bytes)) = some (some z, size, bytes)) (hzs : z.cells.size = size) (hsz : 0 < size)
    (h1 : ∀ y ∈ news, y.oneCell' = true) (hbytes : (n + m) * bytes ≤ 140737488355328) (hnm : n + m < 140737488355328)
    (ho : o.op = .call { callee := .builtin .append, args := #[s, x], argTypes := #[t, t] }) (hs : a.eval s = v) (hx : a.eval x = u)
    (h : ∀ v' w', w'.ownsRow base e size v' (n + m) (xs ++ news) → w.grownBy w' v.ownBlock → (v'.ownBlock = v.ownBlock ∨ v'.ownBlock = some w.heap.size) → K (a.put o.dst v') w') :
    Oper.wp P o a w K Q := by
  obtain ⟨v', w', hrun, h2, h3, h4⟩ := run_append_sl (P := P) (ty := o.type) ht hinfo hzs hsz hown hr h1 (by unfold maxLen; omega) hbytes hbase
  unfold Oper.wp execOp
  simp only [ho, resolve, invoke, builtin, Sem.run_bind, Sem.run_pure, Result.andThen_ok, List.map_toArray, List.map_cons, List.map_nil, hs, hx, hrun]
  exact h v' w' h2 h3 h4
end Go.Proofs.YtjnamjkdjcndiaaDoor
