/-
  Words for the invariant of a drawn region: a slot's value, once its operation has run; a row that the region itself makes; a pointer into it.
-/
import Derived.Test.YtlchfaakmgclcaaDoorInv
import Derived.Test.YtlchfaakmgclcaaDoorSrcMem
namespace Go.Proofs.YtlchfaakmgclcaaDoor
open Go.RowKit
def Got (p : Bool) (u v : Value) : Prop := p = true → u = v
def GotRow (p : Bool) (N : Nat) (u : Value) (n : Nat) (T : TypeId) (cs : Array Value) (w : World) : Prop := p = true → ∃ A, u = .slice (some ⟨A, 0, none⟩) n n ∧ N ≤ A ∧ Blk w A T cs
def GotPtr (p : Bool) (N : Nat) (u : Value) (k : Nat) (T : TypeId) (cs : Array Value) (w : World) : Prop := p = true → ∃ A, u = .pointer (some ⟨A, k, none⟩) ∧ N ≤ A ∧ Blk w A T cs
theorem GotRow.below {p : Bool} {N : Nat} {u : Value} {n : Nat} {T : TypeId} {cs : Array Value} {w w' : World} (h : GotRow p N u n T cs w) (hb : Below w.heap.size w w') : GotRow p N u n T cs w' := fun hp => by
  obtain ⟨A, e, hN, hB⟩ := h hp
  exact ⟨A, e, hN, hB.below hb hB.lt⟩
theorem GotPtr.below {p : Bool} {N : Nat} {u : Value} {k : Nat} {T : TypeId} {cs : Array Value} {w w' : World} (h : GotPtr p N u k T cs w) (hb : Below w.heap.size w w') : GotPtr p N u k T cs w' := fun hp => by
  obtain ⟨A, e, hN, hB⟩ := h hp
  exact ⟨A, e, hN, hB.below hb hB.lt⟩
theorem below_new (w : World) (o : Obj) : Below w.heap.size w (w.alloc o) := (Below.refl _ _).alloc (Nat.le_refl _) _
end Go.Proofs.YtlchfaakmgclcaaDoor
