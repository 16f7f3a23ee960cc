/-
  Words for calls that only read: the answer, and a world of which only the count of draws has turned; two lists that agree so far.
-/
import Derived.Test.YtoikgjhekemjdaaMem
namespace Go.Proofs.Ytoikgjhekemjdaa
open Go.RowKit
/-- The call answers the bool b; of the world only the count of draws has turned. -/
def QuietB (w : World) (b : Bool) (e : Ending) (w' : World) : Prop := e = .returned (.bool b) ∧ ∃ n, w' = w.drewN n
theorem QuietB.mk_ {w : World} {b b' : Bool} (n : Nat) (h : b' = b) : QuietB w b (.returned (.bool b')) (w.drewN n) := by subst h; exact ⟨rfl, n, rfl⟩
theorem QuietB.mk0 {w : World} {b b' : Bool} (h : b' = b) : QuietB w b (.returned (.bool b')) w := by subst h; exact ⟨rfl, 0, rfl⟩
/-- The first k elements agree. -/
def Pre {α : Type} (xs ys : List α) (k : Nat) : Prop := ∀ j : Nat, j < k → xs[j]? = ys[j]?
theorem Pre.zero {α : Type} (xs ys : List α) : Pre xs ys 0 := fun j h => by omega
theorem Pre.next {α : Type} {xs ys : List α} {k : Nat} (h : Pre xs ys k) (he : xs[k]? = ys[k]?) : Pre xs ys (k + 1) := fun j hj => by
  by_cases e : j = k
  · subst e; exact he
  · exact h j (by omega)
theorem Pre.all {α : Type} {xs ys : List α} (hl : xs.length = ys.length) (h : Pre xs ys xs.length) : xs = ys := by
  apply List.ext_getElem?
  intro j
  by_cases hj : j < xs.length
  · exact h j hj
  · rw [List.getElem?_eq_none (by omega), List.getElem?_eq_none (by omega)]
theorem quiet_b {P : Program} {f : FuncId} {args : Array Value} {w : World} {n : Nat} {b : Bool} (h : Calls P f args (w.drewN n) (QuietB (w.drewN n) b)) : Calls P f args (w.drewN n) fun e w' => e = .returned (.bool b) ∧ ∃ m, w' = w.drewN m :=
  h.mono fun _ _ ⟨he, m, hm⟩ => ⟨he, n + m, by rw [hm, World.drewN_drewN]⟩
theorem quiet_b2 {P : Program} {f : FuncId} {args : Array Value} {w : World} {a n : Nat} {b : Bool} (h : Calls P f args (w.drewN (a + n)) (QuietB (w.drewN (a + n)) b)) : Calls P f args (w.drewN (a + n)) fun e w' => e = .returned (.bool b) ∧ ∃ m, w' = w.drewN (a + m) :=
  h.mono fun _ _ ⟨he, m, hm⟩ => ⟨he, n + m, by rw [hm, World.drewN_drewN, Nat.add_assoc]⟩
end Go.Proofs.Ytoikgjhekemjdaa
