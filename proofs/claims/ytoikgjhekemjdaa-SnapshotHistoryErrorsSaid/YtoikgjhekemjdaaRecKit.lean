/-
  Words for records: the stores of a whole record into one block; what keep.Record hands back.
-/
import Derived.Test.YtoikgjhekemjdaaEntOps
import Derived.Test.YtoikgjhekemjdaaStore
namespace Go.Proofs.Ytoikgjhekemjdaa
open Go.RowKit
theorem blk6 {w : World} {A : Nat} {T : TypeId} {x0 x1 x2 x3 x4 x5 : Value} (a0 a1 a2 a3 a4 a5 : Value) (h : Blk w A T #[x0, x1, x2, x3, x4, x5]) :
    Blk ((((((w.setCell ⟨A, 0, none⟩ a0).setCell ⟨A, 1, none⟩ a1).setCell ⟨A, 2, none⟩ a2).setCell ⟨A, 3, none⟩ a3).setCell ⟨A, 4, none⟩ a4).setCell ⟨A, 5, none⟩ a5) A T #[a0, a1, a2, a3, a4, a5] := by
  have h0 := h.set_ 0 a0
  simp only [List.setIfInBounds_toArray, List.set_cons_zero] at h0
  have h1 := h0.set_ 1 a1
  simp only [List.setIfInBounds_toArray, List.set_cons_zero, List.set_cons_succ] at h1
  have h2 := h1.set_ 2 a2
  simp only [List.setIfInBounds_toArray, List.set_cons_zero, List.set_cons_succ] at h2
  have h3 := h2.set_ 3 a3
  simp only [List.setIfInBounds_toArray, List.set_cons_zero, List.set_cons_succ] at h3
  have h4 := h3.set_ 4 a4
  simp only [List.setIfInBounds_toArray, List.set_cons_zero, List.set_cons_succ] at h4
  have h5 := h4.set_ 5 a5
  simp only [List.setIfInBounds_toArray, List.set_cons_zero, List.set_cons_succ] at h5
  exact h5
theorem grown6 (w : World) (A : Nat) (a0 a1 a2 a3 a4 a5 : Value) : w.grownBy ((((((w.setCell ⟨A, 0, none⟩ a0).setCell ⟨A, 1, none⟩ a1).setCell ⟨A, 2, none⟩ a2).setCell ⟨A, 3, none⟩ a3).setCell ⟨A, 4, none⟩ a4).setCell ⟨A, 5, none⟩ a5) (some A) := (grown_trans' (grown_trans' (grown_trans' (grown_trans' (grown_trans' (grownBy_set w ⟨A, 0, none⟩ a0) (grownBy_set _ ⟨A, 1, none⟩ a1)) (grownBy_set _ ⟨A, 2, none⟩ a2)) (grownBy_set _ ⟨A, 3, none⟩ a3)) (grownBy_set _ ⟨A, 4, none⟩ a4)) (grownBy_set _ ⟨A, 5, none⟩ a5))
theorem info_i64 : (Try.prog.info? 3).map (fun i => (i.zero, i.size, i.bytes)) = some (some (.int .i64 0), 1, 8) := by kernel_rfl
theorem under_i64 : Try.prog.underlying 36 = some (.slice 3) := Try.underlying36
theorem own_ints1 {w : World} {base : Nat} {e : TypeId} {v : Value} {l : List Int} {x : Int} (h : w.ownsRow base e 1 v (l.length + 1) (ints l ++ (#[Value.int .i64 x] : Array Value).toList)) : w.ownsRow base e 1 v (l ++ [x]).length (ints (l ++ [x])) := own_ints h
theorem snoc_small {l : List Ent} {e : Ent} (h : ∀ x ∈ l, x.small) (he : e.small) : ∀ x ∈ l ++ [e], x.small := fun x hx => by
  rcases List.mem_append.1 hx with h1 | h1
  · exact h x h1
  · simp at h1; subst h1; exact he
/-- A record in new memory. -/
def RetRec (w : World) (e : Ending) (w' : World) : Prop :=
  ∃ (kind ver seq nid : Int) (add : List Ent) (rem : List Int) (va vr : Value), e = .returned (.agg #[.int .i64 kind, .int .i64 ver, .int .i64 seq, .int .i64 nid, va, vr]) ∧
    w'.ownsRow w.heap.size 34 12 va add.length (ents add) ∧ w'.ownsRow w.heap.size 3 1 vr rem.length (ints rem) ∧ (∀ e ∈ add, e.small) ∧ add.length ≤ 1000 ∧ rem.length ≤ 1000 ∧ Below w.heap.size w w'
end Go.Proofs.Ytoikgjhekemjdaa
