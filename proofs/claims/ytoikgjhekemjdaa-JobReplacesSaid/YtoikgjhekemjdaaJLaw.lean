/-
  Laws 31 in plain Lean: when the inputs fit; what the loops count.
-/
import Derived.Test.YtoikgjhekemjdaaJobKit
import Derived.Test.YtoikgjhekemjdaaApplyMeans
namespace Go.Proofs.Ytoikgjhekemjdaa
open Go.RowKit
theorem any_take {α : Type} {l : List α} {k : Nat} {y : α} {p : α → Bool} (h : l[k]? = some y) : (l.take (k + 1)).any p = ((l.take k).any p || p y) := by
  rw [List.take_add_one, h, List.any_append]; simp
theorem all_take {α : Type} {l : List α} {k : Nat} {y : α} {p : α → Bool} (h : l[k]? = some y) : (l.take (k + 1)).all p = ((l.take k).all p && p y) := by
  rw [List.take_add_one, h, List.all_append]; simp
theorem eqE_comm (x y : Ent) : eqE x y = eqE y x := by rw [Bool.eq_iff_iff, eqE_iff, eqE_iff]; exact eq_comm
/-- The first k inputs fit. -/
def fitTo (ins l : List Ent) (k : Nat) : Prop := ((ins.take k).map Ent.id).Nodup ∧ ∀ e ∈ ins.take k, (l.any fun y => eqE y e) = true
theorem fitTo_zero (ins l : List Ent) : true = true ↔ fitTo ins l 0 := ⟨fun _ => ⟨by simp, by simp⟩, fun _ => rfl⟩
theorem fitTo_succ {ins l : List Ent} {k : Nat} {e : Ent} (h : ins[k]? = some e) : fitTo ins l (k + 1) ↔ fitTo ins l k ∧ ((l.any fun y => eqE y e) && (ins.take k).all fun y => y.id != e.id) = true := by
  unfold fitTo
  rw [List.take_add_one, h]
  simp only [Option.toList_some, List.map_append, List.map_cons, List.map_nil, List.nodup_append, List.mem_append, Bool.and_eq_true, List.all_eq_true, List.mem_map, List.mem_singleton]
  constructor
  · rintro ⟨⟨h1, _, h2⟩, h3⟩
    exact ⟨⟨h1, fun d hd => h3 d (.inl hd)⟩, h3 e (.inr rfl), fun y hy => by simpa using h2 y.id ⟨y, hy, rfl⟩ e.id rfl⟩
  · rintro ⟨⟨h1, h2⟩, h3, h4⟩
    refine ⟨⟨h1, by simp, ?_⟩, ?_⟩
    · rintro a ⟨y, hy, rfl⟩ b rfl
      simpa using h4 y hy
    · rintro d (hd | rfl)
      · exact h2 d hd
      · exact h3
end Go.Proofs.Ytoikgjhekemjdaa
