/-
  keep.Same at entries, keep.SameSnapshot, the law's has.
-/
import Derived.Test.YtcjekbncllccbaaEntEq
import Derived.Test.YtcjekbncllccbaaBase
import Derived.Deep.QuietTactic
import Derived.BigQuiet
import Derived.Deep.DeepCutAuto
import Derived.Deep.CutBlock
namespace Go.Proofs.Ytcjekbncllccbaa
open Go.RowKit Go.Sort
def sameEnts (xs ys : List Ent) : Bool := xs.length == ys.length && allTo (fun k => match xs[k]?, ys[k]? with | some x, some y => eqE x y | _, _ => true) xs.length
theorem sameEnts_len {xs ys : List Ent} (h : xs.length ≠ ys.length) : sameEnts xs ys = false := by unfold sameEnts; simp [h]
theorem sameEnts_no {xs ys : List Ent} {k : Nat} {x y : Ent} (hx : xs[k]? = some x) (hy : ys[k]? = some y) (h : eqE x y = false) : sameEnts xs ys = false := by
  unfold sameEnts
  rw [allTo_false (List.getElem?_eq_some_iff.1 hx).1 (by simp only [hx, hy]; exact h), Bool.and_false]
theorem sameEnts_iff {xs ys : List Ent} : sameEnts xs ys = true ↔ xs = ys := by
  unfold sameEnts
  rw [Bool.and_eq_true, beq_iff_eq, allTo_true]
  constructor
  · rintro ⟨hl, h⟩
    apply List.ext_getElem? 
    intro k
    by_cases hk : k < xs.length
    · have := h k hk
      rw [List.getElem?_eq_getElem hk, List.getElem?_eq_getElem (by omega)] at this ⊢
      rw [eqE_iff.1 this]
    · rw [List.getElem?_eq_none (by omega), List.getElem?_eq_none (by omega)]
  · rintro rfl
    refine ⟨rfl, fun k hk => ?_⟩
    rw [List.getElem?_eq_getElem hk]; exact eqE_iff.2 rfl
theorem sameEnts_refl (xs : List Ent) : sameEnts xs xs = true := sameEnts_iff.2 rfl
end Go.Proofs.Ytcjekbncllccbaa
