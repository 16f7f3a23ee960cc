/-
  keep.SameSnapshot at equal versions; the law's has.
-/
import Derived.Test.YtcjekbncllccbaaSameE
namespace Go.Proofs.Ytcjekbncllccbaa
open Go.RowKit Go.Sort
/-- Whether a list has an entry. -/
def hasE (l : List Ent) (e : Ent) : Bool := l.any fun y => eqE e y
theorem hasE_iff {l : List Ent} {e : Ent} : hasE l e = true ↔ e ∈ l := by
  unfold hasE; rw [List.any_eq_true]
  constructor
  · rintro ⟨y, hy, h⟩; rw [eqE_iff.1 h]; exact hy
  · intro h; exact ⟨e, h, eqE_iff.2 rfl⟩
theorem hasE_false {l : List Ent} {e : Ent} : hasE l e = false ↔ e ∉ l := by rw [← Bool.not_eq_true, hasE_iff]
end Go.Proofs.Ytcjekbncllccbaa
