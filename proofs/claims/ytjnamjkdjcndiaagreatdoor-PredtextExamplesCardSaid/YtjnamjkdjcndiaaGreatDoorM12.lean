/-
  Words, plain laws and contracts on which the walks lean, in one text.
-/
import Derived.Test.YtjnamjkdjcndiaaGreatDoorM11
import Derived.Test.YtjnamjkdjcndiaaGreatDoorM6
import Derived.Test.YtjnamjkdjcndiaaGreatDoorM7
namespace Go.Proofs.YtjnamjkdjcndiaaGreatDoor
open Go.RowKit
end Go.Proofs.YtjnamjkdjcndiaaGreatDoor
namespace Go.Proofs.YtjnamjkdjcndiaaGreatDoor
set_option linter.unusedVariables false
end Go.Proofs.YtjnamjkdjcndiaaGreatDoor
namespace Go.Proofs.YtjnamjkdjcndiaaGreatDoor
set_option linter.unusedVariables false
structure ColGood (c : Col) : Prop where
  nm : nameB c.nm.data.toList = true
  ty : 1 ≤ c.ty ∧ c.ty ≤ 5
  sc : 0 ≤ c.sc ∧ c.sc ≤ 18
  s0 : c.ty ≠ 5 → c.sc = 0
theorem colErr_good {l : List Col} {k : Nat} {c : Col} (h : colErr l k c = 0) : ColGood c ∧ (k : Int) ≤ findC l c.nm := by
  unfold colErr at h
  split at h
  · cases h
  · rename_i h1
    split at h
    · cases h
    · split at h
      · cases h
      · split at h
        · cases h
        · exact ⟨⟨by simpa using h1, by omega, by omega, by omega⟩, by omega⟩
theorem schk_good {l : List Col} {key : Int} (h : schkV l key = 0) : ∀ (k : Nat) (c : Col), l[k]? = some c → ColGood c ∧ findC l c.nm = k := by
  intro k c hk
  unfold schkV at h
  split at h
  · cases h
  · split at h
    · cases h
    · split at h
      · rename_i h1; exact absurd h h1
      · rename_i h1
        have hz : firstE (colE l) l.length = 0 := by simpa using h1
        have := firstE_zero _ hz k (List.getElem?_eq_some_iff.1 hk).1
        rw [colE_at hk] at this
        obtain ⟨g1, g2⟩ := colErr_good this
        exact ⟨g1, by have := findC_le hk rfl; omega⟩
end Go.Proofs.YtjnamjkdjcndiaaGreatDoor
