/-
  The text of a decimal in its two parts, in plain Lean.
-/
import Derived.Test.YtgdahafokjdafaaGreatDoorDecDig
namespace Go.Proofs.YtgdahafokjdafaaGreatDoor
theorem decStr_split (neg : Bool) (m j : Nat) : decStr neg m j = (if neg then [45] else []) ++ (digL (m / 10 ^ j) 1 ++ (if j = 0 then [] else 46 :: digL (m % 10 ^ j) j)) := by
  obtain ⟨e, l⟩ := padL_split j m
  unfold decStr
  congr 1
  by_cases hj : j = 0
  · subst hj; rw [if_pos rfl, if_pos rfl, e]
    have : digL (m % 10 ^ 0) 0 = [] := List.eq_nil_of_length_eq_zero l
    rw [this]
  · rw [if_neg hj, if_neg hj, e, List.length_append, l, Nat.add_sub_cancel, List.take_left, List.drop_left]; simp
end Go.Proofs.YtgdahafokjdafaaGreatDoor
