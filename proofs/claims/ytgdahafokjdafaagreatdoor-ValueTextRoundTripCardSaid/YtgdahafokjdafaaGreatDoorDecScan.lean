/-
  Words for scanning a text of digits, in plain Lean.
-/
import Derived.Test.YtgdahafokjdafaaGreatDoorDecPar2
import Derived.Test.YtgdahafokjdafaaGreatDoorBase
namespace Go.Proofs.YtgdahafokjdafaaGreatDoor
open Go.RowKit
def DigTo (s : ByteArray) (k : Nat) : Prop := ∀ (j : Nat) (h : j < s.size), j < k → digB s[j] = true
theorem DigTo.zero (s : ByteArray) : DigTo s 0 := fun _ _ h => absurd h (Nat.not_lt_zero _)
theorem DigTo.next {s : ByteArray} {k : Nat} (h : DigTo s k) (hk : k < s.size) (hc : digB s[k] = true) : DigTo s (k + 1) := fun j hj hlt => by
  by_cases e : j = k
  · subst e; exact hc
  · exact h j hj (by omega)
theorem mem_at {s : ByteArray} {c : UInt8} (hc : c ∈ s.data.toList) : ∃ (k : Nat) (h : k < s.size), s[k] = c := by
  obtain ⟨k, hk⟩ := List.mem_iff_getElem?.1 hc
  have hl : k < s.size := by rw [← size_data]; exact (List.getElem?_eq_some_iff.1 hk).1
  rw [get_data s k hl] at hk
  injection hk with hk
  exact ⟨k, hl, hk⟩
theorem DigTo.all {s : ByteArray} {k : Nat} (h : DigTo s k) (hk : s.size ≤ k) : s.data.toList.all digB = true := by
  rw [List.all_eq_true]
  intro c hc
  obtain ⟨j, hj, rfl⟩ := mem_at hc
  exact h j hj (by omega)
theorem dig_not {s : ByteArray} {k : Nat} (hk : k < s.size) (h : digB s[k] = false) : s.data.toList.all digB = false := by
  rw [List.all_eq_false]
  exact ⟨s[k], List.mem_of_getElem? (get_data s k hk), by simp [h]⟩
theorem digB_cases (c : UInt8) : (digB c = true ∧ 48 ≤ (c.toNat : Int) ∧ (c.toNat : Int) ≤ 57) ∨ (digB c = false ∧ (c.toNat : Int) < 48) ∨ (digB c = false ∧ 57 < (c.toNat : Int)) := by
  by_cases h : 48 ≤ c.toNat ∧ c.toNat ≤ 57
  · exact .inl ⟨by unfold digB; rw [decide_eq_true_eq]; exact h, by omega⟩
  · by_cases h2 : c.toNat < 48
    · exact .inr (.inl ⟨by unfold digB; rw [decide_eq_false_iff_not]; exact h, by omega⟩)
    · exact .inr (.inr ⟨by unfold digB; rw [decide_eq_false_iff_not]; exact h, by omega⟩)
theorem digs_no {s : ByteArray} {k : Nat} (hk : k < s.size) (h : digB s[k] = false) : digsB s.data.toList = false := by
  unfold digsB; rw [dig_not hk h]; rfl
theorem digs_nil {s : ByteArray} (h : s.size = 0) : digsB s.data.toList = false := by
  have : s.data.toList = [] := List.eq_nil_of_length_eq_zero (by rw [size_data]; exact h)
  rw [this]; rfl
theorem digs_yes {s : ByteArray} {k : Nat} (h0 : 0 < s.size) (h : DigTo s k) (hk : s.size ≤ k) : digsB s.data.toList = true := by
  unfold digsB
  rw [h.all hk, decide_eq_true (by intro e; have := size_data s; rw [e] at this; simp at this; omega)]; rfl
theorem sp_at {s : ByteArray} {k : Nat} (h : DigTo s k) (hk : k ≤ s.size) (he : ∀ h : k < s.size, digB s[k] = false) : spW s.data.toList = s.data.toList.take k ∧ spR s.data.toList = s.data.toList.drop k := by
  have h1 : ∀ c ∈ s.data.toList.take k, digB c = true := by
    intro c hc
    obtain ⟨j, hj⟩ := List.mem_iff_getElem?.1 hc
    have hjk : j < k := by
      have := (List.getElem?_eq_some_iff.1 hj).1
      rw [List.length_take] at this; omega
    rw [List.getElem?_take_of_lt hjk, get_data s j (by omega)] at hj
    injection hj with hj
    rw [← hj]; exact h j (by omega) hjk
  have h2 : (s.data.toList.drop k).takeWhile digB = [] ∧ (s.data.toList.drop k).dropWhile digB = s.data.toList.drop k := by
    by_cases hl : k < s.size
    · have hl' : k < s.data.toList.length := by rw [size_data]; exact hl
      rw [List.drop_eq_getElem_cons hl']
      have e : s.data.toList[k] = s[k] := rfl
      have hn : ¬(digB s.data.toList[k] = true) := by rw [e, he hl]; decide
      exact ⟨List.takeWhile_cons_of_neg hn, List.dropWhile_cons_of_neg hn⟩
    · rw [List.drop_eq_nil_of_le (by rw [size_data]; omega)]; exact ⟨rfl, rfl⟩
  have hw : s.data.toList = s.data.toList.take k ++ s.data.toList.drop k := (List.take_append_drop k _).symm
  constructor
  · unfold spW
    conv => lhs; rw [hw]
    rw [List.takeWhile_append_of_pos h1, h2.1, List.append_nil]
  · unfold spR
    conv => lhs; rw [hw]
    rw [List.dropWhile_append_of_pos h1, h2.2]
end Go.Proofs.YtgdahafokjdafaaGreatDoor
