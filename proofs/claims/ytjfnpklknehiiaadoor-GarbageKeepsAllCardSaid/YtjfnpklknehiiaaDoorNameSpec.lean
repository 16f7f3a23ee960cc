/-
  What Name decides, in plain Lean.
-/
import Derived.Test.YtjfnpklknehiiaaDoorBase
namespace Go.Proofs.YtjfnpklknehiiaaDoor
open Go.RowKit
def lowB (c : UInt8) : Bool := decide (97 ≤ c.toNat ∧ c.toNat ≤ 122)
def okB (c : UInt8) : Bool := decide ((97 ≤ c.toNat ∧ c.toNat ≤ 122) ∨ (48 ≤ c.toNat ∧ c.toNat ≤ 57) ∨ c.toNat = 95)
def nameB (l : List UInt8) : Bool := (!l.isEmpty) && decide (l.length ≤ 16) && (l != [107, 101, 121]) && lowB (l.headD 0) && l.all okB
theorem get_data (s : ByteArray) (k : Nat) (h : k < s.size) : s.data.toList[k]? = some s[k] := by
  rw [List.getElem?_eq_getElem (by simpa using h)]
  rfl
theorem size_data (s : ByteArray) : s.data.toList.length = s.size := by cases s; rfl
theorem head_data (s : ByteArray) (h : 0 < s.size) : s.data.toList.headD 0 = s[0] := by
  have := get_data s 0 h
  cases hl : s.data.toList with
  | nil => rw [hl] at this; simp at this
  | cons a r => rw [hl] at this; simp at this; simpa using this
theorem name_empty {s : ByteArray} (h : s.size = 0) : nameB s.data.toList = false := by
  have : s.data.toList = [] := List.eq_nil_of_length_eq_zero (by rw [size_data]; exact h)
  rw [this]; rfl
theorem name_long {s : ByteArray} (h : 16 < s.size) : nameB s.data.toList = false := by
  have : decide (s.data.toList.length ≤ 16) = false := by rw [size_data]; simp; omega
  unfold nameB; rw [this]; simp
theorem name_key {s : ByteArray} (h : s.data.toList = [107, 101, 121]) : nameB s.data.toList = false := by rw [h]; decide
theorem name_head {s : ByteArray} (h0 : 0 < s.size) (h : s[0].toNat < 97 ∨ 122 < s[0].toNat) : nameB s.data.toList = false := by
  have : lowB (s.data.toList.headD 0) = false := by rw [head_data s h0]; unfold lowB; rw [decide_eq_false_iff_not]; omega
  unfold nameB
  rw [this]
  simp
theorem name_char {s : ByteArray} {k : Nat} (hk : k < s.size) (h : okB s[k] = false) : nameB s.data.toList = false := by
  have : s.data.toList.all okB = false := by
    rw [List.all_eq_false]
    exact ⟨s[k], List.mem_of_getElem? (get_data s k hk), by simp [h]⟩
  unfold nameB
  rw [this]
  simp
theorem name_yes {s : ByteArray} (h0 : 0 < s.size) (h1 : s.size ≤ 16) (h2 : s.data.toList ≠ [107, 101, 121]) (h3 : lowB s[0] = true) (h4 : ∀ k (h : k < s.size), okB s[k] = true) : nameB s.data.toList = true := by
  have e0 : s.data.toList.isEmpty = false := by
    rw [List.isEmpty_eq_false_iff]; intro e
    have := size_data s; rw [e] at this; simp at this; omega
  have e1 : decide (s.data.toList.length ≤ 16) = true := by rw [size_data]; simpa using h1
  have e2 : (s.data.toList != [107, 101, 121]) = true := by simpa using h2
  have e3 : lowB (s.data.toList.headD 0) = true := by rw [head_data s h0]; exact h3
  have e4 : s.data.toList.all okB = true := by
    rw [List.all_eq_true]
    intro c hc
    obtain ⟨k, hk⟩ := List.mem_iff_getElem?.1 hc
    have hl : k < s.size := by rw [← size_data]; exact (List.getElem?_eq_some_iff.1 hk).1
    rw [get_data s k hl] at hk
    injection hk with hk
    rw [← hk]; exact h4 k hl
  unfold nameB
  rw [e0, e1, e2, e3, e4]; rfl
/-- The call answers the bool b; the world is as it was. -/
def Ret0 (w : World) (b : Bool) (e : Ending) (w' : World) : Prop := e = .returned (.bool b) ∧ w = w'
theorem Ret0.mk_ {w : World} {b b' : Bool} (h : b = b') : Ret0 w b (.returned (.bool b')) w := by subst h; exact ⟨rfl, rfl⟩
def OkTo (s : ByteArray) (k : Nat) : Prop := ∀ j (h : j < s.size), j < k → okB s[j] = true
theorem OkTo.next {s : ByteArray} {k : Nat} (h : OkTo s k) (hk : k < s.size) (hc : okB s[k] = true) : OkTo s (k + 1) := fun j hj hlt => by
  by_cases e : j = k
  · subst e; exact hc
  · exact h j hj (by omega)
theorem ok_cases (c : UInt8) : (okB c = true ∧ (97 ≤ (c.toNat : Int) ∧ (c.toNat : Int) ≤ 122 ∨ 48 ≤ (c.toNat : Int) ∧ (c.toNat : Int) ≤ 57 ∨ (c.toNat : Int) = 95)) ∨
    (okB c = false ∧ ((c.toNat : Int) < 48 ∨ (57 < (c.toNat : Int) ∧ (c.toNat : Int) < 95) ∨ (c.toNat : Int) = 96 ∨ 122 < (c.toNat : Int))) := by
  by_cases h : (97 ≤ c.toNat ∧ c.toNat ≤ 122) ∨ (48 ≤ c.toNat ∧ c.toNat ≤ 57) ∨ c.toNat = 95
  · exact .inl ⟨by unfold okB; rw [decide_eq_true_eq]; exact h, by omega⟩
  · exact .inr ⟨by unfold okB; rw [decide_eq_false_iff_not]; exact h, by omega⟩
theorem toList_ne {s : ByteArray} (h0 : 0 < s.size) : s.toList.isEmpty = false := by
  rw [Go.ByteArray.toList_eq, List.isEmpty_eq_false_iff]; intro e
  have := size_data s; rw [e] at this; simp at this; omega
theorem toList_nil {s : ByteArray} (h0 : s.size = 0) : s.toList = [] := by
  rw [Go.ByteArray.toList_eq]; exact List.eq_nil_of_length_eq_zero (by rw [size_data]; exact h0)
end Go.Proofs.YtjfnpklknehiiaaDoor
