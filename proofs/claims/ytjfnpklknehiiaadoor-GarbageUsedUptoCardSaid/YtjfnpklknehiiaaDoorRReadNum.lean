/-
  The contract of ref6.ReadNumber.
-/
import Derived.Test.YtjfnpklknehiiaaDoorRNumber
namespace Go.Proofs.YtjfnpklknehiiaaDoor
open Go.RowKit
theorem ext_tail (s : ByteArray) : (s.extract 1 s.size).data.toList = s.data.toList.tail := by
  rw [Lib.extract_data, ← List.drop_one]
  exact List.take_of_length_le (by rw [List.length_drop, sizeD]; exact Nat.le_refl _)
theorem readV_sg {s T : ByteArray} (h : s.extract 1 s.size = T) (h0 : 0 < s.size) (hc : (s[0].toNat : Int) = 45) : readV s.data.toList = readT true T.data.toList := by
  have e : s.data.toList.headD 0 = 45 := by rw [head_data s h0]; apply UInt8.toNat.inj; show _ = 45; omega
  unfold readV; rw [if_pos e, ← h, ext_tail]
theorem readV_un {s : ByteArray} (h : ∀ h0 : 0 < s.size, (s[0].toNat : Int) ≠ 45) : readV s.data.toList = readT false s.data.toList := by
  unfold readV
  rw [if_neg]
  intro e
  by_cases h0 : 0 < s.size
  · rw [head_data s h0] at e
    refine h h0 ?_
    rw [e]; rfl
  · have : s.data.toList = [] := List.eq_nil_of_length_eq_zero (by rw [size_data]; omega)
    rw [this] at e; cases e
theorem readT_nil {ng : Bool} {T : ByteArray} (h : T.size = 0) : readT ng T.data.toList = (0, 2) := by
  have : T.data.toList = [] := List.eq_nil_of_length_eq_zero (by rw [size_data]; exact h)
  unfold readT; rw [if_pos (.inl this)]
theorem readT_zero {ng : Bool} {T : ByteArray} (h0 : 0 < T.size) (hc : (T[0].toNat : Int) = 48) (h : 1 < T.size ∨ ng = true) : readT ng T.data.toList = (0, 2) := by
  have e : T.data.toList.headD 0 = 48 := by rw [head_data T h0]; apply UInt8.toNat.inj; show _ = 48; omega
  unfold readT; rw [if_pos (.inr ⟨e, by rw [size_data]; exact h⟩)]
theorem readT_on {ng : Bool} {T : ByteArray} (h0 : 0 < T.size) (h : (T[0].toNat : Int) ≠ 48 ∨ (T.size = 1 ∧ ng = false)) :
    readT ng T.data.toList = if T.data.toList.all digB = false then (0, 2) else if 19 < T.size then (0, 8)
      else if ng = true then (if valN T.data.toList ≤ 9223372036854775808 then (-(valN T.data.toList : Int), 0) else (0, 8)) else if valN T.data.toList < 9223372036854775808 then ((valN T.data.toList : Int), 0) else (0, 8) := by
  unfold readT
  rw [if_neg, size_data]
  rintro (e | ⟨e, e'⟩)
  · have := size_data T; rw [e] at this; simp at this; omega
  · rcases h with h | ⟨h, h'⟩
    · rw [head_data T h0] at e; apply h; rw [e]; rfl
    · rw [size_data] at e'
      rcases e' with e' | e'
      · omega
      · rw [h'] at e'; cases e'
/-- The first k bytes are digits. -/
def Digs (T : ByteArray) (k : Nat) : Prop := ∀ j (h : j < T.size), j < k → digB T[j] = true
theorem Digs.next {s : ByteArray} {k : Nat} (h : Digs s k) (hk : k < s.size) (hc : digB s[k] = true) : Digs s (k + 1) := fun j hj hlt => by
  by_cases e : j = k
  · subst e; exact hc
  · exact h j hj (by omega)
theorem Digs.all {s : ByteArray} (h : Digs s s.size) : s.data.toList.all digB = true := by
  rw [List.all_eq_true]
  intro c hc
  obtain ⟨k, hk⟩ := List.mem_iff_getElem?.1 hc
  have hl : k < s.size := by rw [← size_data]; exact (List.getElem?_eq_some_iff.1 hk).1
  rw [get_data s k hl] at hk
  injection hk with hk
  rw [← hk]; exact h k hl hl
theorem digs_not {s : ByteArray} {k : Nat} (hk : k < s.size) (h : digB s[k] = false) : s.data.toList.all digB = false := by
  rw [List.all_eq_false]
  exact ⟨s[k], List.mem_of_getElem? (get_data s k hk), by simp [h]⟩
theorem all_at {s : ByteArray} (h : s.data.toList.all digB = true) {k : Nat} (hk : k < s.size) : 48 ≤ s[k].toNat ∧ s[k].toNat ≤ 57 := by
  rw [List.all_eq_true] at h
  have := h _ (List.mem_of_getElem? (get_data s k hk))
  unfold digB at this; rwa [decide_eq_true_eq] at this
theorem digB_int (c : UInt8) : (digB c = true ∧ 48 ≤ (c.toNat : Int) ∧ (c.toNat : Int) ≤ 57) ∨ (digB c = false ∧ ((c.toNat : Int) < 48 ∨ 57 < (c.toNat : Int))) := by
  unfold digB
  by_cases h : 48 ≤ c.toNat ∧ c.toNat ≤ 57
  · exact .inl ⟨by rw [decide_eq_true_eq]; exact h, by omega⟩
  · exact .inr ⟨by rw [decide_eq_false_iff_not]; exact h, by omega⟩
theorem valN_mono : ∀ (r : List UInt8) (a : Nat), a ≤ r.foldl stepN a
  | [], a => Nat.le_refl _
  | c :: r, a => Nat.le_trans (by unfold stepN; omega) (valN_mono r (stepN a c))
theorem valN_take_le (l : List UInt8) (k : Nat) : valN (l.take k) ≤ valN l := by
  have e : valN l = (l.drop k).foldl stepN (valN (l.take k)) := by
    unfold valN; rw [← List.foldl_append, List.take_append_drop]
  rw [e]; exact valN_mono _ _
theorem valN_next {s : ByteArray} {k : Nat} (hk : k < s.size) : valN (s.data.toList.take (k + 1)) = valN (s.data.toList.take k) * 10 + (s[k].toNat - 48) := by
  rw [List.take_add_one, get_data s k hk, Option.toList_some, valN_snoc]
theorem valN_lt : ∀ (l : List UInt8), l.all digB = true → valN l < 10 ^ l.length := by
  intro l
  induction h : l.length generalizing l with
  | zero => intro _; obtain rfl := List.eq_nil_of_length_eq_zero h; decide
  | succ n ih =>
    intro hd
    obtain ⟨r, c, rfl⟩ := list_snoc l (by intro e; rw [e] at h; cases h)
    rw [List.all_append, Bool.and_eq_true] at hd
    have hc : digB c = true := by simpa using hd.2
    unfold digB at hc
    rw [decide_eq_true_eq] at hc
    have hl : r.length = n := by simpa using h
    have := ih r hl hd.1
    rw [valN_snoc, Nat.pow_succ]; omega
theorem valN_19 {l : List UInt8} (h : l.all digB = true) (hl : l.length ≤ 19) : valN l ≤ 9999999999999999999 := by
  have h1 := valN_lt l h
  have h2 : (10 : Nat) ^ l.length ≤ 10 ^ 19 := Nat.pow_le_pow_right (by decide) hl
  have h3 : (10 : Nat) ^ 19 = 10000000000000000000 := by decide
  omega
theorem neg_conv (u : Nat) (h : u ≤ 9223372036854775808) : wrap64 (IntKind.u64.wrap (-(u : Int))) = -(u : Int) := by
  rw [IntKind.wrap_u64]; unfold wrap64; omega
theorem readT_bad {ng : Bool} {T : ByteArray} (h0 : 0 < T.size) (h : (T[0].toNat : Int) ≠ 48 ∨ (T.size = 1 ∧ ng = false)) {k : Nat} (hk : k < T.size) (hc : digB T[k] = false) : readT ng T.data.toList = (0, 2) := by
  rw [readT_on h0 h, if_pos (digs_not hk hc)]
theorem readT_long {ng : Bool} {T : ByteArray} (h0 : 0 < T.size) (h : (T[0].toNat : Int) ≠ 48 ∨ (T.size = 1 ∧ ng = false)) (hd : T.data.toList.all digB = true) (hl : 19 < T.size) : readT ng T.data.toList = (0, 8) := by
  rw [readT_on h0 h, if_neg (by rw [hd]; decide), if_pos hl]
theorem readT_pos {T : ByteArray} (h0 : 0 < T.size) (h : (T[0].toNat : Int) ≠ 48 ∨ (T.size = 1 ∧ false = false)) (hd : T.data.toList.all digB = true) (hl : ¬19 < T.size) :
    readT false T.data.toList = if valN T.data.toList < 9223372036854775808 then ((valN T.data.toList : Int), 0) else (0, 8) := by
  rw [readT_on h0 h, if_neg (by rw [hd]; decide), if_neg hl, if_neg (by decide)]
theorem readT_neg {T : ByteArray} (h0 : 0 < T.size) (h : (T[0].toNat : Int) ≠ 48 ∨ (T.size = 1 ∧ true = false)) (hd : T.data.toList.all digB = true) (hl : ¬19 < T.size) :
    readT true T.data.toList = if valN T.data.toList ≤ 9223372036854775808 then (-(valN T.data.toList : Int), 0) else (0, 8) := by
  rw [readT_on h0 h, if_neg (by rw [hd]; decide), if_neg hl, if_pos rfl]
theorem pos_conv (u : Nat) (h : u < 9223372036854775808) : wrap64 (u : Int) = (u : Int) := IntWalk.wrap64_in _ ⟨by omega, by omega⟩
end Go.Proofs.YtjfnpklknehiiaaDoor
