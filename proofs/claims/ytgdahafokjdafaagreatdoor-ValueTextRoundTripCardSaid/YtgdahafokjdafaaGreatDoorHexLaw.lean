/-
  The text of bytes that Format writes reads as the bytes.
-/
import Derived.Test.YtgdahafokjdafaaGreatDoorBase
import Derived.Test.YtgdahafokjdafaaGreatDoorVFmt1
namespace Go.Proofs.YtgdahafokjdafaaGreatDoor
theorem hexV_C {c : Nat} (h : c < 16) : hexV (hexC c) = c := by
  have : ∀ n : Fin 16, hexV (hexC n.val) = n.val := by decide +kernel
  exact this ⟨c, h⟩
theorem hexL_len (l : List UInt8) : (hexL l).length = 2 * l.length := by
  induction l with
  | nil => rfl
  | cons c r ih => simp only [hexL, List.flatMap_cons, List.length_append, List.length_cons, List.length_nil] at ih ⊢; omega
theorem hexL_get : ∀ {l : List UInt8} {j : Nat} {c : UInt8}, l[j]? = some c → (hexL l)[2 * j]? = some (hexC (c.toNat / 16)) ∧ (hexL l)[2 * j + 1]? = some (hexC (c.toNat % 16))
  | [], j, c, h => by simp at h
  | x :: r, 0, c, h => by
    simp at h; subst h
    exact ⟨rfl, rfl⟩
  | x :: r, j + 1, c, h => by
    have ih := hexL_get (l := r) (j := j) (c := c) (by simpa using h)
    have e : hexL (x :: r) = [hexC (x.toNat / 16), hexC (x.toNat % 16)] ++ hexL r := rfl
    rw [e]
    constructor
    · rw [List.getElem?_append_right (by simp; omega)]
      simp only [List.length_cons, List.length_nil]
      rw [show 2 * (j + 1) - (0 + 1 + 1) = 2 * j by omega]; exact ih.1
    · rw [List.getElem?_append_right (by simp; omega)]
      simp only [List.length_cons, List.length_nil]
      rw [show 2 * (j + 1) + 1 - (0 + 1 + 1) = 2 * j + 1 by omega]; exact ih.2
def hexT (l : List UInt8) : List UInt8 := 34 :: (hexL l ++ [34])
theorem hexT_len (l : List UInt8) : (hexT l).length = 2 * l.length + 2 := by unfold hexT; simp only [List.length_cons, List.length_append, List.length_nil, hexL_len]
theorem hexT_get {l : List UInt8} {j : Nat} {c : UInt8} (h : l[j]? = some c) : (hexT l).getD (1 + 2 * j) 0 = hexC (c.toNat / 16) ∧ (hexT l).getD (2 + 2 * j) 0 = hexC (c.toNat % 16) := by
  have hj := (List.getElem?_eq_some_iff.1 h).1
  obtain ⟨h1, h2⟩ := hexL_get h
  have hl := hexL_len l
  constructor
  · rw [List.getD_eq_getElem?_getD]
    unfold hexT
    rw [show 1 + 2 * j = 2 * j + 1 by omega, List.getElem?_cons_succ, List.getElem?_append_left (by omega), h1]; rfl
  · rw [List.getD_eq_getElem?_getD]
    unfold hexT
    rw [show 2 + 2 * j = 2 * j + 1 + 1 by omega, List.getElem?_cons_succ, List.getElem?_append_left (by omega), h2]; rfl
theorem byt_back {l : List UInt8} (h : l.length ≤ 64) : bytV (hexT l) = (l, 0) := by
  have hlen := hexT_len l
  have hn : ((hexT l).length - 2) / 2 = l.length := by omega
  have hq : ∀ (j : Nat) (c : UInt8), l[j]? = some c → okQ (hexT l) j = true ∧ hexQ (hexT l) j = c := by
    intro j c hc
    obtain ⟨h1, h2⟩ := hexT_get hc
    have hlt := c.toNat_lt
    have e1 : hexA (hexT l) j = c.toNat / 16 := by unfold hexA; rw [h1, hexV_C (by omega)]
    have e2 : hexD (hexT l) j = c.toNat % 16 := by unfold hexD; rw [h2, hexV_C (by omega)]
    constructor
    · unfold okQ; rw [e1, e2, decide_eq_true_eq]; omega
    · unfold hexQ; rw [e1, e2, show 16 * (c.toNat / 16) + c.toNat % 16 = c.toNat by omega]; exact UInt8.ofNat_toNat
  have ha : allQ (hexT l) l.length = true := by
    unfold allQ
    rw [List.all_eq_true]
    intro j hj
    have hj' := List.mem_range.1 hj
    exact (hq j _ (List.getElem?_eq_getElem hj')).1
  have ho : outQ (hexT l) l.length = l := by
    apply List.ext_getElem?
    intro j
    unfold outQ
    rw [List.getElem?_map]
    by_cases hj : j < l.length
    · rw [List.getElem?_range hj, List.getElem?_eq_getElem hj]
      exact congrArg some (hq j _ (List.getElem?_eq_getElem hj)).2
    · rw [List.getElem?_eq_none (by rw [List.length_range]; omega), List.getElem?_eq_none (by omega)]; rfl
  have hlast : (hexT l).getD ((hexT l).length - 1) 0 = 34 := by
    rw [List.getD_eq_getElem?_getD, hlen]
    unfold hexT
    rw [show 2 * l.length + 2 - 1 = 2 * l.length + 1 by omega, List.getElem?_cons_succ, List.getElem?_append_right (by rw [hexL_len]; omega), hexL_len, Nat.sub_self]; rfl
  unfold bytV
  rw [if_neg, hn, ha, if_neg (by decide), if_neg (by omega), ho]
  rintro (h1 | h1 | h1 | h1)
  · omega
  · omega
  · exact h1 rfl
  · exact h1 hlast
end Go.Proofs.YtgdahafokjdafaaGreatDoor
