/-
  Decimal numbers with a greater scale, in plain Lean: the number, and the text.
-/
import Derived.Test.YtjnamjkdjcndiaaDoorDecFmt
namespace Go.Proofs.YtjnamjkdjcndiaaDoor
theorem decDigits_ten {m : Nat} (h : 1 ≤ m) : Lib.decDigits (m * 10) = Lib.decDigits m ++ [48] := by
  rw [Lib.decDigits.eq_def (m * 10), dif_neg (by omega), show m * 10 / 10 = m by omega, show m * 10 % 10 = 0 by omega]
  rfl
theorem decDigits_pow {m : Nat} (h : 1 ≤ m) : ∀ d, Lib.decDigits (m * 10 ^ d) = Lib.decDigits m ++ List.replicate d 48
  | 0 => by simp
  | d + 1 => by
    have hp : 1 ≤ m * 10 ^ d := Nat.mul_pos h (Nat.pow_pos (by decide))
    rw [Nat.pow_succ, ← Nat.mul_assoc, decDigits_ten hp, decDigits_pow h d, List.append_assoc, List.replicate_succ']
theorem padL_shift (m a d : Nat) : padL (m * 10 ^ d) (a + d) = padL m a ++ List.replicate d 48 := by
  unfold padL
  rw [Lib.itoa_nonneg, Lib.itoa_nonneg]
  by_cases h : m = 0
  · subst h
    have e0 : Lib.decDigits 0 = [48] := by rw [Lib.decDigits.eq_def, dif_pos (by omega)]; rfl
    rw [Nat.zero_mul, e0]
    simp only [List.length_cons, List.length_nil]
    rw [show a + d + 1 - (0 + 1) = a + d by omega, show a + 1 - (0 + 1) = a by omega, ← List.replicate_succ' , ← List.replicate_succ', List.replicate_append_replicate]
    congr 1; omega
  · have h1 : 1 ≤ m := by omega
    rw [decDigits_pow h1, List.length_append, List.length_replicate, List.append_assoc, show a + d + 1 - ((Lib.decDigits m).length + d) = a + 1 - (Lib.decDigits m).length by omega]
/-- The text with a greater scale has more zeros only (and the point, where there was none). -/
theorem decStr_up (neg : Bool) (m a d : Nat) : decStr neg (m * 10 ^ d) (a + d) = decStr neg m a ++ (if a = 0 ∧ 0 < d then [46] else []) ++ List.replicate d 48 := by
  by_cases hd : d = 0
  · subst hd; simp
  · have hp := padL_len m a
    unfold decStr
    rw [padL_shift, if_neg (show ¬(a + d = 0) by omega), List.length_append, List.length_replicate, show (padL m a).length + d - (a + d) = (padL m a).length - a by omega]
    rw [List.take_append_of_le_length (by omega), List.drop_append_of_le_length (by omega)]
    by_cases ha : a = 0
    · subst ha
      rw [Nat.sub_zero, List.take_length, List.drop_length]
      have hd' : 0 < d := by omega
      simp [hd']
    · simp [ha]
theorem upN_some : ∀ (k : Nat) (n x : Int), -999999999999999999 ≤ n → n ≤ 999999999999999999 → upN k n = some x → x = n * 10 ^ k ∧ -999999999999999999 ≤ x ∧ x ≤ 999999999999999999
  | 0, n, x, h0, h1, h => by simp only [upN, Option.some.injEq] at h; subst h; exact ⟨by simp, h0, h1⟩
  | k + 1, n, x, h0, h1, h => by
    simp only [upN] at h
    split at h
    · cases h
    · obtain ⟨e, b⟩ := upN_some k (n * 10) x (by omega) (by omega) h
      refine ⟨?_, b⟩
      rw [e, Int.mul_assoc, Int.pow_succ, Int.mul_comm 10]
theorem downN_pow : ∀ (k : Nat) (n : Int), downN k (n * 10 ^ k) = some n
  | 0, n => by simp [downN]
  | k + 1, n => by
    have e : n * 10 ^ (k + 1) = n * 10 ^ k * 10 := by rw [Int.pow_succ, Int.mul_assoc]
    simp only [downN, e]
    rw [if_pos (Int.mul_tmod_left _ _), Int.mul_tdiv_cancel _ (by decide)]
    exact downN_pow k n
end Go.Proofs.YtjnamjkdjcndiaaDoor
