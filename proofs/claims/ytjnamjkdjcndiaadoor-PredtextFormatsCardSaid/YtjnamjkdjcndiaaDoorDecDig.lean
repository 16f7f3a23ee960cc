/-
  The digits of a number as the reference makes them, in plain Lean.
-/
import Derived.Test.YtjnamjkdjcndiaaDoorDecLaw
namespace Go.Proofs.YtjnamjkdjcndiaaDoor
/-- At least k digits of n; none of 0 beyond those. -/
def digL (n k : Nat) : List UInt8 := List.replicate (k - (if n = 0 then [] else Lib.decDigits n).length) 48 ++ (if n = 0 then [] else Lib.decDigits n)
theorem dd_small {c : Nat} (h : c < 10) : Lib.decDigits c = [UInt8.ofNat (48 + c)] := by rw [Lib.decDigits.eq_def, dif_pos h]
theorem dd_snoc {a c : Nat} (ha : 1 ≤ a) (hc : c < 10) : Lib.decDigits (a * 10 + c) = Lib.decDigits a ++ [UInt8.ofNat (48 + c)] := by
  rw [Lib.decDigits.eq_def (a * 10 + c), dif_neg (by omega), show (a * 10 + c) / 10 = a by omega, show (a * 10 + c) % 10 = c by omega]
theorem digL_snoc (a c j : Nat) (hc : c < 10) : digL (a * 10 + c) (j + 1) = digL a j ++ [UInt8.ofNat (48 + c)] := by
  unfold digL
  by_cases ha : a = 0
  · subst ha
    by_cases h0 : c = 0
    · subst h0; simp [List.replicate_succ']
    · rw [if_neg (by omega), if_pos rfl, show 0 * 10 + c = c by omega, dd_small hc]
      simp
  · rw [if_neg (by omega), if_neg ha, dd_snoc (by omega) hc, List.length_append, List.length_singleton, ← List.append_assoc]
    congr 2; congr 1; omega
theorem padL_snoc (m j : Nat) : padL m (j + 1) = padL (m / 10) j ++ [UInt8.ofNat (48 + m % 10)] := by
  unfold padL
  rw [Lib.itoa_nonneg, Lib.itoa_nonneg]
  by_cases h : m < 10
  · rw [show m / 10 = 0 by omega, show m % 10 = m by omega, dd_small h, dd_small (show 0 < 10 by omega)]
    simp only [List.length_singleton]
    rw [show j + 1 + 1 - 1 = j + 1 by omega, show j + 1 - 1 = j by omega, List.replicate_succ']
    rfl
  · have e := dd_snoc (a := m / 10) (c := m % 10) (by omega) (by omega)
    rw [show m / 10 * 10 + m % 10 = m by omega] at e
    rw [e, List.length_append, List.length_singleton, ← List.append_assoc]
    congr 2; congr 1; omega
theorem padL_split : ∀ (j m : Nat), padL m j = digL (m / 10 ^ j) 1 ++ digL (m % 10 ^ j) j ∧ (digL (m % 10 ^ j) j).length = j
  | 0, m => by
    simp only [Nat.pow_zero, Nat.div_one, Nat.mod_one]
    refine ⟨?_, rfl⟩
    have e0 : digL 0 0 = [] := rfl
    rw [e0, List.append_nil]
    unfold padL digL
    rw [Lib.itoa_nonneg]
    by_cases h : m = 0
    · subst h; rw [if_pos rfl, dd_small (by omega)]; rfl
    · rw [if_neg h, Lib.decDigits_length]
  | j + 1, m => by
    obtain ⟨e, l⟩ := padL_split j (m / 10)
    have h1 : m / 10 / 10 ^ j = m / 10 ^ (j + 1) := by rw [Nat.div_div_eq_div_mul, Nat.pow_succ, Nat.mul_comm]
    have h2 : m % 10 ^ (j + 1) = m / 10 % 10 ^ j * 10 + m % 10 := by
      rw [Nat.pow_succ, Nat.mul_comm (10 ^ j) 10, Nat.mod_mul]; omega
    rw [padL_snoc, e, h1, h2, digL_snoc _ _ _ (by omega), List.append_assoc]
    exact ⟨rfl, by rw [List.length_append, l]; rfl⟩
end Go.Proofs.YtjnamjkdjcndiaaDoor
