/-
  Predicates whose nodes are repeated: the lengths of their texts double.
-/
import Derived.Test.YtjnamjkdjcndiaaDoorPTwo
namespace Go.Proofs.YtjnamjkdjcndiaaDoor
def longP : Nat → List Nd
  | 0 => [nd22 8 1 0 0 0]
  | k + 1 => longP k ++ [nd22 9 0 0 k k]
theorem longP_len : ∀ k, (longP k).length = k + 1
  | 0 => rfl
  | k + 1 => by show (longP k ++ _).length = _; rw [List.length_append, longP_len k]; rfl
theorem longP_chk : ∀ k, k < 63 → pchkV twoC 0 (longP k) = 0 := by decide +kernel
theorem longP_mem : ∀ {k : Nat} {x : Nd}, x ∈ longP k → x.l = [] ∧ VR x.v
  | 0, x, h => by
    simp [longP] at h; subst h; exact ⟨rfl, vr_small (by decide) (by decide)⟩
  | k + 1, x, h => by
    rcases List.mem_append.1 h with h | h
    · exact longP_mem h
    · simp at h; subst h; exact ⟨rfl, vr_small (by decide) (by decide)⟩
theorem longP_bd {k : Nat} (hk : k < 63) : PBd twoC (longP k) := two_bd (by rw [longP_len]; omega) (fun x hx => (longP_mem hx).2) (fun x hx => (longP_mem hx).1)
theorem longP_get : ∀ {m k : Nat}, k ≤ m → (longP m)[k]? = (longP k)[k]?
  | 0, k, h => by obtain rfl : k = 0 := by omega
                  rfl
  | m + 1, k, h => by
    by_cases e : k = m + 1
    · subst e; rfl
    · rw [← longP_get (m := m) (k := k) (by omega)]
      show (longP m ++ _)[k]? = _
      rw [List.getElem?_append_left (by rw [longP_len]; omega)]
theorem longP_at {m k : Nat} (h : k + 1 ≤ m) : (longP m)[k + 1]? = some (nd22 9 0 0 k k) := by
  rw [longP_get h]
  show (longP k ++ _)[k + 1]? = _
  rw [List.getElem?_append_right (by rw [longP_len]; omega), longP_len, Nat.sub_self]; rfl
def lenF : Nat → Nat
  | 0 => 12
  | k + 1 => min (7 + lenF k + lenF k) 65537
theorem lenF_siz {m : Nat} : ∀ {k : Nat}, k ≤ m → sizI twoC (longP m) k = lenF k
  | 0, _ => by
    have h0 : (longP m)[0]? = some (nd22 8 1 0 0 0) := by rw [longP_get (Nat.zero_le m)]; rfl
    have ht : txtI twoC (longP m) 0 = [40, 110, 117, 108, 108, 32, 112, 114, 105, 99, 101, 41] := by
      rw [txt_leaf (cs := twoC) (i := 0) h0 (by decide)]; rfl
    rw [siz_leaf (cs := twoC) (i := 0) h0 (by decide), ← txt_leaf (cs := twoC) (i := 0) h0 (by decide), ht]; rfl
  | k + 1, h => by
    rw [siz_two (cs := twoC) (longP_at h) (by show ¬ ((9 : Int) < 9); decide) (by show (9 : Int) ≠ 11; decide) (by show ((k : Int)).toNat < k + 1; omega) (by show ((k : Int)).toNat < k + 1; omega)]
    have ih := lenF_siz (k := k) (show k ≤ m by omega)
    rw [show (nd22 9 0 0 k k).a.toNat = k by show ((k : Int)).toNat = k; omega, show (nd22 9 0 0 k k).b.toNat = k by show ((k : Int)).toNat = k; omega, ih]
    show min (4 + (wordP 9).length + lenF k + lenF k) 65537 = _
    rw [show (wordP 9).length = 3 by decide]; rfl
theorem lenF_big : ∀ k, k < 63 → (lenF k ≤ 65536 ↔ k ≤ 11) := by decide +kernel
theorem longP_fmt {k : Nat} (hk : k < 63) : (fmtP twoC 0 (longP k)).2 = if k ≤ 11 then 0 else 7 := by
  unfold fmtP
  rw [if_neg (by rw [longP_chk k hk]; decide), if_neg (by rw [longP_len]; omega), longP_len, Nat.add_sub_cancel, lenF_siz (Nat.le_refl k)]
  have := lenF_big k hk
  by_cases h : k ≤ 11
  · rw [if_neg (by omega), if_pos h]
  · rw [if_pos (by omega), if_neg h]
end Go.Proofs.YtjnamjkdjcndiaaDoor
