/-
  What the parts of Outputs are like, in plain Lean.
-/
import Derived.Test.YtoikgjhekemjdaaLL
namespace Go.Proofs.Ytoikgjhekemjdaa
open Go.RowKit
/-- The parts of n live rows, at most r each; k parts at most are made. -/
def parts (r : Int) : Nat → Int → List Int
  | 0, _ => []
  | k + 1, n => if n ≤ 0 then [] else min n r :: parts r k (n - min n r)
def outs (live rows : Int) : List Int := if live < 1 ∨ rows < 1 ∨ 16384 < live then [] else parts rows live.toNat live
theorem parts_fuel (r : Int) (hr : 1 ≤ r) : ∀ (k : Nat) (n : Int), n.toNat ≤ k → parts r k n = parts r n.toNat n := by
  intro k
  induction k using Nat.strongRecOn with
  | _ k ih =>
    intro n hn
    rcases k with _ | k
    · have : n.toNat = 0 := by omega
      rw [this]
    · by_cases h : n ≤ 0
      · have : n.toNat = 0 := by omega
        rw [this]; simp [parts, h]
      · obtain ⟨m, hm⟩ : ∃ m, n.toNat = m + 1 := ⟨n.toNat - 1, by omega⟩
        rw [hm]
        simp only [parts, if_neg h]
        congr 1
        rw [ih k (by omega) _ (by omega), ih m (by omega) _ (by omega)]
theorem parts_step (r n : Int) (hr : 1 ≤ r) (hn : 0 < n) : parts r n.toNat n = min n r :: parts r (n - min n r).toNat (n - min n r) := by
  obtain ⟨m, hm⟩ : ∃ m, n.toNat = m + 1 := ⟨n.toNat - 1, by omega⟩
  rw [hm]
  simp only [parts, if_neg (by omega : ¬ n ≤ 0)]
  rw [parts_fuel r hr m _ (by omega)]
theorem parts_end (r n : Int) (hn : n ≤ 0) : parts r n.toNat n = [] := by
  have : n.toNat = 0 := by omega
  rw [this]; rfl

theorem parts_next (l : List Int) (r n : Int) (T : List Int) (x : Int) (hr : 1 ≤ r) (hn : 0 < n) (hx : min n r = x) (h : l ++ parts r n.toNat n = T) : l ++ [x] ++ parts r (n - x).toNat (n - x) = T := by
  rw [← h, parts_step r n hr hn, hx]; simp

theorem parts_length (r : Int) : ∀ (k : Nat) (n : Int), (parts r k n).length ≤ k := by
  intro k
  induction k with
  | zero => intro n; simp [parts]
  | succ k ih => intro n; simp only [parts]; split <;> simp; exact ih _
theorem outs_length (live rows : Int) : (outs live rows).length ≤ 16384 := by
  unfold outs
  split
  · simp
  · exact Nat.le_trans (parts_length _ _ _) (by omega)
theorem parts_props (r : Int) (hr : 1 ≤ r) : ∀ (k : Nat) (n : Int), 0 ≤ n → n ≤ k → (∀ (i : Nat) (x : Int), (parts r k n)[i]? = some x → 1 ≤ x ∧ x ≤ r ∧ (i + 1 < (parts r k n).length → x = r)) ∧ (parts r k n).sum = n ∧ ((parts r k n).length : Int) = (n + r - 1) / r := by
  intro k
  induction k with
  | zero =>
    intro n h0 h1
    have : n = 0 := by omega
    subst this
    refine ⟨fun i x h => by simp [parts] at h, by simp [parts], ?_⟩
    simp only [parts, List.length_nil]
    rw [Int.ediv_eq_zero_of_lt (by omega) (by omega)]; rfl
  | succ k ih =>
    intro n h0 h1
    by_cases hn : n ≤ 0
    · have : n = 0 := by omega
      subst this
      refine ⟨fun i x h => by simp [parts] at h, by simp [parts], ?_⟩
      simp only [parts, if_pos hn, List.length_nil]
      rw [Int.ediv_eq_zero_of_lt (by omega) (by omega)]; rfl
    · simp only [parts, if_neg hn]
      obtain ⟨i1, i2, i3⟩ := ih (n - min n r) (by omega) (by omega)
      have hdiv : (n + r - 1) / r = (n - 1) / r + 1 := by
        rw [show n + r - 1 = (n - 1) + 1 * r by omega, Int.add_mul_ediv_right _ _ (by omega)]
      refine ⟨fun i x hx => ?_, ?_, ?_⟩
      · rcases i with _ | i
        · simp at hx
          subst hx
          refine ⟨by omega, by omega, fun hlen => ?_⟩
          rcases Int.le_total n r with hle | hle
          · exfalso
            rw [show min n r = n by omega, show n - n = 0 by omega] at hlen
            have e : parts r k 0 = [] := by cases k <;> simp [parts]
            rw [e] at hlen; simp at hlen
          · omega
        · simp at hx
          obtain ⟨j1, j2, j3⟩ := i1 i x hx
          exact ⟨j1, j2, fun hlen => j3 (by simp at hlen; omega)⟩
      · simp only [List.sum_cons, i2]; omega
      · simp only [List.length_cons, Int.natCast_add, i3, hdiv]
        rcases Int.le_total n r with hle | hle
        · rw [show min n r = n by omega, show n - n + r - 1 = r - 1 by omega, Int.ediv_eq_zero_of_lt (by omega) (by omega), Int.ediv_eq_zero_of_lt (by omega) (by omega)]; rfl
        · rw [show min n r = r by omega, show n - r + r - 1 = n - 1 by omega]; rfl
theorem outs_props (live r : Int) (h1 : 1 ≤ live) (h2 : live ≤ 16384) (hr : 1 ≤ r) : (∀ (i : Nat) (x : Int), (outs live r)[i]? = some x → 1 ≤ x ∧ x ≤ r ∧ (i + 1 < (outs live r).length → x = r)) ∧ (outs live r).sum = live ∧ ((outs live r).length : Int) = (live + r - 1) / r := by
  have e : outs live r = parts r live.toNat live := by simp only [outs]; rw [if_neg (by omega)]
  rw [e]
  exact parts_props r hr _ _ (by omega) (by omega)
theorem sum_take_succ (l : List Int) (k : Nat) (x : Int) (h : l[k]? = some x) : (l.take (k + 1)).sum = (l.take k).sum + x := by
  have hk := (List.getElem?_eq_some_iff.1 h).1
  rw [List.take_succ_eq_append_getElem hk, List.sum_append]
  rw [List.getElem?_eq_getElem hk] at h
  injection h with h
  simp [h]
end Go.Proofs.Ytoikgjhekemjdaa
