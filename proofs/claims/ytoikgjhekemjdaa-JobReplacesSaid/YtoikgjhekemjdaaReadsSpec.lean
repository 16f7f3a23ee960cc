/-
  What Reads computes, in plain Lean: the groups of the first k rows, and the rows that the last group can still take.
-/
import Derived.Test.YtoikgjhekemjdaaLL
namespace Go.Proofs.Ytoikgjhekemjdaa
open Go.RowKit
def addLast (gs : List (List Int)) (i : Int) : List (List Int) := gs.dropLast ++ [gs.getLast?.getD [] ++ [i]]
def grpStep (b : Int) (st : List (List Int) × Int) (i : Nat) (x : Int) : List (List Int) × Int :=
  if st.1 = [] ∨ st.2 < x then (addLast (st.1 ++ [[]]) i, b - x) else (addLast st.1 i, st.2 - x)
def grp (b : Int) (zs : List Int) : Nat → List (List Int) × Int
  | 0 => ([], 0)
  | k + 1 => grpStep b (grp b zs k) k (zs.getD k 0)
def badRow (b x : Int) : Bool := decide (x < 1 ∨ 1024 < x ∨ b < x)
def reads (zs : List Int) (b : Int) : List (List Int) := if zs.any (badRow b) then [] else (grp b zs zs.length).1

theorem addLast_snoc (gs : List (List Int)) (g : List Int) (i : Int) : addLast (gs ++ [g]) i = gs ++ [g ++ [i]] := by simp [addLast]
theorem getD_of {zs : List Int} {k : Nat} {x : Int} (h : zs[k]? = some x) : zs.getD k 0 = x := by simp [List.getD, h]
theorem grp_new {b : Int} {zs : List Int} {k : Nat} {x : Int} {gs : List (List Int)} {left : Int} (hx : zs[k]? = some x) (h : grp b zs k = (gs, left)) (hc : gs = [] ∨ left < x) : grp b zs (k + 1) = (gs ++ [[] ++ [(k : Int)]], b - x) := by
  simp only [grp, h, getD_of hx, grpStep]
  rw [if_pos hc, addLast_snoc]
theorem grp_same {b : Int} {zs : List Int} {k : Nat} {x : Int} {gs : List (List Int)} {cur : List Int} {left : Int} (hx : zs[k]? = some x) (h : grp b zs k = (gs ++ [cur], left)) (hc : ¬ left < x) : grp b zs (k + 1) = (gs ++ [cur ++ [(k : Int)]], left - x) := by
  simp only [grp, h, getD_of hx, grpStep]
  rw [if_neg (by simp; omega), addLast_snoc]
theorem reads_bad {zs : List Int} {b : Int} {k : Nat} {x : Int} (hx : zs[k]? = some x) (h : x < 1 ∨ 1024 < x ∨ b < x) : reads zs b = [] := by
  unfold reads
  rw [if_pos]
  rw [List.any_eq_true]
  exact ⟨x, List.mem_of_getElem? hx, by simpa [badRow] using h⟩
theorem reads_good {zs : List Int} {b : Int} (h : ∀ (k : Nat) (x : Int), zs[k]? = some x → 1 ≤ x ∧ x ≤ 1024 ∧ x ≤ b) : reads zs b = (grp b zs zs.length).1 := by
  unfold reads
  rw [if_neg]
  rw [List.any_eq_true]
  rintro ⟨x, hx, hb⟩
  obtain ⟨k, hk⟩ := List.mem_iff_getElem?.1 hx
  have := h k x hk
  simp [badRow] at hb
  omega
theorem good_next {zs : List Int} {b : Int} {k : Nat} {x : Int} (h : ∀ (j : Nat) (y : Int), j < k → zs[j]? = some y → 1 ≤ y ∧ y ≤ 1024 ∧ y ≤ b) (hx : zs[k]? = some x) (hg : 1 ≤ x ∧ x ≤ 1024 ∧ x ≤ b) : ∀ (j : Nat) (y : Int), j < k + 1 → zs[j]? = some y → 1 ≤ y ∧ y ≤ 1024 ∧ y ≤ b := by
  intro j y hj hy
  by_cases e : j = k
  · subst e; rw [hx] at hy; injection hy with hy; subst hy; exact hg
  · exact h j y (by omega) hy
theorem good_all {zs : List Int} {b : Int} (h : ∀ (j : Nat) (y : Int), j < zs.length → zs[j]? = some y → 1 ≤ y ∧ y ≤ 1024 ∧ y ≤ b) : ∀ (k : Nat) (x : Int), zs[k]? = some x → 1 ≤ x ∧ x ≤ 1024 ∧ x ≤ b :=
  fun k x hx => h k x (List.getElem?_eq_some_iff.1 hx).1 hx
/-- The rows left are never negative, never above the budget, and there are at most as many groups as rows. -/
theorem grp_bounds {b : Int} {zs : List Int} (h0 : 0 ≤ b) : ∀ k, (∀ (j : Nat) (y : Int), j < k → zs[j]? = some y → 1 ≤ y ∧ y ≤ 1024 ∧ y ≤ b) → k ≤ zs.length → 0 ≤ (grp b zs k).2 ∧ (grp b zs k).2 ≤ b ∧ (grp b zs k).1.length ≤ k := by
  intro k
  induction k with
  | zero => intro _ _; simp [grp]; omega
  | succ k ih =>
    intro h hk
    obtain ⟨h1, h2, h3⟩ := ih (fun j y hj => h j y (by omega)) (by omega)
    have hx : zs[k]? = some zs[k] := List.getElem?_eq_getElem (by omega)
    have hg := h k _ (by omega) hx
    rcases hst : grp b zs k with ⟨gs, left⟩
    rw [hst] at h1 h2 h3
    simp only at h1 h2 h3
    by_cases hc : gs = [] ∨ left < zs[k]
    · rw [grp_new hx hst hc]; simp; omega
    · rcases List.eq_nil_or_concat gs with rfl | ⟨gs', cur, rfl⟩
      · simp at hc
      · rw [List.concat_eq_append] at hst h3
        rw [grp_same hx hst (fun e => hc (.inr e))]; simp at h3 ⊢; omega
/-- The groups hold all indices in order. -/
theorem grp_flat (b : Int) (zs : List Int) : ∀ k, k ≤ zs.length → (grp b zs k).1.flatten = (List.range k).map (fun (i : Nat) => (i : Int)) := by
  intro k
  induction k with
  | zero => intro _; rfl
  | succ k ih =>
    intro hk
    have ih' := ih (by omega)
    have hx : zs[k]? = some zs[k] := List.getElem?_eq_getElem (by omega)
    rcases hst : grp b zs k with ⟨gs, left⟩
    rw [hst] at ih'
    simp only at ih'
    rw [List.range_succ, List.map_append, ← ih']
    by_cases hc : gs = [] ∨ left < zs[k]
    · rw [grp_new hx hst hc]; simp
    · rcases List.eq_nil_or_concat gs with rfl | ⟨gs', cur, rfl⟩
      · simp at hc
      · rw [List.concat_eq_append] at hst ⊢
        rw [grp_same hx hst (fun e => hc (.inr e))]; simp
theorem cur_le {b : Int} {zs : List Int} {k : Nat} {gs : List (List Int)} {cur : List Int} {left : Int} (hk : k ≤ zs.length) (h : grp b zs k = (gs ++ [cur], left)) : cur.length ≤ k := by
  have e := grp_flat b zs k hk
  rw [h] at e
  have := congrArg List.length e
  simp at this
  omega
end Go.Proofs.Ytoikgjhekemjdaa
