/-
  What the groups of Reads are like, in plain Lean.
-/
import Derived.Test.YtdffmkbcjnonaaaReadsSpec
namespace Go.Proofs.Ytdffmkbcjnonaaa
open Go.RowKit
/-- The rows of a group. -/
def gsum (zs : List Int) (g : List Int) : Int := (g.map (fun x => zs.getD x.toNat 0)).sum
theorem gsum_snoc (zs g : List Int) (x : Int) : gsum zs (g ++ [x]) = gsum zs g + zs.getD x.toNat 0 := by simp [gsum]
structure GP (b : Int) (zs : List Int) (gs : List (List Int)) : Prop where
  ne : ∀ (i : Nat) (g : List Int), gs[i]? = some g → g ≠ []
  le : ∀ (i : Nat) (g : List Int), gs[i]? = some g → gsum zs g ≤ b
  no : ∀ (i : Nat) (g g' : List Int), gs[i]? = some g → gs[i + 1]? = some g' → b < gsum zs g + zs.getD (g'.headD 0).toNat 0
theorem snoc_get {α : Type} {l : List α} {a x : α} {i : Nat} (h : (l ++ [a])[i]? = some x) : (i < l.length ∧ l[i]? = some x) ∨ (i = l.length ∧ x = a) := by
  by_cases hi : i < l.length
  · rw [List.getElem?_append_left hi] at h; exact .inl ⟨hi, h⟩
  · rw [List.getElem?_append_right (by omega)] at h
    rcases hj : i - l.length with _ | m
    · rw [hj] at h; simp at h; exact .inr ⟨by omega, h.symm⟩
    · rw [hj] at h; simp at h
theorem GP.new {b : Int} {zs : List Int} {gs : List (List Int)} {k : Nat} {x : Int} (h : GP b zs gs) (hx : zs[k]? = some x) (hb : x ≤ b) (hl : ∀ g, gs[gs.length - 1]? = some g → b < gsum zs g + x) : GP b zs (gs ++ [[] ++ [(k : Int)]]) := by
  have hs : gsum zs ([] ++ [(k : Int)]) = x := by simp [gsum, List.getD, hx]
  refine ⟨fun i g hg => ?_, fun i g hg => ?_, fun i g g' hg hg' => ?_⟩
  · rcases snoc_get hg with ⟨_, hg⟩ | ⟨_, rfl⟩
    · exact h.ne i g hg
    · simp
  · rcases snoc_get hg with ⟨_, hg⟩ | ⟨_, rfl⟩
    · exact h.le i g hg
    · omega
  · rcases snoc_get hg' with ⟨hi, hg'⟩ | ⟨hi, rfl⟩
    · rcases snoc_get hg with ⟨_, hg⟩ | ⟨hi2, _⟩
      · exact h.no i g g' hg hg'
      · omega
    · rcases snoc_get hg with ⟨_, hg⟩ | ⟨hi2, _⟩
      · have := hl g (by rw [show gs.length - 1 = i by omega]; exact hg)
        simp [List.getD, hx]; exact this
      · omega
theorem GP.same {b : Int} {zs : List Int} {gs : List (List Int)} {cur : List Int} {k : Nat} {x : Int} (h : GP b zs (gs ++ [cur])) (hx : zs[k]? = some x) (hb : gsum zs cur + x ≤ b) : GP b zs (gs ++ [cur ++ [(k : Int)]]) := by
  have hs : gsum zs (cur ++ [(k : Int)]) = gsum zs cur + x := by rw [gsum_snoc]; simp [List.getD, hx]
  have hc : (gs ++ [cur])[gs.length]? = some cur := by simp
  have hne := h.ne _ _ hc
  have hold : ∀ (i : Nat) (g : List Int), i < gs.length → gs[i]? = some g → (gs ++ [cur])[i]? = some g := fun i g hi hg => by rw [List.getElem?_append_left hi]; exact hg
  refine ⟨fun i g hg => ?_, fun i g hg => ?_, fun i g g' hg hg' => ?_⟩
  · rcases snoc_get hg with ⟨hi, hg⟩ | ⟨_, rfl⟩
    · exact h.ne i g (hold i g hi hg)
    · simp
  · rcases snoc_get hg with ⟨hi, hg⟩ | ⟨_, rfl⟩
    · exact h.le i g (hold i g hi hg)
    · omega
  · rcases snoc_get hg' with ⟨hi, hg'⟩ | ⟨hi, rfl⟩
    · rcases snoc_get hg with ⟨hi2, hg⟩ | ⟨hi2, _⟩
      · exact h.no i g g' (hold i g hi2 hg) (hold _ g' hi hg')
      · omega
    · rcases snoc_get hg with ⟨hi2, hg⟩ | ⟨hi2, _⟩
      · have := h.no i g cur (hold i g hi2 hg) (by rw [hi]; exact hc)
        cases cur with
        | nil => exact absurd rfl hne
        | cons a r => simpa using this
      · omega
theorem grp_GP {b : Int} {zs : List Int} (hb : 0 ≤ b) : ∀ k, (∀ (j : Nat) (y : Int), j < k → zs[j]? = some y → 1 ≤ y ∧ y ≤ 1024 ∧ y ≤ b) → k ≤ zs.length →
    GP b zs (grp b zs k).1 ∧ (∀ g, (grp b zs k).1[(grp b zs k).1.length - 1]? = some g → (grp b zs k).2 = b - gsum zs g) := by
  intro k
  induction k with
  | zero => intro _ _; exact ⟨⟨by simp [grp], by simp [grp], by simp [grp]⟩, by simp [grp]⟩
  | succ k ih =>
    intro h hk
    obtain ⟨h1, h2⟩ := ih (fun j y hj => h j y (by omega)) (by omega)
    have hx : zs[k]? = some zs[k] := List.getElem?_eq_getElem (by omega)
    have hg := h k _ (by omega) hx
    have hbd := grp_bounds (zs := zs) hb k (fun j y hj => h j y (by omega)) (by omega)
    rcases hst : grp b zs k with ⟨gs, left⟩
    rw [hst] at h1 h2 hbd
    simp only at h1 h2 hbd
    by_cases hc : gs = [] ∨ left < zs[k]
    · rw [grp_new hx hst hc]
      refine ⟨h1.new hx hg.2.2 (fun g hgl => ?_), ?_⟩
      · rcases hc with rfl | hc
        · simp at hgl
        · have := h2 g hgl; omega
      · intro g hgl
        simp at hgl
        subst hgl
        simp [gsum, List.getD, hx]
    · rcases List.eq_nil_or_concat gs with rfl | ⟨gs', cur, rfl⟩
      · simp at hc
      · rw [List.concat_eq_append] at hst h1 h2
        have hl := h2 cur (by simp)
        rw [grp_same hx hst (fun e => hc (.inr e))]
        refine ⟨h1.same hx (by have : ¬ left < zs[k] := fun e => hc (.inr e); omega), ?_⟩
        intro g hgl
        simp at hgl
        subst hgl
        rw [gsum_snoc]; simp [List.getD, hx]; omega
/-- Where a group stands among all indices. -/
def pos (gs : List (List Int)) (i : Nat) : Nat := (gs.take i).flatten.length
theorem pos_succ {gs : List (List Int)} {i : Nat} {g : List Int} (h : gs[i]? = some g) : pos gs (i + 1) = pos gs i + g.length := by
  have hi := (List.getElem?_eq_some_iff.1 h).1
  unfold pos
  rw [List.take_succ_eq_append_getElem hi]
  rw [List.getElem?_eq_getElem hi] at h
  injection h with h
  simp [h]
theorem pos_get {gs : List (List Int)} {n i j : Nat} {g : List Int} {x : Int} (hf : gs.flatten = (List.range n).map (fun (i : Nat) => (i : Int))) (hg : gs[i]? = some g) (hx : g[j]? = some x) : x = ((pos gs i + j : Nat) : Int) ∧ pos gs i + j < n := by
  have hi := (List.getElem?_eq_some_iff.1 hg).1
  have hj := (List.getElem?_eq_some_iff.1 hx).1
  have e : gs = gs.take i ++ g :: gs.drop (i + 1) := by
    rw [List.getElem?_eq_getElem hi] at hg
    injection hg with hg
    rw [← hg, ← List.drop_eq_getElem_cons hi, List.take_append_drop]
  have e2 : gs.flatten = (gs.take i).flatten ++ (g ++ (gs.drop (i + 1)).flatten) := by
    rw [congrArg List.flatten e]; simp
  have e3 : gs.flatten[pos gs i + j]? = some x := by
    rw [e2, List.getElem?_append_right (by unfold pos; omega)]
    rw [show pos gs i + j - (gs.take i).flatten.length = j by unfold pos; omega]
    rw [List.getElem?_append_left hj]; exact hx
  rw [hf] at e3
  rw [List.getElem?_map, List.getElem?_range] at e3
  · simp at e3
    refine ⟨e3.symm, ?_⟩
    have := congrArg List.length hf
    simp only [List.length_map, List.length_range] at this
    have h2 := congrArg List.length e2
    simp only [List.length_append] at h2
    unfold pos
    omega
  · have := congrArg List.length hf
    simp only [List.length_map, List.length_range] at this
    have h2 := congrArg List.length e2
    simp only [List.length_append] at h2
    unfold pos
    omega
theorem pos_all {gs : List (List Int)} {n : Nat} (hf : gs.flatten = (List.range n).map (fun (i : Nat) => (i : Int))) : pos gs gs.length = n := by
  unfold pos
  rw [List.take_length, hf]; simp
theorem gsum_take {zs g : List Int} {j : Nat} {x : Int} (h : g[j]? = some x) : gsum zs (g.take (j + 1)) = gsum zs (g.take j) + zs.getD x.toNat 0 := by
  have hj := (List.getElem?_eq_some_iff.1 h).1
  rw [List.take_succ_eq_append_getElem hj, gsum_snoc]
  rw [List.getElem?_eq_getElem hj] at h
  injection h with h
  rw [h]
theorem reads_GP {b : Int} {zs : List Int} (hb : 0 ≤ b) (h : ∀ (k : Nat) (x : Int), zs[k]? = some x → 1 ≤ x ∧ x ≤ 1024 ∧ x ≤ b) : GP b zs (reads zs b) ∧ (reads zs b).flatten = (List.range zs.length).map (fun (i : Nat) => (i : Int)) := by
  rw [reads_good h]
  exact ⟨(grp_GP hb zs.length (fun j y _ hy => h j y hy) (Nat.le_refl _)).1, grp_flat b zs _ (Nat.le_refl _)⟩
theorem reads_pos {b : Int} {zs : List Int} (h : ∀ (k : Nat) (x : Int), zs[k]? = some x → 1 ≤ x ∧ x ≤ 1024 ∧ x ≤ b) (hn : 0 < zs.length) : 0 < (reads zs b).length := by
  rw [reads_good h]
  have e := grp_flat b zs zs.length (Nat.le_refl _)
  rcases hg : (grp b zs zs.length).1 with _ | ⟨a, r⟩
  · rw [hg] at e
    have := congrArg List.length e
    simp at this
    omega
  · simp
end Go.Proofs.Ytdffmkbcjnonaaa
