/-
  What an Apply that succeeds leaves, in plain Lean.
-/
import Derived.Test.YtcjekbncllccbaaApplyLaw
namespace Go.Proofs.Ytcjekbncllccbaa
theorem erase_filter : ∀ {l : List Ent} {i : Int} {k : Nat}, Asc l → idxE l i = some k → l.eraseIdx k = l.filter fun e => decide (e.id ≠ i)
  | [], _, _, _, h => by cases h
  | x :: r, i, k, ha, h => by
    have hr := List.pairwise_cons.1 ha
    unfold idxE at h
    split at h
    · rename_i hx
      injection h with h
      subst h
      rw [List.eraseIdx_cons_zero, List.filter_cons]
      simp only [hx, ne_eq, not_true, decide_false, Bool.false_eq_true, if_false]
      symm
      rw [List.filter_eq_self]
      intro e he
      have := hr.1 e he
      simp; omega
    · rename_i hx
      cases hi : idxE r i with
      | none => rw [hi] at h; cases h
      | some j =>
        rw [hi] at h; simp at h; subst h
        rw [List.eraseIdx_cons_succ, List.filter_cons]
        simp only [hx, ne_eq, not_false_eq_true, decide_true, if_true]
        rw [erase_filter hr.2 hi]
theorem remAll_filter {l l1 : List Ent} {rem : List Int} (ha : Asc l) (h : remAll l rem = some l1) : l1 = l.filter fun e => decide (e.id ∉ rem) := by
  induction rem generalizing l with
  | nil => injection h with h; subst h; exact (List.filter_eq_self.2 (by simp)).symm
  | cons i r ih =>
    unfold remAll at h
    split at h
    · cases h
    · rename_i k hk
      have := ih (erase_asc ha k) h
      rw [this, erase_filter ha hk, List.filter_filter]
      congr 1
      funext e
      by_cases h1 : e.id = i <;> by_cases h2 : e.id ∈ r <;> simp [h1, h2]
      all_goals simp_all
theorem applyV_err {s : Snp} {r : Rcd} (h : (applyV s r).1 ≠ 0) : (applyV s r).2 = zsnp := by
  unfold applyV at h ⊢
  split
  · rfl
  split
  · rfl
  split
  · rfl
  split
  · rfl
  · rename_i h1 h2 h3 _ l hl
    rw [if_neg h1, if_neg h2, if_neg h3, hl] at h
    simp only at h
    split
    · rfl
    · rename_i h4
      rw [if_neg h4] at h
      unfold lastV at h ⊢
      split
      · rfl
      · rename_i h5
        rw [if_neg h5] at h
        split
        · rename_i h6; rw [if_pos h6] at h; exact absurd rfl h
        · rfl
/-- What is known where Apply succeeds. -/
theorem applyV_ok {s z : Snp} {r : Rcd} (h : applyV s r = (0, z)) : s.okB = true ∧ recV r = 0 ∧ r.kind = 2 ∧ r.ver = s.ver + 1 ∧ s.seq ≤ r.seq ∧ s.nid ≤ r.nid ∧ dupB (s.l.filter fun e => decide (e.id ∉ r.rem)) r.add = false ∧
    z = ⟨r.ver, r.seq, r.nid, insAll (s.l.filter fun e => decide (e.id ∉ r.rem)) r.add⟩ ∧ z.okB = true ∧ remAll s.l r.rem = some (s.l.filter fun e => decide (e.id ∉ r.rem)) := by
  unfold applyV at h
  split at h
  · cases h
  rename_i h1
  have hok : s.okB = true := by cases hs : s.okB with
    | true => rfl
    | false => exact absurd (.inl hs) h1
  have hr : recV r = 0 := Decidable.byContradiction fun k => h1 (.inr (.inl k))
  have hk : r.kind = 2 := Decidable.byContradiction fun k => h1 (.inr (.inr k))
  split at h
  · cases h
  rename_i h2
  have hv : r.ver = s.ver + 1 := Decidable.byContradiction fun k => h2 k
  split at h
  · cases h
  rename_i h3
  split at h
  · cases h
  rename_i l hl
  have hA : Asc s.l := entsB_asc (snapB_parts hok).2
  have hf := remAll_filter hA hl
  subst hf
  split at h
  · cases h
  rename_i h4
  unfold lastV at h
  split at h
  · cases h
  split at h
  · rename_i h6
    injection h with _ hz
    refine ⟨hok, hr, hk, hv, by omega, by omega, by simpa using h4, hz.symm, ?_, hl⟩
    rw [← hz]; exact h6
  · cases h
theorem applyV_mem {s z : Snp} {r : Rcd} (h : applyV s r = (0, z)) {e : Ent} : e ∈ z.l ↔ (e ∈ s.l ∧ e.id ∉ r.rem) ∨ e ∈ r.add := by
  obtain ⟨_, _, _, _, _, _, _, rfl, _⟩ := applyV_ok h
  show e ∈ insAll _ _ ↔ _
  rw [(insAll_perm _ _).mem_iff, List.mem_append, List.mem_filter]
  simp
theorem applyV_len {s z : Snp} {r : Rcd} (h : applyV s r = (0, z)) : z.l.length = (s.l.filter fun e => decide (e.id ∉ r.rem)).length + r.add.length := by
  obtain ⟨_, _, _, _, _, _, _, rfl, _⟩ := applyV_ok h
  show (insAll _ _).length = _
  rw [(insAll_perm _ _).length_eq, List.length_append]
theorem applyV_256 {s z : Snp} {r : Rcd} (h : applyV s r = (0, z)) : z.l.length ≤ 256 := by
  obtain ⟨_, _, _, _, _, _, _, _, hok, _⟩ := applyV_ok h
  exact (snapB_parts hok).1.2.2.2.2.2.2
end Go.Proofs.Ytcjekbncllccbaa
