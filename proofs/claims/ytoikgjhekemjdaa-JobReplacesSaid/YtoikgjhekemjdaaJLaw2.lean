/-
  What a commit does to a version, in plain Lean.
-/
import Derived.Test.YtoikgjhekemjdaaJCommit
namespace Go.Proofs.Ytoikgjhekemjdaa
open Go.RowKit
theorem remAll_len : ∀ {l l1 : List Ent} {rem : List Int}, remAll l rem = some l1 → l1.length + rem.length = l.length
  | l, l1, [], h => by rw [remAll] at h; injection h with h; subst h; simp
  | l, l1, i :: r, h => by
    rw [remAll] at h
    cases hi : idxE l i with
    | none => rw [hi] at h; cases h
    | some k =>
      rw [hi] at h
      have h2 := remAll_len h
      have hk := idxE_lt hi
      rw [List.length_eraseIdx, if_pos hk] at h2
      rw [List.length_cons]; omega
theorem commit_means {x q n nx : Int} {l ins us : List Ent} {rem : List Int} {z : Snp} (h : applyV ⟨x, q, n, l⟩ ⟨2, x + 1, q, nx, us, rem⟩ = (0, z)) (hp : rem.Perm (ins.map Ent.id)) :
    z.ver = x + 1 ∧ z.seq = q ∧ z.l.length + ins.length = l.length + us.length ∧
      ∀ a ∈ z.l, (((l.any fun y => eqE a y) && ins.all fun y => a.id != y.id) || us.any fun y => eqE a y) = true := by
  obtain ⟨_, _, _, _, _, _, _, hz, _, h1⟩ := applyV_ok h
  have h2 := remAll_len h1
  have hlen := applyV_len h
  have hpl := hp.length_eq
  rw [List.length_map] at hpl
  refine ⟨by rw [hz], by rw [hz], by simp only at hlen h2 hpl; omega, fun a ha => ?_⟩
  rw [Bool.or_eq_true, Bool.and_eq_true, List.any_eq_true, List.any_eq_true, List.all_eq_true]
  rcases (applyV_mem h).1 ha with ⟨h3, h4⟩ | h3
  · refine .inl ⟨⟨a, h3, eqE_iff.2 rfl⟩, fun b hb => ?_⟩
    rw [bne_iff_ne]; intro e
    exact h4 (hp.mem_iff.2 (List.mem_map.2 ⟨b, hb, e.symm⟩))
  · exact .inr ⟨a, h3, eqE_iff.2 rfl⟩
end Go.Proofs.Ytoikgjhekemjdaa
