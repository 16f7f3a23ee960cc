/-
  Law 28 in plain Lean: the chosen entries in ascending order of live rows and number: the reference's insertions and any sorting give one list.
-/
import Derived.Test.YtcjekbncllccbaaPickSpec
namespace Go.Proofs.Ytcjekbncllccbaa
/-- Fewer live rows first, then the lesser number. -/
def ltL (a b : Ent) : Prop := a.live < b.live ∨ a.live = b.live ∧ a.id < b.id
theorem ltL_irrefl (a : Ent) : ¬ ltL a a := by unfold ltL; omega
theorem ltL_trans {a b c : Ent} (h1 : ltL a b) (h2 : ltL b c) : ltL a c := by unfold ltL at *; omega
theorem ltL_unique : ∀ {a b : List Ent}, a.Pairwise ltL → b.Pairwise ltL → (∀ x, x ∈ a ↔ x ∈ b) → a = b
  | [], [], _, _, _ => rfl
  | [], y :: b, _, _, h => by have := (h y).2 (by simp); simp at this
  | x :: a, [], _, _, h => by have := (h x).1 (by simp); simp at this
  | x :: a, y :: b, ha, hb, h => by
    have h1 := List.pairwise_cons.1 ha
    have h2 := List.pairwise_cons.1 hb
    have e : x = y := by
      rcases List.mem_cons.1 ((h x).1 (by simp)) with e | e
      · exact e
      · rcases List.mem_cons.1 ((h y).2 (by simp)) with e' | e'
        · exact e'.symm
        · exact absurd (ltL_trans (h1.1 y e') (h2.1 x e)) (ltL_irrefl _)
    subst e
    rw [ltL_unique h1.2 h2.2 fun z => ?_]
    have hz := h z
    constructor
    · intro hm
      rcases List.mem_cons.1 (hz.1 (by simp [hm])) with e | e
      · exact absurd (e ▸ h1.1 z hm) (ltL_irrefl _)
      · exact e
    · intro hm
      rcases List.mem_cons.1 (hz.2 (by simp [hm])) with e | e
      · exact absurd (e ▸ h2.1 z hm) (ltL_irrefl _)
      · exact e
/-- The reference's insertion: behind the last entry with as few live rows. -/
def insL (l : List Ent) (e : Ent) : List Ent := l.takeWhile (fun x => decide (x.live ≤ e.live)) ++ [e] ++ l.dropWhile (fun x => decide (x.live ≤ e.live))
theorem insL_mem {l : List Ent} {e x : Ent} : x ∈ insL l e ↔ x ∈ l ∨ x = e := by
  unfold insL
  rw [List.mem_append, List.mem_append, List.mem_singleton]
  have : x ∈ l ↔ x ∈ l.takeWhile (fun x => decide (x.live ≤ e.live)) ∨ x ∈ l.dropWhile (fun x => decide (x.live ≤ e.live)) := by
    rw [← List.mem_append, List.takeWhile_append_dropWhile]
  rw [this]
  constructor
  · rintro ((h | h) | h)
    · exact .inl (.inl h)
    · exact .inr h
    · exact .inl (.inr h)
  · rintro ((h | h) | h)
    · exact .inl (.inl h)
    · exact .inr h
    · exact .inl (.inr h)
theorem insL_pair {e : Ent} : ∀ {l : List Ent}, l.Pairwise ltL → (∀ x ∈ l, x.id < e.id) → (insL l e).Pairwise ltL
  | [], _, _ => List.pairwise_singleton _ _
  | x :: r, h, hi => by
    have h' := List.pairwise_cons.1 h
    unfold insL
    rw [List.takeWhile_cons, List.dropWhile_cons]
    by_cases hx : x.live ≤ e.live
    · simp only [hx, decide_true, if_true, List.cons_append]
      refine List.pairwise_cons.2 ⟨fun y hy => ?_, insL_pair h'.2 fun y hy => hi y (by simp [hy])⟩
      rcases insL_mem.1 (show y ∈ insL r e from hy) with h1 | h1
      · exact h'.1 y h1
      · subst h1
        have := hi x (by simp)
        unfold ltL; omega
    · simp only [hx, decide_false, Bool.false_eq_true, if_false, List.nil_append, List.singleton_append]
      refine List.pairwise_cons.2 ⟨fun y hy => ?_, h⟩
      rcases List.mem_cons.1 hy with h1 | h1
      · subst h1; unfold ltL; omega
      · have := h'.1 y h1
        unfold ltL at this ⊢; omega
/-- The reference's list out of entries whose numbers ascend. -/
def chosenL (l : List Ent) : List Ent := l.foldl insL []
theorem chosen_inv : ∀ (l acc : List Ent), acc.Pairwise ltL → (acc ++ l).Pairwise (fun a b => a.id ≠ b.id) → (∀ x ∈ acc, ∀ y ∈ l, x.id < y.id) → l.Pairwise (fun a b => a.id < b.id) → (l.foldl insL acc).Pairwise ltL ∧ ∀ x, x ∈ l.foldl insL acc ↔ x ∈ acc ∨ x ∈ l
  | [], acc, h1, _, _, _ => ⟨h1, fun x => by simp⟩
  | e :: r, acc, h1, h2, h3, h4 => by
    have h4' := List.pairwise_cons.1 h4
    have ih := chosen_inv r (insL acc e) (insL_pair h1 fun x hx => h3 x hx e (by simp)) (by
      have hp : (insL acc e ++ r).Perm (acc ++ e :: r) := by
        have : (insL acc e).Perm (acc ++ [e]) := by
          unfold insL
          have e1 := List.takeWhile_append_dropWhile (p := fun x : Ent => decide (x.live ≤ e.live)) (l := acc)
          refine List.Perm.trans ?_ (List.Perm.append_right [e] (List.Perm.of_eq e1))
          rw [List.append_assoc, List.append_assoc]
          exact List.Perm.append_left _ List.perm_append_comm
        refine (this.append_right r).trans ?_
        rw [List.append_assoc]; exact List.Perm.refl _
      exact (hp.pairwise_iff (fun h => fun e => h e.symm)).2 h2) (fun x hx y hy => by
        rcases insL_mem.1 hx with h | h
        · exact h3 x h y (by simp [hy])
        · subst h; exact h4'.1 y hy) h4'.2
    refine ⟨ih.1, fun x => ?_⟩
    rw [List.foldl_cons, ih.2, insL_mem, List.mem_cons]
    constructor
    · rintro ((h | h) | h)
      · exact .inl h
      · exact .inr (.inl h)
      · exact .inr (.inr h)
    · rintro (h | h | h)
      · exact .inl (.inl h)
      · exact .inl (.inr h)
      · exact .inr h
theorem chosen_is {l : List Ent} (h : l.Pairwise (fun a b => a.id < b.id)) : (chosenL l).Pairwise ltL ∧ ∀ x, x ∈ chosenL l ↔ x ∈ l := by
  have := chosen_inv l [] List.Pairwise.nil (by simpa using h.imp fun hab e => by omega) (by simp) h
  exact ⟨this.1, fun x => by have := this.2 x; unfold chosenL; simpa using this⟩
end Go.Proofs.Ytcjekbncllccbaa
