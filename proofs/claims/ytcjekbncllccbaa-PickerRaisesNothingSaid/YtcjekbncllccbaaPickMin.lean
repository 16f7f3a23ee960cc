/-
  In plain Lean: a pass that keeps the least element so far; two passes over the same elements, in whatever order, come to one.
-/
import Derived.Test.YtcjekbncllccbaaPickKey
namespace Go.Proofs.Ytcjekbncllccbaa
section
variable {α : Type}
def minStep (lt : α → α → Bool) (s : Option α) (x : α) : Option α := match s with
  | none => some x
  | some a => if lt x a = true then some x else some a
def minOf (lt : α → α → Bool) (l : List α) : Option α := l.foldl (minStep lt) none
/-- A strict order that tells the elements of a list apart. -/
structure Tells (lt : α → α → Bool) (l : List α) : Prop where
  irr : ∀ a ∈ l, lt a a = false
  tr : ∀ a ∈ l, ∀ b ∈ l, ∀ c ∈ l, lt a b = true → lt b c = true → lt a c = true
  tot : ∀ a ∈ l, ∀ b ∈ l, a = b ∨ lt a b = true ∨ lt b a = true
def IsMin (lt : α → α → Bool) (l : List α) (m : α) : Prop := m ∈ l ∧ ∀ x ∈ l, x = m ∨ lt m x = true
theorem min_inv {lt : α → α → Bool} {L : List α} (hT : Tells lt L) : ∀ (l pre : List α) (s : Option α), (∀ x ∈ pre ++ l, x ∈ L) → (match s with | none => pre = [] | some m => IsMin lt pre m) → (match l.foldl (minStep lt) s with | none => pre ++ l = [] | some m => IsMin lt (pre ++ l) m)
  | [], pre, s, _, h => by simpa using h
  | x :: r, pre, s, hm, h => by
    have hx : x ∈ L := hm x (by simp)
    rw [List.foldl_cons, show pre ++ x :: r = (pre ++ [x]) ++ r by simp]
    refine min_inv hT r (pre ++ [x]) (minStep lt s x) (fun y hy => hm y (by simpa using hy)) ?_
    cases s with
    | none =>
      simp only at h
      subst h
      show IsMin lt [x] x
      exact ⟨by simp, fun y hy => by simp at hy; exact .inl hy⟩
    | some m =>
      simp only at h
      obtain ⟨h1, h2⟩ := h
      have hmL : m ∈ L := hm m (by simp [h1])
      unfold minStep
      simp only
      by_cases hl : lt x m = true
      · rw [if_pos hl]
        refine ⟨by simp, fun y hy => ?_⟩
        rcases List.mem_append.1 hy with hy | hy
        · rcases h2 y hy with e | e
          · subst e; exact .inr hl
          · exact .inr (hT.tr x hx m hmL y (hm y (by simp [hy])) hl e)
        · simp at hy; exact .inl hy
      · rw [if_neg hl]
        refine ⟨by simp [h1], fun y hy => ?_⟩
        rcases List.mem_append.1 hy with hy | hy
        · exact h2 y hy
        · simp at hy; subst hy
          rcases hT.tot y hx m hmL with e | e | e
          · exact .inl e
          · exact absurd e hl
          · exact .inr e
theorem minOf_is {lt : α → α → Bool} {l : List α} (hT : Tells lt l) : match minOf lt l with | none => l = [] | some m => IsMin lt l m := by
  have := min_inv hT l [] none (by simp) rfl
  simpa [minOf] using this
theorem IsMin.unique {lt : α → α → Bool} {l : List α} (hT : Tells lt l) {a b : α} (ha : IsMin lt l a) (hb : IsMin lt l b) : a = b := by
  rcases ha.2 b hb.1 with e | e
  · exact e.symm
  · rcases hb.2 a ha.1 with e' | e'
    · exact e'
    · have := hT.tr a ha.1 b hb.1 a ha.1 e e'
      rw [hT.irr a ha.1] at this; cases this
/-- The order of the pass does not matter. -/
theorem minOf_same {lt : α → α → Bool} {l l' : List α} (hT : Tells lt l) (hm : ∀ x, x ∈ l ↔ x ∈ l') : minOf lt l = minOf lt l' := by
  have hT' : Tells lt l' := ⟨fun a ha => hT.irr a ((hm a).2 ha), fun a ha b hb c hc => hT.tr a ((hm a).2 ha) b ((hm b).2 hb) c ((hm c).2 hc), fun a ha b hb => hT.tot a ((hm a).2 ha) b ((hm b).2 hb)⟩
  have h1 := minOf_is hT
  have h2 := minOf_is hT'
  cases e1 : minOf lt l with
  | none =>
    rw [e1] at h1
    simp only at h1
    cases e2 : minOf lt l' with
    | none => rfl
    | some m =>
      rw [e2] at h2
      have := (hm m).2 h2.1
      rw [h1] at this; simp at this
  | some a =>
    rw [e1] at h1
    cases e2 : minOf lt l' with
    | none =>
      rw [e2] at h2
      simp only at h2
      have := (hm a).1 h1.1
      rw [h2] at this; simp at this
    | some b =>
      rw [e2] at h2
      have hb : IsMin lt l b := ⟨(hm b).2 h2.1, fun x hx => h2.2 x ((hm x).1 hx)⟩
      rw [h1.unique hT hb]
end
end Go.Proofs.Ytcjekbncllccbaa
