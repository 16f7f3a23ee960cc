/-
  Law 28 in plain Lean: what Peak answers, and what the law says of it.
-/
import Derived.Test.YtcjekbncllccbaaPickPair
namespace Go.Proofs.Ytcjekbncllccbaa
def rgOf (e : Ent) : Rg := ⟨e.lo, e.hi⟩
def chkEs (t : Int) (l : List Ent) : Bool := entsB l && chkRs t (l.map rgOf)
def inP (t : Int) (p : Rk) (e : Ent) : Bool := contR t (rgOf e) p
/-- Numbers in ascending order. -/
def insI (l : List Int) (v : Int) : List Int := l.takeWhile (fun x => decide (x < v)) ++ [v] ++ l.dropWhile (fun x => decide (x < v))
def sortI (l : List Int) : List Int := l.foldl insI []
theorem insI_mem {l : List Int} {v x : Int} : x ∈ insI l v ↔ x ∈ l ∨ x = v := by
  unfold insI
  rw [List.mem_append, List.mem_append, List.mem_singleton]
  have : x ∈ l ↔ x ∈ l.takeWhile (fun x => decide (x < v)) ∨ x ∈ l.dropWhile (fun x => decide (x < v)) := by
    rw [← List.mem_append, List.takeWhile_append_dropWhile]
  rw [this]
  constructor
  · rintro ((h | h) | h)
    · exact .inl (.inl h)
    · exact .inr h
    · exact .inl (.inr h)
  · rintro ((h | h) | h)
    · exact .inl (.inl h)
    · exact .inr h
    · exact .inl (.inr h)
theorem insI_asc {v : Int} : ∀ {l : List Int}, l.Pairwise (· < ·) → v ∉ l → (insI l v).Pairwise (· < ·)
  | [], _, _ => List.pairwise_singleton _ _
  | x :: r, h, hv => by
    have h' := List.pairwise_cons.1 h
    unfold insI
    rw [List.takeWhile_cons, List.dropWhile_cons]
    by_cases hx : x < v
    · simp only [hx, decide_true, if_true, List.cons_append]
      refine List.pairwise_cons.2 ⟨fun y hy => ?_, insI_asc h'.2 fun e => hv (by simp [e])⟩
      rcases insI_mem.1 (show y ∈ insI r v from hy) with h1 | h1
      · exact h'.1 y h1
      · rw [h1]; exact hx
    · simp only [hx, decide_false, Bool.false_eq_true, if_false, List.nil_append, List.singleton_append]
      have hvx : v < x := by
        have : v ≠ x := fun e => hv (by simp [e])
        omega
      refine List.pairwise_cons.2 ⟨fun y hy => ?_, h⟩
      rcases List.mem_cons.1 hy with h1 | h1
      · rw [h1]; exact hvx
      · have := h'.1 y h1; omega
theorem sortI_inv : ∀ (l acc : List Int), acc.Pairwise (· < ·) → (acc ++ l).Nodup → (l.foldl insI acc).Pairwise (· < ·) ∧ ∀ x, x ∈ l.foldl insI acc ↔ x ∈ acc ∨ x ∈ l
  | [], acc, h1, _ => ⟨h1, fun x => by simp⟩
  | v :: r, acc, h1, h2 => by
    have hv : v ∉ acc := fun h => by
      have := List.nodup_append.1 h2
      exact this.2.2 v h v (by simp) rfl
    have ih := sortI_inv r (insI acc v) (insI_asc h1 hv) (by
      have h3 := List.nodup_append.1 h2
      have h4 := List.nodup_cons.1 h3.2.1
      refine List.nodup_append.2 ⟨(insI_asc h1 hv).imp fun h e => by omega, h4.2, fun x hx y hy e => ?_⟩
      subst e
      rcases insI_mem.1 hx with h | h
      · exact h3.2.2 x h x (by simp [hy]) rfl
      · rw [h] at hy; exact h4.1 hy)
    refine ⟨ih.1, fun x => ?_⟩
    rw [List.foldl_cons, ih.2, insI_mem, List.mem_cons]
    constructor
    · rintro ((h | h) | h)
      · exact .inl h
      · exact .inr (.inl h)
      · exact .inr (.inr h)
    · rintro (h | h | h)
      · exact .inl (.inl h)
      · exact .inl (.inr h)
      · exact .inr h
theorem sortI_is {l : List Int} (h : l.Nodup) : (sortI l).Pairwise (· < ·) ∧ ∀ x, x ∈ sortI l ↔ x ∈ l := by
  have := sortI_inv l [] List.Pairwise.nil (by simpa using h)
  exact ⟨this.1, fun x => by have := this.2 x; unfold sortI; simpa using this⟩
theorem asc_int_unique : ∀ {a b : List Int}, a.Pairwise (· < ·) → b.Pairwise (· < ·) → (∀ x, x ∈ a ↔ x ∈ b) → a = b
  | [], [], _, _, _ => rfl
  | [], y :: b, _, _, h => by have := (h y).2 (by simp); simp at this
  | x :: a, [], _, _, h => by have := (h x).1 (by simp); simp at this
  | x :: a, y :: b, ha, hb, h => by
    have h1 := List.pairwise_cons.1 ha
    have h2 := List.pairwise_cons.1 hb
    have e : x = y := by
      rcases List.mem_cons.1 ((h x).1 (by simp)) with e | e
      · exact e
      · rcases List.mem_cons.1 ((h y).2 (by simp)) with e' | e'
        · exact e'.symm
        · have := h1.1 y e'; have := h2.1 x e; omega
    subst e
    rw [asc_int_unique h1.2 h2.2 fun z => ?_]
    have hz := h z
    constructor
    · intro hm
      rcases List.mem_cons.1 (hz.1 (by simp [hm])) with e | e
      · have := h1.1 z hm; omega
      · exact e
    · intro hm
      rcases List.mem_cons.1 (hz.2 (by simp [hm])) with e | e
      · have := h2.1 z hm; omega
      · exact e
/-- The peak of entries. -/
def peakP (t : Int) (l : List Ent) : Rk := (mostTo t (l.map rgOf) l.length).2
/-- What Peak answers. -/
def peakV (t : Int) (l : List Ent) (d w : Int) : List Int :=
  if chkEs t l = false ∨ d < 1 ∨ w < 2 ∨ (depthR t (l.map rgOf) : Int) ≤ d then [] else sortI (((chosenL (l.filter (inP t (peakP t l)))).take w.toNat).map (·.id))
theorem stab_filter (t : Int) (l : List Ent) (p : Rk) : stabN t (l.map rgOf) p = (l.filter (inP t p)).length := by
  unfold stabN
  rw [List.countP_map, List.countP_eq_length_filter]
  rfl
end Go.Proofs.Ytcjekbncllccbaa
