/-
  Law 32 in plain Lean: sorted, cut of its repetitions and of the empty name, a list of names is what the reference's insertions give.
-/
import Derived.Lib.SlicesCompact
import Derived.Sort.KeysCollected
namespace Go.Proofs.YtjfnpklknehiiaaDoor
open Go.Lib
abbrev Nm := List UInt8
/-- Strictly ascending. -/
def AscS (l : List Nm) : Prop := l.Pairwise (· < ·)
theorem nm_lt {a b : Nm} : a < b ↔ a ≤ b ∧ a ≠ b := by
  constructor
  · intro h
    exact ⟨List.le_of_lt h, fun e => List.lt_irrefl a (by rw [← e] at h; exact h)⟩
  · rintro ⟨h1, h2⟩
    exact Classical.byContradiction fun hn => h2 (List.le_antisymm h1 (List.not_lt.1 hn))
theorem ascS_unique : ∀ {a b : List Nm}, AscS a → AscS b → (∀ x, x ∈ a ↔ x ∈ b) → a = b
  | [], [], _, _, _ => rfl
  | [], y :: b, _, _, h => by have := (h y).2 (by simp); simp at this
  | x :: a, [], _, _, h => by have := (h x).1 (by simp); simp at this
  | x :: a, y :: b, ha, hb, h => by
    have h1 := List.pairwise_cons.1 ha
    have h2 := List.pairwise_cons.1 hb
    have e : x = y := by
      rcases List.mem_cons.1 ((h x).1 (by simp)) with e | e
      · exact e
      · rcases List.mem_cons.1 ((h y).2 (by simp)) with e' | e'
        · exact e'.symm
        · exact absurd (List.lt_trans (h1.1 y e') (h2.1 x e)) (List.lt_irrefl _)
    subst e
    rw [ascS_unique h1.2 h2.2 fun z => ?_]
    have hz := h z
    constructor
    · intro hm
      rcases List.mem_cons.1 (hz.1 (by simp [hm])) with e | e
      · exact absurd (e ▸ h1.1 z hm) (List.lt_irrefl _)
      · exact e
    · intro hm
      rcases List.mem_cons.1 (hz.2 (by simp [hm])) with e | e
      · exact absurd (e ▸ h2.1 z hm) (List.lt_irrefl _)
      · exact e
/-- What a list of names comes to. -/
def IsNames (S r : List Nm) : Prop := AscS r ∧ ∀ x, x ∈ r ↔ x ∈ S ∧ x ≠ []
theorem IsNames.unique {S S' r r' : List Nm} (h : IsNames S r) (h' : IsNames S' r') (hm : ∀ x, x ∈ S ↔ x ∈ S') : r = r' :=
  ascS_unique h.1 h'.1 fun x => by rw [h.2, h'.2, hm]
/-- slices.Sort, slices.Compact, slices.DeleteFunc. -/
def sortN (l : List Nm) : List Nm := l.mergeSort fun x y => decide (x ≤ y)
def compN (l : List Nm) : List Nm := compactUpTo l.toArray l.toArray.size
def namesV (l : List Nm) : List Nm := (compN (sortN l)).filter fun x => !(decide (x = []))
theorem sortN_pair (l : List Nm) : (sortN l).Pairwise (· ≤ ·) := by
  have tr : ∀ a b c : Nm, decide (a ≤ b) = true → decide (b ≤ c) = true → decide (a ≤ c) = true := fun a b c h1 h2 => by simp only [decide_eq_true_eq] at *; exact List.le_trans h1 h2
  have to : ∀ a b : Nm, (decide (a ≤ b) || decide (b ≤ a)) = true := fun a b => by simp only [Bool.or_eq_true, decide_eq_true_eq]; exact List.le_total a b
  exact (List.pairwise_mergeSort tr to l).imp fun h => by simpa using h
theorem sortN_perm (l : List Nm) : (sortN l).Perm l := List.mergeSort_perm l _
theorem comp_inv (zs : List Nm) (hs : zs.Pairwise (· ≤ ·)) : ∀ m, m ≤ zs.length → AscS (compactUpTo zs.toArray m) ∧ (∀ x, x ∈ compactUpTo zs.toArray m ↔ x ∈ zs.take m) ∧ (∀ x ∈ compactUpTo zs.toArray m, ∀ y, zs[m - 1]? = some y → x ≤ y)
  | 0, _ => ⟨List.Pairwise.nil, fun x => by simp [compactUpTo], fun x hx => by simp [compactUpTo] at hx⟩
  | m + 1, hm => by
    obtain ⟨h1, h2, h3⟩ := comp_inv zs hs m (by omega)
    have hml : m < zs.length := by omega
    have hg : zs.toArray[m]! = zs[m] := by simp [getElem!_pos, hml]
    have hz := List.getElem?_eq_getElem hml
    rw [compactUpTo_succ, hg]
    have htk : zs.take (m + 1) = zs.take m ++ [zs[m]] := by rw [List.take_add_one, hz]; rfl
    have hle : ∀ x ∈ compactUpTo zs.toArray m, x ≤ zs[m] := fun x hx => by
      obtain ⟨j, hj, e⟩ := List.mem_iff_getElem.1 ((h2 x).1 hx)
      rw [List.length_take] at hj
      rw [List.getElem_take] at e
      rw [← e]
      exact List.pairwise_iff_getElem.1 hs j m (by omega) hml (by omega)
    cases hk : keeps zs.toArray m with
    | true =>
      simp only [if_true]
      refine ⟨List.pairwise_append.2 ⟨h1, List.pairwise_singleton _ _, ?_⟩, fun x => by rw [List.mem_append, h2, htk, List.mem_append], ?_⟩
      · intro x hx y hy
        simp at hy; subst hy
        refine nm_lt.2 ⟨hle x hx, fun e => ?_⟩
        rcases m with _ | m
        · simp [compactUpTo] at hx
        · have hk' : zs.toArray[m + 1]! ≠ zs.toArray[m + 1 - 1]! := by
            unfold keeps at hk
            simp only [decide_eq_true_eq] at hk
            rcases hk with h | h
            · omega
            · exact h
          have hm1 : m < zs.length := by omega
          have hg1 : zs.toArray[m + 1 - 1]! = zs[m] := by simp [getElem!_pos, hm1]
          rw [hg, hg1] at hk'
          have h4 := h3 x hx zs[m] (by rw [show m + 1 - 1 = m by omega]; exact List.getElem?_eq_getElem hm1)
          have h5 := List.pairwise_iff_getElem.1 hs m (m + 1) hm1 hml (by omega)
          rw [e] at h4
          exact hk' (List.le_antisymm h4 h5)
      · intro x hx y hy
        simp only [Nat.add_sub_cancel] at hy
        rw [hz] at hy
        injection hy with hy
        subst hy
        rcases List.mem_append.1 hx with h | h
        · exact hle x h
        · simp at h; rw [h]; exact List.le_refl _
    | false =>
      simp only [Bool.false_eq_true, if_false, List.append_nil]
      have hm0 : 0 < m := by
        rcases m with _ | m
        · simp [keeps] at hk
        · omega
      have hm1 : m - 1 < zs.length := by omega
      have hg1 : zs.toArray[m - 1]! = zs[m - 1] := by simp [getElem!_pos, hm1]
      have heq : zs[m] = zs[m - 1] := by
        unfold keeps at hk
        simp only [decide_eq_false_iff_not, not_or] at hk
        have := hk.2
        rw [hg, hg1] at this
        exact Classical.byContradiction fun h => this h
      refine ⟨h1, fun x => ?_, fun x hx y hy => ?_⟩
      · rw [h2, htk, List.mem_append]
        constructor
        · exact .inl
        · rintro (h | h)
          · exact h
          · simp at h
            rw [h, heq]
            exact List.mem_iff_getElem.2 ⟨m - 1, by rw [List.length_take]; omega, by rw [List.getElem_take]⟩
      · simp only [Nat.add_sub_cancel] at hy
        rw [hz] at hy
        injection hy with hy
        subst hy
        exact hle x hx
theorem namesV_is (l : List Nm) : IsNames l (namesV l) := by
  obtain ⟨h1, h2, _⟩ := comp_inv (sortN l) (sortN_pair l) (sortN l).length (Nat.le_refl _)
  have hc : compN (sortN l) = compactUpTo (sortN l).toArray (sortN l).length := by unfold compN; simp
  unfold namesV
  rw [hc]
  refine ⟨List.Pairwise.filter _ h1, fun x => ?_⟩
  rw [List.mem_filter, h2, List.take_length, (sortN_perm l).mem_iff]
  simp
/-- The reference's put. -/
def insN (l : List Nm) (s : Nm) : List Nm := if s = [] ∨ s ∈ l then l else l.takeWhile (fun x => decide (x < s)) ++ [s] ++ l.dropWhile (fun x => decide (x < s))
theorem insN_mem {l : List Nm} {s x : Nm} : x ∈ insN l s ↔ x ∈ l ∨ (x = s ∧ s ≠ []) := by
  unfold insN
  split
  · rename_i h
    constructor
    · exact .inl
    · rintro (h1 | ⟨rfl, h2⟩)
      · exact h1
      · rcases h with h | h
        · exact absurd h h2
        · exact h
  · rename_i h
    have hs : s ≠ [] := fun e => h (.inl e)
    rw [List.mem_append, List.mem_append, List.mem_singleton]
    have : x ∈ l ↔ x ∈ l.takeWhile (fun x => decide (x < s)) ∨ x ∈ l.dropWhile (fun x => decide (x < s)) := by
      rw [← List.mem_append, List.takeWhile_append_dropWhile]
    rw [this]
    constructor
    · rintro ((h1 | h1) | h1)
      · exact .inl (.inl h1)
      · exact .inr ⟨h1, hs⟩
      · exact .inl (.inr h1)
    · rintro ((h1 | h1) | ⟨h1, _⟩)
      · exact .inl (.inl h1)
      · exact .inr h1
      · exact .inl (.inr h1)
theorem insN_at {l : List Nm} {s : Nm} {k : Nat} (hn : s ≠ []) (hm : s ∉ l) (hk : k ≤ l.length) (h1 : ∀ (j : Nat) (d : Nm), l[j]? = some d → j < k → d < s) (h2 : ∀ d, l[k]? = some d → ¬ d < s) : insN l s = l.take k ++ [s] ++ l.drop k := by
  unfold insN
  rw [if_neg (by rintro (h | h) <;> contradiction)]
  have : ∀ (l : List Nm) (k : Nat), k ≤ l.length → (∀ (j : Nat) (d : Nm), l[j]? = some d → j < k → d < s) → (∀ d, l[k]? = some d → ¬ d < s) → l.takeWhile (fun x => decide (x < s)) = l.take k ∧ l.dropWhile (fun x => decide (x < s)) = l.drop k := by
    intro l
    induction l with
    | nil => intro k hk _ _; simp
    | cons x r ih =>
      intro k hk h1 h2
      rcases k with _ | k
      · have := h2 x (by simp)
        rw [List.takeWhile_cons, List.dropWhile_cons]
        simp [this]
      · have hx : x < s := h1 0 x (by simp) (by omega)
        obtain ⟨e1, e2⟩ := ih k (by simpa using hk) (fun j d hj hjk => h1 (j + 1) d (by simpa using hj) (by omega)) (fun d hd => h2 d (by simpa using hd))
        rw [List.takeWhile_cons, List.dropWhile_cons]
        simp only [hx, decide_true, if_true, List.take_succ_cons, List.drop_succ_cons]
        exact ⟨by rw [e1], e2⟩
  obtain ⟨e1, e2⟩ := this l k hk h1 h2
  rw [e1, e2]
theorem insN_asc {l : List Nm} {s : Nm} (h : AscS l) : AscS (insN l s) := by
  unfold insN
  split
  · exact h
  · rename_i hn
    have hs : s ∉ l := fun e => hn (.inr e)
    clear hn
    have key : ∀ l : List Nm, AscS l → s ∉ l → AscS (l.takeWhile (fun x => decide (x < s)) ++ [s] ++ l.dropWhile (fun x => decide (x < s))) := by
      intro l
      induction l with
      | nil => intro _ _; exact List.pairwise_singleton _ _
      | cons x r ih =>
        intro h hs
        have h' := List.pairwise_cons.1 h
        rw [List.takeWhile_cons, List.dropWhile_cons]
        by_cases hx : x < s
        · simp only [hx, decide_true, if_true, List.cons_append]
          refine List.pairwise_cons.2 ⟨fun y hy => ?_, ih h'.2 fun e => hs (by simp [e])⟩
          rw [List.mem_append, List.mem_append, List.mem_singleton] at hy
          rcases hy with (hy | hy) | hy
          · exact h'.1 y ((List.takeWhile_sublist _).subset hy)
          · rw [hy]; exact hx
          · exact h'.1 y ((List.dropWhile_sublist _).subset hy)
        · simp only [hx, decide_false, Bool.false_eq_true, if_false, List.nil_append, List.singleton_append]
          have hsx : s < x := nm_lt.2 ⟨List.not_lt.1 hx, fun e => hs (by simp [e])⟩
          refine List.pairwise_cons.2 ⟨fun y hy => ?_, h⟩
          rcases List.mem_cons.1 hy with e | e
          · rw [e]; exact hsx
          · exact List.lt_trans hsx (h'.1 y e)
    exact key l h hs
/-- The reference's list after the names S. -/
theorem putAll_is : ∀ (S : List Nm), IsNames S (S.foldl insN []) := by
  have key : ∀ (S T r : List Nm), IsNames T r → IsNames (T ++ S) (S.foldl insN r) := by
    intro S
    induction S with
    | nil => intro T r h; simpa using h
    | cons s S ih =>
      intro T r h
      have := ih (T ++ [s]) (insN r s) ⟨insN_asc h.1, fun x => by
        rw [insN_mem, h.2, List.mem_append, List.mem_singleton]
        constructor
        · rintro (⟨h1, h2⟩ | ⟨h1, h2⟩)
          · exact ⟨.inl h1, h2⟩
          · exact ⟨.inr h1, h1 ▸ h2⟩
        · rintro ⟨h1 | h1, h2⟩
          · exact .inl ⟨h1, h2⟩
          · exact .inr ⟨h1, h1 ▸ h2⟩⟩
      simpa using this
  intro S
  have := key S [] [] ⟨List.Pairwise.nil, fun x => by simp⟩
  simpa using this
end Go.Proofs.YtjfnpklknehiiaaDoor
