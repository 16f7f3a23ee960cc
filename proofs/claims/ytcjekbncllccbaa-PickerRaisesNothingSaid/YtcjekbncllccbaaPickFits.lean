/-
  Law 28 in plain Lean: Pair finds two fitting entries if there are any; the chosen ones of two numbers.
-/
import Derived.Test.YtcjekbncllccbaaPickLaw2
import Derived.Test.YtcjekbncllccbaaPk10
namespace Go.Proofs.Ytcjekbncllccbaa
def fitB (l : List Ent) (rows : Int) (x y : Ent) : Bool := decide (x.live + y.live ≤ rows) && (meetE 1 x y || adjR 1 l x.id y.id)
def anyRow (l : List Ent) (rows : Int) (x : Ent) : Nat → Bool
  | 0 => false
  | n + 1 => anyRow l rows x n || (match l[n]? with | some y => fitB l rows x y | none => false)
def anyAll (l : List Ent) (rows : Int) : Nat → Bool
  | 0 => false
  | m + 1 => anyAll l rows m || (match l[m]? with | some x => anyRow l rows x m | none => false)
theorem anyRow_next {l : List Ent} {rows : Int} {x y : Ent} {n : Nat} (h : l[n]? = some y) : anyRow l rows x (n + 1) = (anyRow l rows x n || fitB l rows x y) := by
  show (anyRow l rows x n || _) = _
  rw [h]
theorem anyAll_next {l : List Ent} {rows : Int} {x : Ent} {m : Nat} (h : l[m]? = some x) : anyAll l rows (m + 1) = (anyAll l rows m || anyRow l rows x m) := by
  show (anyAll l rows m || _) = _
  rw [h]
theorem gapE_swap (t : Int) (l : List Ent) (a b : Int) (ex ey : Ent) : gapE t l a b ex ey = gapE t l b a ex ey := by
  funext j
  unfold gapE
  cases l[j]? with
  | none => rfl
  | some e => simp only; rw [Bool.or_comm (decide (e.id = a))]
theorem minOf_some {α : Type} (lt : α → α → Bool) (l : List α) : (minOf lt l).isSome = !l.isEmpty := by
  have : ∀ (m : List α) (s : Option α), (m.foldl (minStep lt) s).isSome = (s.isSome || !m.isEmpty) := by
    intro m
    induction m with
    | nil => intro s; simp
    | cons x m ih =>
      intro s
      rw [List.foldl_cons, ih]
      have e : (minStep lt s x).isSome = true := by
        cases s with
        | none => rfl
        | some a => unfold minStep; simp only; split <;> rfl
      rw [e]; simp
  rw [minOf, this]; simp
theorem filt_one {x : Int} : ∀ {ids : List Int}, ids.Nodup → (ids.filter fun i => decide (x = i)) = if x ∈ ids then [x] else []
  | [], _ => rfl
  | i :: r, h => by
    have h' := List.nodup_cons.1 h
    have ih := filt_one (x := x) h'.2
    by_cases e : x = i
    · subst e
      rw [List.filter_cons_of_pos (by simp), ih, if_neg h'.1, if_pos (by simp)]
    · rw [List.filter_cons_of_neg (by simp [e]), ih]
      by_cases m : x ∈ r
      · rw [if_pos m, if_pos (by simp [m])]
      · rw [if_neg m, if_neg (by simp [e, m])]
/-- The chosen entries of a list of different numbers. -/
theorem chosen_byIds {l : List Ent} {ids : List Int} (hi : ids.Nodup) : chosenE l ids = byIds l ids := by
  unfold chosenE byIds
  have : ∀ m : List Ent, (m.flatMap fun e => oneE e ids) = m.filter fun e => decide (e.id ∈ ids) := by
    intro m
    induction m with
    | nil => rfl
    | cons e m ih =>
      rw [List.flatMap_cons, ih]
      have h1 : oneE e ids = if e.id ∈ ids then [e] else [] := by
        unfold oneE
        rw [filt_one hi]
        split <;> rfl
      rw [h1]
      by_cases hm : e.id ∈ ids
      · rw [if_pos hm, List.filter_cons_of_pos (by simpa using hm)]; rfl
      · rw [if_neg hm, List.filter_cons_of_neg (by simpa using hm)]; rfl
  exact this l
section
variable {l : List Ent} (h : Made l)
include h
theorem Made.meet_lo {x y : Ent} (hx : x ∈ l) (hy : y ∈ l) (hm : meetE 1 x y = false) : keyR x.lo ≠ keyR y.lo := fun e => by
  rw [← Bool.not_eq_true] at hm
  refine hm ?_
  unfold meetE
  rw [Bool.and_eq_true, decide_eq_true_eq, decide_eq_true_eq, (cmp_key (h.low x hx).1 (h.low y hy).2).1, (cmp_key (h.low y hy).1 (h.low x hx).2).1]
  have := h.ord x hx
  have := h.ord y hy
  omega
theorem Made.adj_ord {x y : Ent} (hx : x ∈ l) (hy : y ∈ l) (hne : x.id ≠ y.id) (hm : meetE 1 x y = false) : adjR 1 l x.id y.id = adjE 1 l (ordE 1 x y).1 (ordE 1 x y).2 := by
  have ht := before_tot (h.low x hx).1 (h.low y hy).1 hne
  cases hb : beforeB 1 x y with
  | true =>
    rw [hb] at ht
    unfold ordE
    rw [ht]
    exact h.adj h.chk x hx y hy hb hm
  | false =>
    rw [hb] at ht
    have hk := (before_key (h.low y hy).1 (h.low x hx).1).1 (by simpa using ht)
    have hlo := h.meet_lo hx hy hm
    have hgt : 0 < cmpR 1 x.lo y.lo := (cmp_key (h.low x hx).1 (h.low y hy).1).2.2.2 (by omega)
    unfold ordE
    rw [ht]
    simp only [Bool.not_false, if_true]
    unfold adjR
    rw [findE_mem h.asc hx, findE_mem h.asc hy]
    simp only
    rw [h.chk, Bool.true_and]
    unfold adjX
    rw [if_pos hgt, gapE_swap, gapE_all, adjE_eq, decide_eq_false hne, Bool.not_false, Bool.true_and, meet_comm]
theorem Made.fit {rows : Int} {x y : Ent} (hx : x ∈ l) (hy : y ∈ l) (hne : x.id ≠ y.id) : fitB l rows x y = okPair 1 l rows (ordE 1 x y) := by
  have e1 : ∀ q : Bool, (meetE 1 x y || q) = (meetE 1 (ordE 1 x y).1 (ordE 1 x y).2 || q) := fun q => by unfold ordE; split <;> simp [meet_comm 1 y x]
  have e2 : (ordE 1 x y).1.live + (ordE 1 x y).2.live = x.live + y.live := by unfold ordE; split <;> simp only <;> omega
  unfold fitB okPair
  rw [e2, e1]
  cases hm : meetE 1 x y with
  | true =>
    have := e1 false
    rw [hm, Bool.true_or, Bool.or_false] at this
    rw [← this]; simp
  | false => rw [h.adj_ord hx hy hne hm]
theorem Made.row_any {rows : Int} {m : Nat} {x : Ent} (hm : l[m]? = some x) : ∀ n, n ≤ m → anyRow l rows x n = !(candI 1 l rows x n).isEmpty
  | 0, _ => rfl
  | n + 1, hn => by
    have hml := (List.getElem?_eq_some_iff.1 hm).1
    have he := List.getElem?_eq_getElem (show n < l.length by omega)
    have hne : x.id ≠ l[n].id := fun e => by have := (asc_idx h.asc hm he).1 e; omega
    rw [anyRow_next he, candI_next he, Made.row_any hm n (by omega), h.fit (List.mem_of_getElem? hm) (List.mem_of_getElem? he) hne]
    cases okPair 1 l rows (ordE 1 x l[n]) <;> simp
theorem Made.all_any {rows : Int} : ∀ m, m ≤ l.length → anyAll l rows m = !(candP 1 l rows m).isEmpty
  | 0, _ => rfl
  | m + 1, hm => by
    have he := List.getElem?_eq_getElem (show m < l.length by omega)
    rw [anyAll_next he, candP_next he, Made.all_any m (by omega), h.row_any he m (Nat.le_refl _)]
    have e : ∀ a b : List (Ent × Ent), (!a.isEmpty || !b.isEmpty) = !(a ++ b).isEmpty := fun a b => by cases a <;> cases b <;> rfl
    exact e _ _
theorem Made.pair_min (rows : Int) : pairP 1 l rows = minOf (pairLt 1) (candP 1 l rows l.length) := by
  rw [h.pair]
  unfold pairV
  rw [if_pos h.chk, ← pair_same h.asc h.low]
theorem Made.any (rows : Int) : anyAll l rows l.length = (pairP 1 l rows).isSome := by rw [h.all_any _ (Nat.le_refl _), h.pair_min, minOf_some]
/-- What Pair finds. -/
theorem Made.found {rows : Int} {s : Ent × Ent} (hs : pairP 1 l rows = some s) : s.1 ∈ l ∧ s.2 ∈ l ∧ s.1.id ≠ s.2.id ∧ beforeB 1 s.1 s.2 = true ∧ okPair 1 l rows s = true := by
  rw [h.pair_min] at hs
  have := minOf_is (pair_tells h.asc h.low (candP_sub (rows := rows) h.asc h.low))
  rw [hs] at this
  have hm := (cand_same h.asc h.low s).1 this.1
  unfold candR candJ at hm
  rw [List.mem_flatMap, List.take_length] at hm
  obtain ⟨x, hx, hm⟩ := hm
  obtain ⟨h1, h2⟩ := List.mem_filter.1 hm
  obtain ⟨y, hy, rfl⟩ := List.mem_map.1 h1
  simp only [Bool.and_eq_true] at h2
  refine ⟨hx, hy, fun e => ?_, h2.1, h2.2⟩
  have := asc_inj h.asc hx hy e
  have hk := (before_key (h.low _ hx).1 (h.low _ hy).1).1 h2.1
  subst this
  omega
theorem Made.two {x y : Ent} (hx : x ∈ l) (hy : y ∈ l) (hne : x.id ≠ y.id) : chosenE l [x.id, y.id] = [x, y] ∨ chosenE l [x.id, y.id] = [y, x] := by
  rw [chosen_byIds (by simp [hne])]
  have hp : (byIds l [x.id, y.id]).Perm [x, y] := by
    refine (List.perm_ext_iff_of_nodup (List.Pairwise.filter _ (asc_nodup h.asc)) ?_).2 fun z => ?_
    · have hxy : x ≠ y := fun e => hne (by rw [e])
      simp [hxy]
    · rw [List.mem_filter]
      simp only [decide_eq_true_eq, List.mem_cons, List.not_mem_nil, or_false]
      constructor
      · rintro ⟨hz, e | e⟩
        · exact .inl (asc_inj h.asc hz hx e)
        · exact .inr (asc_inj h.asc hz hy e)
      · rintro (rfl | rfl)
        · exact ⟨hx, .inl rfl⟩
        · exact ⟨hy, .inr rfl⟩
  have hl := hp.length_eq
  match hb : byIds l [x.id, y.id], hl with
  | [a, b], _ =>
    rw [hb] at hp
    rcases List.mem_cons.1 ((hp.mem_iff (a := a)).1 (by simp)) with e | e
    · subst e
      have := (List.Perm.cons_inv hp)
      rw [List.perm_singleton] at this
      left; rw [this]
    · simp at e; subst e
      have h2 := hp.trans (List.Perm.swap _ _ [])
      have := List.Perm.cons_inv h2
      rw [List.perm_singleton] at this
      right; rw [this]
end
end Go.Proofs.Ytcjekbncllccbaa
