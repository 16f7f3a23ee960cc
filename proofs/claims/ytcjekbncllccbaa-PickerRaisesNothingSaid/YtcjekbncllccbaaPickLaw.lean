/-
  Law 28 in plain Lean: at entries that the statements make, the program's words and the reference's come to one.
-/
import Derived.Test.YtcjekbncllccbaaPk8
import Derived.Test.YtcjekbncllccbaaKEntries
namespace Go.Proofs.Ytcjekbncllccbaa
theorem low_of_gen {r : Rk} (h : r.gen) : r.low := by
  obtain ⟨h1, h2, h3, h4, h5, h6⟩ := h
  exact ⟨h1, h4, h5, by omega⟩
theorem genL_low {top : Int} {l : List Ent} (h : GenL top l) : LowL l := fun e he => by
  have := (h.mem e he).1
  unfold Ent.gen at this
  exact ⟨low_of_gen this.2.2.2.2.2.2.2.2.2.1, low_of_gen this.2.2.2.2.2.2.2.2.2.2.1⟩
theorem genL_asc : ∀ {top : Int} {l : List Ent}, GenL top l → Asc l
  | _, [], _ => List.Pairwise.nil
  | _, _ :: _, h => List.Pairwise.cons (fun x hx => h.2.1 x hx) (genL_asc h.2.2.2)
theorem cmp_zero {a b : Rk} (ha : a.low) (hb : b.low) : cmpR 1 a b = 0 ↔ keyR a = keyR b := by
  obtain ⟨h1, h2, h3⟩ := cmp_key ha hb
  constructor
  · intro h; have := h1.1 (by omega); have h4 : ¬ keyR a < keyR b := fun h' => by have := h2.2 h'; omega
    omega
  · intro h
    have h4 := h1.2 (by omega)
    have h5 : ¬ cmpR 1 a b < 0 := fun h' => by have := h2.1 h'; omega
    omega
theorem orV2_pos {c o : Int} : 0 < orV [c, o] ↔ 0 < c ∨ c = 0 ∧ 0 < o := by
  have : orV [c, o] = if c = 0 then (if o = 0 then 0 else o) else c := rfl
  rw [this]
  by_cases h : c = 0 <;> by_cases h' : o = 0 <;> simp [h, h'] <;> omega
theorem orV4_neg {c o d q : Int} : orV [c, o, d, q] < 0 ↔ c < 0 ∨ c = 0 ∧ (o < 0 ∨ o = 0 ∧ (d < 0 ∨ d = 0 ∧ q < 0)) := by
  have : orV [c, o, d, q] = if c = 0 then (if o = 0 then (if d = 0 then (if q = 0 then 0 else q) else d) else o) else c := rfl
  rw [this]
  by_cases h : c = 0 <;> by_cases h' : o = 0 <;> by_cases h'' : d = 0 <;> by_cases h3 : q = 0 <;> simp [h, h', h'', h3] <;> omega
theorem ord_pos {a b : Int} : 0 < ordI a b ↔ b < a := by unfold ordI; split <;> (try split) <;> omega
theorem ord_neg {a b : Int} : ordI a b < 0 ↔ a < b := by unfold ordI; split <;> (try split) <;> omega
theorem ord_zero {a b : Int} : ordI a b = 0 ↔ a = b := by unfold ordI; split <;> (try split) <;> omega
theorem swap_before {a b : Ent} (ha : a.lo.low) (hb : b.lo.low) : swapB 1 a b = beforeB 1 b a := by
  rw [Bool.eq_iff_iff]
  unfold swapB
  rw [decide_eq_true_eq, orV2_pos, before_key hb ha, (cmp_key ha hb).2.2, cmp_zero ha hb, ord_pos]
  constructor
  · rintro (h | ⟨h1, h2⟩)
    · exact .inl h
    · exact .inr ⟨h1.symm, h2⟩
  · rintro (h | ⟨h1, h2⟩)
    · exact .inl h
    · exact .inr ⟨h1.symm, h2⟩
theorem raw_pair {l : List Ent} (ha : Asc l) (hl : LowL l) {q s : Ent × Ent} (h1 : q.1 ∈ l) (h2 : q.2 ∈ l) (h3 : s.1 ∈ l) (h4 : s.2 ∈ l) : rawLt 1 q s = pairLt 1 q s := by
  rw [Bool.eq_iff_iff, pair_key (hl _ h1).1 (hl _ h2).1 (hl _ h3).1 (hl _ h4).1]
  unfold rawLt
  rw [decide_eq_true_eq, orV4_neg, (cmp_key (hl _ h1).1 (hl _ h3).1).2.1, (cmp_key (hl _ h2).1 (hl _ h4).1).2.1, cmp_zero (hl _ h1).1 (hl _ h3).1, cmp_zero (hl _ h2).1 (hl _ h4).1, ord_neg, ord_neg, ord_zero]
  have e1 : q.1.id = s.1.id → keyR q.1.lo = keyR s.1.lo := fun e => by rw [asc_inj ha h1 h3 e]
  omega
theorem asc_idx {l : List Ent} (ha : Asc l) {i j : Nat} {a b : Ent} (hi : l[i]? = some a) (hj : l[j]? = some b) : a.id = b.id ↔ i = j := by
  obtain ⟨h1, e1⟩ := List.getElem?_eq_some_iff.1 hi
  obtain ⟨h2, e2⟩ := List.getElem?_eq_some_iff.1 hj
  constructor
  · intro h
    have ha' := List.pairwise_iff_getElem.1 ha
    rcases Nat.lt_trichotomy i j with h3 | h3 | h3
    · have := ha' i j h1 h2 h3; rw [e1, e2] at this; omega
    · exact h3
    · have := ha' j i h2 h1 h3; rw [e1, e2] at this; omega
  · intro h; subst h; rw [hi] at hj; injection hj with hj; rw [hj]
def restE (t : Int) (l : List Ent) (x y : Ent) : Bool := l.all fun e => decide (e.id = x.id) || decide (e.id = y.id) || !(decide (0 < cmpR t e.hi x.hi) && decide (cmpR t e.lo y.lo < 0))
theorem gap_all {t : Int} {l : List Ent} (ha : Asc l) {x y : Nat} {ex ey : Ent} (hx : l[x]? = some ex) (hy : l[y]? = some ey) : allTo (gapAt t l x y ex ey) l.length = restE t l ex ey := by
  rw [Bool.eq_iff_iff, allTo_true]
  unfold restE
  rw [List.all_eq_true]
  have key : ∀ (j : Nat) (e : Ent), l[j]? = some e → gapAt t l x y ex ey j = (decide (e.id = ex.id) || decide (e.id = ey.id) || !(decide (0 < cmpR t e.hi ex.hi) && decide (cmpR t e.lo ey.lo < 0))) := fun j e he => by
    rw [gapAt_get he]
    congr 2
    · rw [Bool.eq_iff_iff, decide_eq_true_eq, decide_eq_true_eq, asc_idx ha he hx]
    · rw [Bool.eq_iff_iff, decide_eq_true_eq, decide_eq_true_eq, asc_idx ha he hy]
  constructor
  · intro h e he
    obtain ⟨j, hj⟩ := List.mem_iff_getElem?.1 he
    rw [← key j e hj]; exact h j (List.getElem?_eq_some_iff.1 hj).1
  · intro h j hj
    have he := List.getElem?_eq_getElem hj
    rw [key j _ he]; exact h _ (List.getElem_mem hj)
theorem gapE_all {t : Int} {l : List Ent} {x y : Ent} : allTo (gapE t l x.id y.id x y) l.length = restE t l x y := by
  rw [Bool.eq_iff_iff, allTo_true]
  unfold restE
  rw [List.all_eq_true]
  constructor
  · intro h e he
    obtain ⟨j, hj⟩ := List.mem_iff_getElem?.1 he
    have := h j (List.getElem?_eq_some_iff.1 hj).1
    rw [gapE_get hj] at this; exact this
  · intro h j hj
    rw [gapE_get (List.getElem?_eq_getElem hj)]; exact h _ (List.getElem_mem hj)
theorem meet_comm (t : Int) (a b : Ent) : meetE t a b = meetE t b a := by unfold meetE; rw [Bool.and_comm]
theorem adjE_eq (t : Int) (l : List Ent) (x y : Ent) : adjE t l x y = (!meetE t x y && restE t l x y) := rfl
theorem okI_pair {l : List Ent} (ha : Asc l) (hl : LowL l) {rows : Int} {i k : Nat} {a b : Ent} (hi : l[i]? = some a) (hk : l[k]? = some b) (hik : k < i) : okI 1 l rows i k a b = okPair 1 l rows (ordE 1 a b) := by
  have hs := swap_before (hl a (List.mem_of_getElem? hi)).1 (hl b (List.mem_of_getElem? hk)).1
  unfold okI okPair adjI
  rw [gap_all ha hk hi, gap_all ha hi hk, hs]
  have hne : decide (i = k) = false := by simp; omega
  rw [hne]
  unfold ordE
  cases beforeB 1 b a with
  | true =>
    simp only [if_true, Bool.not_false, Bool.true_and]
    rw [adjE_eq, Int.add_comm a.live b.live, meet_comm 1 a b]
  | false =>
    simp only [Bool.false_eq_true, if_false, Bool.not_false, Bool.true_and]
    rw [adjE_eq]
theorem swp_ordE {a b : Ent} (ha : a.lo.low) (hb : b.lo.low) : swp 1 a b = ordE 1 a b := by unfold swp ordE; rw [swap_before ha hb]
theorem rowQ_I {l : List Ent} (ha : Asc l) (hl : LowL l) {rows : Int} {i : Nat} {a : Ent} (hi : l[i]? = some a) : ∀ n, n ≤ i → rowQ 1 l rows i a n = candI 1 l rows a n
  | 0, _ => rfl
  | n + 1, h => by
    have hil := (List.getElem?_eq_some_iff.1 hi).1
    have hn := List.getElem?_eq_getElem (show n < l.length by omega)
    rw [rowQ_next hn, candI_next hn, rowQ_I ha hl hi n (by omega), okI_pair ha hl hi hn (by omega), swp_ordE (hl _ (List.mem_of_getElem? hi)).1 (hl _ (List.mem_of_getElem? hn)).1]
theorem candQ_P {l : List Ent} (ha : Asc l) (hl : LowL l) {rows : Int} : ∀ m, m ≤ l.length → candQ 1 l rows m = candP 1 l rows m
  | 0, _ => rfl
  | m + 1, h => by
    have hm := List.getElem?_eq_getElem (show m < l.length by omega)
    rw [candQ_next hm, candP_next hm, candQ_P ha hl m (by omega), rowQ_I ha hl hm m (Nat.le_refl _)]
theorem minOf_congr {α : Type} {lt lt' : α → α → Bool} {l : List α} (h : ∀ a ∈ l, ∀ b ∈ l, lt a b = lt' a b) : minOf lt l = minOf lt' l := by
  have : ∀ (m : List α) (s : Option α), (∀ a ∈ m, a ∈ l) → (∀ a, s = some a → a ∈ l) → m.foldl (minStep lt) s = m.foldl (minStep lt') s := by
    intro m
    induction m with
    | nil => intro s _ _; rfl
    | cons x m ih =>
      intro s hm hs
      have hx := hm x (by simp)
      have e : minStep lt s x = minStep lt' s x := by
        cases s with
        | none => rfl
        | some a => unfold minStep; simp only; rw [h x hx a (hs a rfl)]
      rw [List.foldl_cons, List.foldl_cons, e]
      refine ih _ (fun a ha => hm a (by simp [ha])) fun a ha => ?_
      cases s with
      | none => simp [minStep] at ha; subst ha; exact hx
      | some b =>
        unfold minStep at ha
        simp only at ha
        split at ha
        · injection ha with ha; subst ha; exact hx
        · injection ha with ha; subst ha; exact hs _ rfl
  exact this l none (fun a ha => ha) (fun a ha => by cases ha)
/-- Pair: the program's answer is the reference's. -/
theorem pairP_V {l : List Ent} (ha : Asc l) (hl : LowL l) (rows : Int) : pairP 1 l rows = pairV 1 l (candR 1 l rows l.length) := by
  unfold pairP pairV
  split
  · rw [candQ_P ha hl l.length (Nat.le_refl _), ← pair_same ha hl]
    exact minOf_congr fun q hq s hs => raw_pair ha hl (candP_sub ha hl q hq).1 (candP_sub ha hl q hq).2 (candP_sub ha hl s hs).1 (candP_sub ha hl s hs).2
  · rfl
theorem findE_mem {l : List Ent} (ha : Asc l) {x : Ent} (hx : x ∈ l) : findE l x.id = some x := by
  obtain ⟨k, hk⟩ := List.mem_iff_getElem?.1 hx
  refine findE_hit (fun j d hd hj e => ?_) hk rfl
  have := (asc_idx ha hd hk).1 e
  omega
theorem adjR_E {l : List Ent} (ha : Asc l) (hl : LowL l) (hc : chkEs 1 l = true) {x y : Ent} (hx : x ∈ l) (hy : y ∈ l) (hb : beforeB 1 x y = true) (hm : meetE 1 x y = false) : adjR 1 l x.id y.id = adjE 1 l x y := by
  have hk := (before_key (hl _ hx).1 (hl _ hy).1).1 hb
  have hne : x.id ≠ y.id := fun e => by
    have := asc_inj ha hx hy e
    subst this; omega
  have hn : ¬ 0 < cmpR 1 x.lo y.lo := fun h => by have := (cmp_key (hl _ hx).1 (hl _ hy).1).2.2.1 h; omega
  unfold adjR
  rw [findE_mem ha hx, findE_mem ha hy]
  simp only
  rw [hc, Bool.true_and]
  unfold adjX
  rw [if_neg hn, gapE_all, adjE_eq, decide_eq_false hne, Bool.not_false, Bool.true_and]
end Go.Proofs.Ytcjekbncllccbaa
