/-
  A record of a list changed in place, or left out.
-/
import Derived.Test.YtoikgjhekemjdaaRcL
import Derived.Test.YtoikgjhekemjdaaBase
namespace Go.Proofs.Ytoikgjhekemjdaa
open Go.RowKit Go.Sort
theorem own_setN {w : World} {base : Nat} {t : TypeId} {sz g n cap j : Nat} {xs : List Value} {u : Value} (h : w.ownsRow base t sz (.slice (some ⟨g, 0, none⟩) n cap) n xs) :
    (w.setCell ⟨g, j, none⟩ u).ownsRow base t sz (.slice (some ⟨g, 0, none⟩) n cap) n (xs.set j u) := by
  obtain ⟨h1, h2⟩ := h
  rcases h2 with ⟨h2, _⟩ | ⟨g', cap', cur, e0, hb, hg, hn2, hc, hcs, ht⟩
  · cases h2
  injection e0 with e1 _ e3
  injection e1 with e1
  injection e1 with e1
  subst e1 e3
  refine ⟨by rw [List.length_set, h1], .inr ⟨g, cap, _, rfl, hb, Go.heap_setCell_same w g j cur t u hg, hn2, hc, by simpa using hcs, ?_⟩⟩
  rw [Array.toList_setIfInBounds, ← ht, List.take_set]
theorem rcds_set : ∀ {h : List Rcd} {us : List (Value × Value)} {k j : Nat} {x x' : Rcd} {y y' : Value × Value} {c : Value}, us.length = h.length → h[k]? = some x → us[k]? = some y → j < 6 → (rcCells x y.1 y.2).set j c = rcCells x' y'.1 y'.2 →
    (rcds h us).set (k * 6 + j) c = rcds (h.set k x') (us.set k y')
  | [], us, k, j, x, x', y, y', c, _, h1, _, _, _ => by simp at h1
  | a :: h, [], k, j, x, x', y, y', c, hl, _, _, _, _ => by simp at hl
  | a :: h, b :: us, 0, j, x, x', y, y', c, hl, h1, h2, hj, hs => by
    simp at h1 h2; subst h1 h2
    simp only [rcds, List.set_cons_zero]
    rw [Nat.zero_mul, Nat.zero_add, List.set_append_left _ _ (by show j < 6; exact hj), hs]
  | a :: h, b :: us, k + 1, j, x, x', y, y', c, hl, h1, h2, hj, hs => by
    simp only [rcds, List.set_cons_succ]
    rw [List.set_append_right _ _ (by show 6 ≤ _; omega), show (k + 1) * 6 + j - (rcCells a b.1 b.2).length = k * 6 + j by show (k + 1) * 6 + j - 6 = _; omega]
    rw [rcds_set (by simpa using hl) (by simpa using h1) (by simpa using h2) hj hs]
theorem OwnRc.form2 {w : World} {base : Nat} {v : Value} {l : List Rcd} (ho : OwnRc w base v l) (h0 : 0 < l.length) : ∃ g c, v = .slice (some ⟨g, 0, none⟩) l.length c ∧ base ≤ g ∧ g < w.heap.size := by
  obtain ⟨us, h1, h2, h3⟩ := ho
  rcases h2.2 with ⟨e, hx⟩ | ⟨g, cap, cur, e, hb, hg, hn, _⟩
  · exfalso
    omega
  · exact ⟨g, cap, e, hb, (Array.getElem?_eq_some_iff.1 hg).1⟩
/-- A store into a field of the record k. -/
theorem OwnRc.set {w : World} {base g n c j k : Nat} {l : List Rcd} {x x' : Rcd} {cv : Value} {y' : Value × Value → Value × Value} (ho : OwnRc w base (.slice (some ⟨g, 0, none⟩) n c) l) (hn : n = l.length) (hx : l[k]? = some x) (hj : j < 6)
    (hc : ∀ y : Value × Value, (rcCells x y.1 y.2).set j cv = rcCells x' (y' y).1 (y' y).2)
    (ha : ∀ y : Value × Value, w.ownsRow base 34 12 y.1 x.add.length (ents x.add) → w.ownsRow base 3 1 y.2 x.rem.length (ints x.rem) → w.ownsRow base 34 12 (y' y).1 x'.add.length (ents x'.add) ∧ w.ownsRow base 3 1 (y' y).2 x'.rem.length (ints x'.rem)) :
    OwnRc (w.setCell ⟨g, k * 6 + j, none⟩ cv) base (.slice (some ⟨g, 0, none⟩) n c) (l.set k x') := by
  subst hn
  obtain ⟨us, h1, h2, h3⟩ := ho
  have hkl : k < l.length := (List.getElem?_eq_some_iff.1 hx).1
  have hy := List.getElem?_eq_getElem (show k < us.length by omega)
  have kg := grownBy_set w ⟨g, k * 6 + j, none⟩ cv
  have key : ∀ {t : Rcd} {u : Value × Value}, w.ownsRow base 34 12 u.1 t.add.length (ents t.add) ∧ w.ownsRow base 3 1 u.2 t.rem.length (ints t.rem) → (w.setCell ⟨g, k * 6 + j, none⟩ cv).ownsRow base 34 12 u.1 t.add.length (ents t.add) ∧ (w.setCell ⟨g, k * 6 + j, none⟩ cv).ownsRow base 3 1 u.2 t.rem.length (ints t.rem) := fun ho =>
    ⟨own_row ho.1 kg (fun b hb e => own_ne ho.1 h2 (by decide) b hb (by rw [e]; rfl)), own_row ho.2 kg (fun b hb e => own_ne ho.2 h2 (by decide) b hb (by rw [e]; rfl))⟩
  refine ⟨us.set k (y' us[k]), by simp [h1], ?_, fun i t u hi hu => ?_⟩
  · rw [List.length_set, ← rcds_set h1 hx hy hj (hc us[k])]
    exact own_setN h2
  · rw [List.getElem?_set] at hi hu
    by_cases hki : k = i
    · subst hki
      rw [if_pos rfl, if_pos hkl] at hi
      rw [if_pos rfl, if_pos (by omega)] at hu
      injection hi with hi
      injection hu with hu
      subst hi hu
      have h4 := h3 k x us[k] hx hy
      exact key (ha us[k] h4.1 h4.2)
    · rw [if_neg hki] at hi hu
      exact key (h3 i t u hi hu)
theorem rcds_append : ∀ {h h' : List Rcd} {us us' : List (Value × Value)}, us.length = h.length → rcds (h ++ h') (us ++ us') = rcds h us ++ rcds h' us'
  | [], h', us, us', hl => by have : us = [] := List.eq_nil_of_length_eq_zero hl; subst this; simp [rcds]
  | a :: h, h', [], us', hl => by simp at hl
  | a :: h, h', b :: us, us', hl => by
    have := rcds_append (h := h) (h' := h') (us := us) (us' := us') (by simpa using hl)
    simp only [List.cons_append, rcds, this, List.append_assoc]
theorem rcds_take {h : List Rcd} {us : List (Value × Value)} (k : Nat) (hl : us.length = h.length) (hk : k ≤ h.length) : (rcds h us).take (k * 6) = rcds (h.take k) (us.take k) := by
  have e : rcds h us = rcds (h.take k) (us.take k) ++ rcds (h.drop k) (us.drop k) := by
    rw [← rcds_append (by simp [hl]), List.take_append_drop, List.take_append_drop]
  have e2 : (rcds (h.take k) (us.take k)).length = k * 6 := by rw [rcds_length (by simp [hl]), List.length_take]; omega
  rw [e, List.take_append, ← e2, List.take_length, Nat.sub_self, List.take_zero, List.append_nil]
theorem rcds_drop {h : List Rcd} {us : List (Value × Value)} (k : Nat) (hl : us.length = h.length) (hk : k ≤ h.length) : (rcds h us).drop (k * 6) = rcds (h.drop k) (us.drop k) := by
  have e : rcds h us = rcds (h.take k) (us.take k) ++ rcds (h.drop k) (us.drop k) := by
    rw [← rcds_append (by simp [hl]), List.take_append_drop, List.take_append_drop]
  have e2 : (rcds (h.take k) (us.take k)).length = k * 6 := by rw [rcds_length (by simp [hl]), List.length_take]; omega
  rw [e, List.drop_append, ← e2, List.drop_length, Nat.sub_self, List.drop_zero, List.nil_append]
theorem Sl.front {w : World} {sz n c k : Nat} {A : Option Addr} {xs : List Value} (h : Sl w sz (.slice A n c) n xs) (hk : k ≤ n) : Sl w sz (.slice A k c) k (xs.take (k * sz)) := by
  obtain ⟨A', c', e, q1, q2, q3, q4⟩ := h
  injection e with e1 _ e3
  subst e1 e3
  refine ⟨_, _, rfl, by omega, q2, by rw [List.length_take, q3]; exact Nat.min_eq_left (Nat.mul_le_mul_right _ hk), fun hp => ?_⟩
  obtain ⟨ad, e, hb, hc⟩ := q4 (by omega)
  refine ⟨ad, e, hb, fun j u hu => hc j u ?_⟩
  rw [List.getElem?_take] at hu
  split at hu
  · exact hu
  · cases hu
theorem Sl.back {w : World} {sz n c k g : Nat} {xs : List Value} (h : Sl w sz (.slice (some ⟨g, 0, none⟩) n c) n xs) (hk : k ≤ n) : Sl w sz (.slice (if c = k then some ⟨g, 0, none⟩ else some ⟨g, k * sz, none⟩) (n - k) (c - k)) (n - k) (xs.drop (k * sz)) := by
  obtain ⟨A', c', e, q1, q2, q3, q4⟩ := h
  injection e with e1 _ e3
  subst e1 e3
  refine ⟨_, _, rfl, by omega, by unfold maxLen at q2 ⊢; omega, by rw [List.length_drop, q3, Nat.sub_mul], fun hp => ?_⟩
  rw [if_neg (by omega)]
  obtain ⟨ad, e, hb, hc⟩ := q4 (by omega)
  injection e with e
  subst e
  refine ⟨_, rfl, hb, fun j u hu => ?_⟩
  rw [List.getElem?_drop] at hu
  have := hc _ _ hu
  rw [Addr.add_lit] at this ⊢
  rw [Nat.zero_add] at this
  exact this
theorem one_rcds (h : List Rcd) (us : List (Value × Value)) (hu : ∀ u ∈ us, u.1.oneCell' = true ∧ u.2.oneCell' = true) : ∀ y ∈ rcds h us, y.oneCell' = true := by
  induction h generalizing us with
  | nil => intro y hy; simp [rcds] at hy
  | cons s h ih =>
    cases us with
    | nil => intro y hy; simp [rcds] at hy
    | cons u us =>
      intro y hy
      simp only [rcds, List.mem_append, rcCells, List.mem_cons, List.not_mem_nil, or_false] at hy
      rcases hy with (rfl | rfl | rfl | rfl | rfl | rfl) | hy
      · rfl
      · rfl
      · rfl
      · rfl
      · exact (hu _ (by simp)).1
      · exact (hu _ (by simp)).2
      · exact ih us (fun u hu' => hu u (by simp [hu'])) y hy
theorem rec_mem_set {l : List Rcd} {k : Nat} {x' : Rcd} {P : Rcd → Prop} (h : ∀ x ∈ l, P x) (hx : P x') : ∀ x ∈ l.set k x', P x := fun x hx' => by
  rcases List.mem_or_eq_of_mem_set hx' with h1 | h1
  · exact h x h1
  · rw [h1]; exact hx
theorem chkGo_rem : ∀ {h : List Snp} {a : Snp} {acc : List Rcd}, (∀ s ∈ a :: h, s.l.length ≤ 256) → (∀ x ∈ acc, x.rem.length ≤ 1000000) → ∀ x ∈ (chkGo a acc h).2, x.rem.length ≤ 1000000
  | [], _, _, _, ha => ha
  | b :: h, a, acc, hh, ha => by
    unfold chkGo
    split
    · intro r hr; simp at hr
    split
    · intro r hr; simp at hr
    · refine chkGo_rem (fun s hs => hh s (by simp at hs ⊢; rcases hs with h | h <;> simp [h])) (fun r hr => ?_)
      rcases List.mem_append.1 hr with h1 | h1
      · exact ha r h1
      · simp at h1; subst h1
        show ((missE a.l b.l).map (·.id)).length ≤ _
        rw [List.length_map]
        have h1 := miss_len a.l b.l
        have h2 := hh a (by simp)
        omega
theorem chkV_rem {h : List Snp} {r : List Rcd} (hh : ∀ s ∈ h, s.l.length ≤ 256) (hr : (chkV h).2 = r) : ∀ x ∈ r, x.rem.length ≤ 1000000 := by
  rw [← hr]
  rcases h with _ | ⟨s, h⟩
  · intro r hr; simp [chkV] at hr
  · show ∀ r ∈ (if (s :: h).all Snp.okB = true then chkGo s [baseR s] h else (1, [])).2, _
    split
    · refine chkGo_rem hh (fun r hr => ?_)
      simp at hr; subst hr; simp [baseR]
    · intro r hr; simp at hr
theorem own_froz {w : World} {base : Nat} {t : TypeId} {sz g n cap : Nat} {xs : List Value} (h : w.ownsRow base t sz (.slice (some ⟨g, 0, none⟩) n cap) n xs) (j : Nat) : w.frozen? ⟨g, j, none⟩ = false := by
  rcases h.2 with ⟨h2, _⟩ | ⟨g', cap', cur, e0, hb, hg, _⟩
  · cases h2
  injection e0 with e1 _ e3
  injection e1 with e1
  injection e1 with e1
  subst e1
  simp [World.frozen?, hg]
theorem OwnRc.froz {w : World} {base g n c : Nat} {l : List Rcd} (ho : OwnRc w base (.slice (some ⟨g, 0, none⟩) n c) l) (j : Nat) : w.frozen? ⟨g, j, none⟩ = false := by
  obtain ⟨us, h1, h2, h3⟩ := ho
  have h4 := h2.2
  rcases h4 with ⟨e, _⟩ | ⟨g', cap', cur, e0, _, hg, _⟩
  · cases e
  injection e0 with e1 _ e3
  injection e1 with e1
  injection e1 with e1
  subst e1
  simp [World.frozen?, hg]
theorem OwnRc.lt_ {w : World} {base g n c : Nat} {l : List Rcd} (ho : OwnRc w base (.slice (some ⟨g, 0, none⟩) n c) l) : g < w.heap.size := by
  obtain ⟨us, h1, h2, h3⟩ := ho
  exact (h2.lt g rfl).2
theorem OwnRc.at_ {w : World} {base g n c k : Nat} {l : List Rcd} {x : Rcd} (ho : OwnRc w base (.slice (some ⟨g, 0, none⟩) n c) l) (hn : n = l.length) (hx : l[k]? = some x) (hs : ∀ r ∈ l, ∀ e ∈ r.add, e.small) :
    w.cell? ⟨g, k * 6, none⟩ = some (.int .i64 x.kind) ∧ w.cell? ⟨g, k * 6 + 1, none⟩ = some (.int .i64 x.ver) ∧ w.cell? ⟨g, k * 6 + 2, none⟩ = some (.int .i64 x.seq) ∧ w.cell? ⟨g, k * 6 + 3, none⟩ = some (.int .i64 x.nid) := by
  have hkl : k < l.length := (List.getElem?_eq_some_iff.1 hx).1
  obtain ⟨_, q0, va, vr, p0, e0, hx0, hp0, hRA, _⟩ := (ho.sl hs).load (k := k) hn (by omega)
  cases e0
  rw [hx] at hx0
  injection hx0 with hx0
  subst hx0
  rw [Addr.add_lit, Nat.zero_add] at hp0
  subst hp0
  exact ⟨hRA.c0, hRA.c1, hRA.c2, hRA.c3⟩
theorem one_ints' (l : List Int) : ∀ y ∈ ints l, y.oneCell' = true := by
  intro y hy
  simp only [ints, List.mem_map] at hy
  obtain ⟨x, _, rfl⟩ := hy
  rfl
end Go.Proofs.Ytoikgjhekemjdaa
