/-
  An entry of a list of the call's own changed in place.
-/
import Derived.Test.YtcjekbncllccbaaGreatKEntries
import Derived.Test.YtcjekbncllccbaaGreatBase
namespace Go.Proofs.YtcjekbncllccbaaGreat
open Go.RowKit Go.Sort
theorem own_setE {w : World} {base : Nat} {t : TypeId} {sz g n cap j : Nat} {xs : List Value} {u : Value} (h : w.ownsRow base t sz (.slice (some ⟨g, 0, none⟩) n cap) n xs) :
    (w.setCell ⟨g, j, none⟩ u).ownsRow base t sz (.slice (some ⟨g, 0, none⟩) n cap) n (xs.set j u) := by
  obtain ⟨h1, h2⟩ := h
  rcases h2 with ⟨h2, _⟩ | ⟨g', cap', cur, e0, hb, hg, hn2, hc, hcs, ht⟩
  · cases h2
  injection e0 with e1 _ e3
  injection e1 with e1
  injection e1 with e1
  subst e1 e3
  refine ⟨by rw [List.length_set, h1], .inr ⟨g, cap, _, rfl, hb, Go.heap_setCell_same w g j cur t u hg, hn2, hc, by simpa using hcs, ?_⟩⟩
  rw [Array.toList_setIfInBounds, ← ht, List.take_set]
theorem own_frozE {w : World} {base : Nat} {t : TypeId} {sz g n cap : Nat} {xs : List Value} (h : w.ownsRow base t sz (.slice (some ⟨g, 0, none⟩) n cap) n xs) (j : Nat) : w.frozen? ⟨g, j, none⟩ = false := by
  rcases h.2 with ⟨e, _⟩ | ⟨g', cap', cur, e0, _, hg, _⟩
  · cases e
  injection e0 with e1 _ e3
  injection e1 with e1
  injection e1 with e1
  subst e1
  simp [World.frozen?, hg]
theorem ents_setE : ∀ {l : List Ent} {k j : Nat} {x x' : Ent} {c : Value}, l[k]? = some x → j < 12 → x.cells.set j c = x'.cells → (ents l).set (k * 12 + j) c = ents (l.set k x')
  | [], k, j, x, x', c, h1, _, _ => by simp at h1
  | a :: l, 0, j, x, x', c, h1, hj, hs => by
    simp at h1; subst h1
    unfold ents
    rw [List.set_cons_zero, List.flatMap_cons, List.flatMap_cons, Nat.zero_mul, Nat.zero_add, List.set_append_left _ _ (by show j < 12; exact hj), hs]
  | a :: l, k + 1, j, x, x', c, h1, hj, hs => by
    have ih := ents_setE (l := l) (k := k) (by simpa using h1) hj hs
    unfold ents at ih ⊢
    rw [List.set_cons_succ, List.flatMap_cons, List.flatMap_cons, List.set_append_right _ _ (by show 12 ≤ _; omega), show (k + 1) * 12 + j - a.cells.length = k * 12 + j by show (k + 1) * 12 + j - 12 = _; omega, ih]
section
variable {w : World} {base g n c k : Nat} {l : List Ent} {x : Ent}
abbrev OwnE (w : World) (base g n c : Nat) (l : List Ent) : Prop := w.ownsRow base 32 12 (.slice (some ⟨g, 0, none⟩) n c) n (ents l)
theorem own_setOne {x' : Ent} {cv : Value} {j : Nat} (h : OwnE w base g n c l) (hx : l[k]? = some x) (hj : j < 12) (hs : x.cells.set j cv = x'.cells) : OwnE (w.setCell ⟨g, k * 12 + j, none⟩ cv) base g n c (l.set k x') := by
  unfold OwnE
  rw [← ents_setE hx hj hs]
  exact own_setE h
theorem get_setE {x' : Ent} (hx : l[k]? = some x) : (l.set k x')[k]? = some x' := by
  rw [List.getElem?_set]
  simp [(List.getElem?_eq_some_iff.1 hx).1]
theorem own_setLo (r : Rk) (h : OwnE w base g n c l) (hx : l[k]? = some x) :
    OwnE ((((w.setCell ⟨g, k * 12 + 3, none⟩ (.bool r.null)).setCell ⟨g, k * 12 + 4, none⟩ (.int .i64 r.n)).setCell ⟨g, k * 12 + 5, none⟩ (.string r.s)).setCell ⟨g, k * 12 + 6, none⟩ (.int .i64 r.seq)) base g n c (l.set k { x with lo := r }) := by
  have h1 := own_setOne (x' := { x with lo := ⟨r.null, x.lo.n, x.lo.s, x.lo.seq⟩ }) (cv := .bool r.null) (j := 3) h hx (by omega) rfl
  have h2 := own_setOne (x' := { x with lo := ⟨r.null, r.n, x.lo.s, x.lo.seq⟩ }) (cv := .int .i64 r.n) (j := 4) h1 (get_setE hx) (by omega) rfl
  have h3 := own_setOne (x' := { x with lo := ⟨r.null, r.n, r.s, x.lo.seq⟩ }) (cv := .string r.s) (j := 5) h2 (get_setE (get_setE hx)) (by omega) rfl
  have h4 := own_setOne (x' := { x with lo := r }) (cv := .int .i64 r.seq) (j := 6) h3 (get_setE (get_setE (get_setE hx))) (by omega) rfl
  simpa only [List.set_set] using h4
theorem own_setHi (r : Rk) (h : OwnE w base g n c l) (hx : l[k]? = some x) :
    OwnE ((((w.setCell ⟨g, k * 12 + 7, none⟩ (.bool r.null)).setCell ⟨g, k * 12 + 8, none⟩ (.int .i64 r.n)).setCell ⟨g, k * 12 + 9, none⟩ (.string r.s)).setCell ⟨g, k * 12 + 10, none⟩ (.int .i64 r.seq)) base g n c (l.set k { x with hi := r }) := by
  have h1 := own_setOne (x' := { x with hi := ⟨r.null, x.hi.n, x.hi.s, x.hi.seq⟩ }) (cv := .bool r.null) (j := 7) h hx (by omega) rfl
  have h2 := own_setOne (x' := { x with hi := ⟨r.null, r.n, x.hi.s, x.hi.seq⟩ }) (cv := .int .i64 r.n) (j := 8) h1 (get_setE hx) (by omega) rfl
  have h3 := own_setOne (x' := { x with hi := ⟨r.null, r.n, r.s, x.hi.seq⟩ }) (cv := .string r.s) (j := 9) h2 (get_setE (get_setE hx)) (by omega) rfl
  have h4 := own_setOne (x' := { x with hi := r }) (cv := .int .i64 r.seq) (j := 10) h3 (get_setE (get_setE (get_setE hx))) (by omega) rfl
  simpa only [List.set_set] using h4
/-- The cells of the entry k. -/
theorem own_at (h : OwnE w base g n c l) (hn : n = l.length) (hx : l[k]? = some x) : EntAt w ⟨g, k * 12, none⟩ x := by
  have hkl : k < l.length := (List.getElem?_eq_some_iff.1 hx).1
  obtain ⟨ad, e, p, e0, he, hp, hE⟩ := (Sl.of_own h).ent_load (k := k) hn (by omega)
  cases e0
  rw [hx] at he
  injection he with he
  subst he
  rw [Addr.add_lit, Nat.zero_add] at hp
  subst hp
  exact hE
end
theorem below_set4 {w0 w : World} {g i0 i1 i2 i3 : Nat} (hb : Below w0.heap.size w0 w) (hg : w0.heap.size ≤ g) (x0 x1 x2 x3 : Value) :
    Below w0.heap.size w0 ((((w.setCell ⟨g, i0, none⟩ x0).setCell ⟨g, i1, none⟩ x1).setCell ⟨g, i2, none⟩ x2).setCell ⟨g, i3, none⟩ x3) :=
  below_row hb (grown_trans' (grown_trans' (grown_trans' (grownBy_set w ⟨g, i0, none⟩ x0) (grownBy_set _ ⟨g, i1, none⟩ x1)) (grownBy_set _ ⟨g, i2, none⟩ x2)) (grownBy_set _ ⟨g, i3, none⟩ x3)) hg hb.size
theorem below_set1 {w0 w : World} {g i0 : Nat} (hb : Below w0.heap.size w0 w) (hg : w0.heap.size ≤ g) (x0 : Value) : Below w0.heap.size w0 (w.setCell ⟨g, i0, none⟩ x0) :=
  below_row hb (grownBy_set w ⟨g, i0, none⟩ x0) hg hb.size
/-- The entry whose ends are under way. -/
def mixE (e : Ent) (p q : Bool) : Ent := ⟨e.id, e.rows, e.live, if p then e.hi else e.lo, if q then e.lo else e.hi, e.del⟩
theorem own_below_all {w w' : World} {base g n c : Nat} {l : List Ent} (h : OwnE w base g n c l) (hb : Below w.heap.size w w') : OwnE w' base g n c l := own_below h hb
end Go.Proofs.YtcjekbncllccbaaGreat
