/-
  Lists of versions and of records: their cells; read (SlSn, SlRc), and in memory of the call's own (OwnSn, OwnRc).
-/
import Derived.Test.YtcjekbncllccbaaApplyMeans
import Derived.Test.YtcjekbncllccbaaRecKit
import Derived.Test.YtcjekbncllccbaaKEntries
namespace Go.Proofs.Ytcjekbncllccbaa
open Go.RowKit
def snCells (s : Snp) (u : Value) : List Value := [.int .i64 s.ver, .int .i64 s.seq, .int .i64 s.nid, u]
def snps : List Snp → List Value → List Value
  | s :: h, u :: us => snCells s u ++ snps h us
  | _, _ => []
theorem snps_length : ∀ {h : List Snp} {us : List Value}, us.length = h.length → (snps h us).length = h.length * 4
  | [], us, _ => by cases us <;> rfl
  | s :: h, [], hl => by simp at hl
  | s :: h, u :: us, hl => by
    have := snps_length (h := h) (us := us) (by simpa using hl)
    simp only [snps, List.length_append, this, snCells, List.length_cons, List.length_nil]; omega
theorem snps_snoc : ∀ {h : List Snp} {us : List Value} {s : Snp} {u : Value}, us.length = h.length → snps (h ++ [s]) (us ++ [u]) = snps h us ++ snCells s u
  | [], us, s, u, hl => by have : us = [] := List.eq_nil_of_length_eq_zero hl; subst this; simp [snps]
  | x :: h, [], s, u, hl => by simp at hl
  | x :: h, y :: us, s, u, hl => by
    have := snps_snoc (h := h) (us := us) (s := s) (u := u) (by simpa using hl)
    simp only [List.cons_append, snps, this, List.append_assoc]
theorem snps_get : ∀ {h : List Snp} {us : List Value} {k j : Nat} {s : Snp} {u : Value}, h[k]? = some s → us[k]? = some u → j < 4 → (snps h us)[k * 4 + j]? = (snCells s u)[j]?
  | [], us, k, j, s, u, h1, _, _ => by simp at h1
  | x :: h, [], k, j, s, u, _, h2, _ => by simp at h2
  | x :: h, y :: us, 0, j, s, u, h1, h2, hj => by
    simp at h1 h2; subst h1 h2
    simp only [snps]
    rw [List.getElem?_append_left (by show _ < 4; omega)]; simp
  | x :: h, y :: us, k + 1, j, s, u, h1, h2, hj => by
    simp only [snps]
    rw [List.getElem?_append_right (by show 4 ≤ _; omega), show (k + 1) * 4 + j - (snCells x y).length = k * 4 + j by show (k + 1) * 4 + j - 4 = _; omega]
    exact snps_get (by simpa using h1) (by simpa using h2) hj
/-- A version lies at p, its entries' slice being u. -/
structure SnAt (w : World) (p : Addr) (s : Snp) (u : Value) : Prop where
  lt : p.block < w.heap.size
  c0 : w.cell? p = some (.int .i64 s.ver)
  c1 : w.cell? { block := p.block, off := p.off + 1 } = some (.int .i64 s.seq)
  c2 : w.cell? { block := p.block, off := p.off + 2 } = some (.int .i64 s.nid)
  c3 : w.cell? { block := p.block, off := p.off + 3 } = some u
def SlSn (w : World) (v : Value) (h : List Snp) : Prop :=
  ∃ us : List Value, us.length = h.length ∧ Sl w 4 v h.length (snps h us) ∧ ∀ (k : Nat) (s : Snp) (u : Value), h[k]? = some s → us[k]? = some u → Sl w 12 u s.l.length (ents s.l)
theorem SlSn.below {w w' : World} {v : Value} {h : List Snp} (hs : SlSn w v h) (hb : Below w.heap.size w w') : SlSn w' v h := by
  obtain ⟨us, h1, h2, h3⟩ := hs
  exact ⟨us, h1, h2.below hb, fun k s u hk hu => (h3 k s u hk hu).below hb⟩
theorem SlSn.form {w : World} {v : Value} {h : List Snp} (hs : SlSn w v h) : ∃ A c, v = .slice A h.length c ∧ h.length ≤ c ∧ c ≤ maxLen := by
  obtain ⟨us, h1, h2, h3⟩ := hs; exact h2.form
theorem SlSn.load {w : World} {A : Option Addr} {c n k : Nat} {h : List Snp} (hs : SlSn w (.slice A n c) h) (hn : n = h.length) (hk : k < n) :
    ∃ ad s u p, A = some ad ∧ h[k]? = some s ∧ ad.add (k * 4) = p ∧ SnAt w p s u ∧ Sl w 12 u s.l.length (ents s.l) := by
  obtain ⟨us, h1, h2, h3⟩ := hs
  obtain ⟨A', c', e0, _, _, hlen, h4⟩ := h2
  injection e0 with e1 e2 e3
  subst e1
  obtain ⟨ad, e, hb, hc⟩ := h4 (by omega)
  have hkl : k < h.length := by omega
  have hs := List.getElem?_eq_getElem hkl
  have hu := List.getElem?_eq_getElem (show k < us.length by omega)
  have hj : ∀ j v, j < 4 → (snCells h[k] us[k])[j]? = some v → w.cell? (ad.add (k * 4 + j)) = some v := fun j v h5 h6 => hc _ v ((snps_get hs hu h5).trans h6)
  have h0 := hj 0 _ (by omega) rfl
  rw [Nat.add_zero] at h0
  have hj' : ∀ j v, 0 < j → j < 4 → (snCells h[k] us[k])[j]? = some v → w.cell? { block := (ad.add (k * 4)).block, off := (ad.add (k * 4)).off + j } = some v := fun j v h5 h6 h7 => by rw [← add_off _ _ _ h5]; exact hj j v h6 h7
  exact ⟨ad, _, _, _, e, hs, rfl, ⟨World.block_lt_of_cell? w _ h0, h0, hj' 1 _ (by omega) (by omega) rfl, hj' 2 _ (by omega) (by omega) rfl, hj' 3 _ (by omega) (by omega) rfl⟩, h3 k _ _ hs hu⟩
theorem one4 (a b c : Int) (A : Option Addr) (n k : Nat) : ∀ u ∈ (#[Value.int .i64 a, .int .i64 b, .int .i64 c, .slice A n k] : Array Value).toList, u.oneCell' = true := by
  intro u hu
  simp only [List.mem_cons, List.not_mem_nil, or_false] at hu
  rcases hu with rfl | rfl | rfl | rfl <;> rfl
/-- Records. -/
def rcCells (r : Rcd) (va vr : Value) : List Value := [.int .i64 r.kind, .int .i64 r.ver, .int .i64 r.seq, .int .i64 r.nid, va, vr]
def rcds : List Rcd → List (Value × Value) → List Value
  | r :: l, u :: us => rcCells r u.1 u.2 ++ rcds l us
  | _, _ => []
theorem rcds_length : ∀ {l : List Rcd} {us : List (Value × Value)}, us.length = l.length → (rcds l us).length = l.length * 6
  | [], us, _ => by cases us <;> rfl
  | s :: h, [], hl => by simp at hl
  | s :: h, u :: us, hl => by
    have := rcds_length (l := h) (us := us) (by simpa using hl)
    simp only [rcds, List.length_append, this, rcCells, List.length_cons, List.length_nil]; omega
theorem rcds_snoc : ∀ {h : List Rcd} {us : List (Value × Value)} {s : Rcd} {u : Value × Value}, us.length = h.length → rcds (h ++ [s]) (us ++ [u]) = rcds h us ++ rcCells s u.1 u.2
  | [], us, s, u, hl => by have : us = [] := List.eq_nil_of_length_eq_zero hl; subst this; simp [rcds]
  | x :: h, [], s, u, hl => by simp at hl
  | x :: h, y :: us, s, u, hl => by
    have := rcds_snoc (h := h) (us := us) (s := s) (u := u) (by simpa using hl)
    simp only [List.cons_append, rcds, this, List.append_assoc]
theorem rcds_get : ∀ {h : List Rcd} {us : List (Value × Value)} {k j : Nat} {s : Rcd} {u : Value × Value}, h[k]? = some s → us[k]? = some u → j < 6 → (rcds h us)[k * 6 + j]? = (rcCells s u.1 u.2)[j]?
  | [], us, k, j, s, u, h1, _, _ => by simp at h1
  | x :: h, [], k, j, s, u, _, h2, _ => by simp at h2
  | x :: h, y :: us, 0, j, s, u, h1, h2, hj => by
    simp at h1 h2; subst h1 h2
    simp only [rcds]
    rw [List.getElem?_append_left (by show _ < 6; omega)]; simp
  | x :: h, y :: us, k + 1, j, s, u, h1, h2, hj => by
    simp only [rcds]
    rw [List.getElem?_append_right (by show 6 ≤ _; omega), show (k + 1) * 6 + j - (rcCells x y.1 y.2).length = k * 6 + j by show (k + 1) * 6 + j - 6 = _; omega]
    exact rcds_get (by simpa using h1) (by simpa using h2) hj
structure RcAt (w : World) (p : Addr) (r : Rcd) (va vr : Value) : Prop where
  lt : p.block < w.heap.size
  c0 : w.cell? p = some (.int .i64 r.kind)
  c1 : w.cell? { block := p.block, off := p.off + 1 } = some (.int .i64 r.ver)
  c2 : w.cell? { block := p.block, off := p.off + 2 } = some (.int .i64 r.seq)
  c3 : w.cell? { block := p.block, off := p.off + 3 } = some (.int .i64 r.nid)
  c4 : w.cell? { block := p.block, off := p.off + 4 } = some va
  c5 : w.cell? { block := p.block, off := p.off + 5 } = some vr
/-- What a record that is read leans on. -/
def RcOk (w : World) (r : Rcd) (va vr : Value) : Prop := Sl w 12 va r.add.length (ents r.add) ∧ Sl w 1 vr r.rem.length (ints r.rem) ∧ (∀ e ∈ r.add, e.small)
def SlRc (w : World) (v : Value) (l : List Rcd) : Prop :=
  ∃ us : List (Value × Value), us.length = l.length ∧ Sl w 6 v l.length (rcds l us) ∧ ∀ (k : Nat) (r : Rcd) (u : Value × Value), l[k]? = some r → us[k]? = some u → RcOk w r u.1 u.2
theorem RcOk.below {w w' : World} {r : Rcd} {va vr : Value} (h : RcOk w r va vr) (hb : Below w.heap.size w w') : RcOk w' r va vr := ⟨h.1.below hb, h.2.1.below hb, h.2.2⟩
theorem SlRc.below {w w' : World} {v : Value} {h : List Rcd} (hs : SlRc w v h) (hb : Below w.heap.size w w') : SlRc w' v h := by
  obtain ⟨us, h1, h2, h3⟩ := hs
  exact ⟨us, h1, h2.below hb, fun k s u hk hu => (h3 k s u hk hu).below hb⟩
theorem SlRc.form {w : World} {v : Value} {h : List Rcd} (hs : SlRc w v h) : ∃ A c, v = .slice A h.length c ∧ h.length ≤ c ∧ c ≤ maxLen := by
  obtain ⟨us, h1, h2, h3⟩ := hs; exact h2.form
theorem SlRc.load {w : World} {A : Option Addr} {c n k : Nat} {h : List Rcd} (hs : SlRc w (.slice A n c) h) (hn : n = h.length) (hk : k < n) :
    ∃ ad r va vr p, A = some ad ∧ h[k]? = some r ∧ ad.add (k * 6) = p ∧ RcAt w p r va vr ∧ RcOk w r va vr := by
  obtain ⟨us, h1, h2, h3⟩ := hs
  obtain ⟨A', c', e0, _, _, hlen, h4⟩ := h2
  injection e0 with e1 e2 e3
  subst e1
  obtain ⟨ad, e, hb, hc⟩ := h4 (by omega)
  have hkl : k < h.length := by omega
  have hs := List.getElem?_eq_getElem hkl
  have hu := List.getElem?_eq_getElem (show k < us.length by omega)
  have hj : ∀ j v, j < 6 → (rcCells h[k] us[k].1 us[k].2)[j]? = some v → w.cell? (ad.add (k * 6 + j)) = some v := fun j v h5 h6 => hc _ v ((rcds_get hs hu h5).trans h6)
  have h0 := hj 0 _ (by omega) rfl
  rw [Nat.add_zero] at h0
  have hj' : ∀ j v, 0 < j → j < 6 → (rcCells h[k] us[k].1 us[k].2)[j]? = some v → w.cell? { block := (ad.add (k * 6)).block, off := (ad.add (k * 6)).off + j } = some v := fun j v h5 h6 h7 => by rw [← add_off _ _ _ h5]; exact hj j v h6 h7
  exact ⟨ad, _, _, _, _, e, hs, rfl, ⟨World.block_lt_of_cell? w _ h0, h0, hj' 1 _ (by omega) (by omega) rfl, hj' 2 _ (by omega) (by omega) rfl, hj' 3 _ (by omega) (by omega) rfl, hj' 4 _ (by omega) (by omega) rfl, hj' 5 _ (by omega) (by omega) rfl⟩, h3 k _ _ hs hu⟩
theorem add_six (ad : Addr) (j : Nat) : (ad.add 6).add j = ad.add (6 + j) := add_of_add ad 6 j
theorem SlRc.tail {w : World} {ad : Addr} {c : Nat} {r : Rcd} {rs : List Rcd} (hs : SlRc w (.slice (some ad) (rs.length + 1) c) (r :: rs)) : SlRc w (.slice (if c = 1 then some ad else some (ad.add 6)) rs.length (c - 1)) rs := by
  obtain ⟨us, h1, h2, h3⟩ := hs
  obtain ⟨A', c', e0, hnc, hcm, hlen, h4⟩ := h2
  injection e0 with e1 _ e3
  subst e1 e3
  simp only [List.length_cons] at h1 hnc hlen h4
  rcases us with _ | ⟨u, us⟩
  · simp at h1
  refine ⟨us, by simpa using h1, ⟨_, _, rfl, by omega, by unfold maxLen at hcm ⊢; omega, rcds_length (by simpa using h1), fun hn => ?_⟩, fun k t x hk hx => h3 (k + 1) t x (by simpa using hk) (by simpa using hx)⟩
  obtain ⟨ad', e, hb, hc⟩ := h4 (by omega)
  injection e with e
  subst e
  rw [if_neg (by omega)]
  refine ⟨_, rfl, by rw [block_of_add]; exact hb, fun j v hj => ?_⟩
  rw [add_six]
  refine hc (6 + j) v ?_
  simp only [rcds]
  rw [List.getElem?_append_right (by show 6 ≤ _; omega), show 6 + j - (rcCells r u.1 u.2).length = j by show 6 + j - 6 = j; omega]
  exact hj
/-- What History answers. -/
def histGo : Snp → List Snp → List Rcd → Int × List Snp
  | _, acc, [] => (0, acc)
  | s, acc, r :: rs => if (applyV s r).1 ≠ 0 then ((applyV s r).1, []) else histGo (applyV s r).2 (acc ++ [(applyV s r).2]) rs
def baseOf (r : Rcd) : Snp := ⟨r.ver, r.seq, r.nid, r.add⟩
def histV : List Rcd → Int × List Snp
  | [] => (1, [])
  | r :: rs => if recV r ≠ 0 ∨ r.kind ≠ 1 ∨ (baseOf r).okB = false then (1, []) else histGo (baseOf r) [baseOf r] rs
theorem histGo_drop {s : Snp} {acc : List Snp} {rs : List Rcd} {k : Nat} {r : Rcd} (h : rs[k]? = some r) : histGo s acc (rs.drop k) = if (applyV s r).1 ≠ 0 then ((applyV s r).1, []) else histGo (applyV s r).2 (acc ++ [(applyV s r).2]) (rs.drop (k + 1)) := by
  obtain ⟨hk, e⟩ := List.getElem?_eq_some_iff.1 h
  rw [List.drop_eq_getElem_cons hk, e]; rfl
theorem histV_nil : histV [] = (1, []) := rfl
theorem histV_bad {r : Rcd} {rs : List Rcd} (h : recV r ≠ 0 ∨ r.kind ≠ 1 ∨ (baseOf r).okB = false) : histV (r :: rs) = (1, []) := if_pos h
theorem histV_go {r : Rcd} {rs : List Rcd} (h1 : recV r = 0) (h2 : r.kind = 1) (h3 : (baseOf r).okB = true) : histV (r :: rs) = histGo (baseOf r) [baseOf r] rs := if_neg (by
  rintro (h | h | h)
  · exact h h1
  · exact h h2
  · rw [h3] at h; cases h)
theorem histGo_err {s : Snp} {acc : List Snp} {rs : List Rcd} {k : Nat} {r : Rcd} {e : Int} {t : Snp} (h : rs[k]? = some r) (ha : applyV s r = (e, t)) (he : e ≠ 0) : histGo s acc (rs.drop k) = (e, []) := by
  rw [histGo_drop h, ha, if_pos he]
theorem histGo_next {s : Snp} {acc : List Snp} {rs : List Rcd} {k : Nat} {r : Rcd} {t : Snp} (h : rs[k]? = some r) (ha : applyV s r = (0, t)) : histGo s acc (rs.drop k) = histGo t (acc ++ [t]) (rs.drop (k + 1)) := by
  rw [histGo_drop h, ha, if_neg (fun h => h rfl)]
theorem histGo_end {s : Snp} {acc : List Snp} {rs : List Rcd} {k : Nat} (h : rs.length ≤ k) : histGo s acc (rs.drop k) = (0, acc) := by
  rw [List.drop_eq_nil_of_le h]; rfl
theorem last_snoc {acc : List Snp} {s : Snp} {k : Nat} (h : acc.length = k + 1) : (acc ++ [s])[k + 1]? = some s := by
  rw [List.getElem?_append_right (by omega), h]; simp
end Go.Proofs.Ytcjekbncllccbaa
