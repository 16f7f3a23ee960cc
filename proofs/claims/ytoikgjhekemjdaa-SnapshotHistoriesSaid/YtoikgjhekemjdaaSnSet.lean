/-
  Lists of versions whose row is a call's own, the entries being shared; a version changed in place.
-/
import Derived.Test.YtoikgjhekemjdaaRecSet
import Derived.Test.YtoikgjhekemjdaaWin
namespace Go.Proofs.Ytoikgjhekemjdaa
open Go.RowKit Go.Sort
/-- A row of versions made since the world w0, in which their entries lie. -/
def OutSn (w0 w : World) (v : Value) (h : List Snp) : Prop :=
  ∃ us : List Value, us.length = h.length ∧ w.ownsRow w0.heap.size 24 4 v h.length (snps h us) ∧ (∀ (k : Nat) (s : Snp) (u : Value), h[k]? = some s → us[k]? = some u → Sl w0 12 u s.l.length (ents s.l)) ∧ Below w0.heap.size w0 w
section
variable {w0 w w' : World} {g n c k : Nat} {l : List Snp} {x : Snp}
theorem OutSn.sl {v : Value} (ho : OutSn w0 w v l) : SlSn w v l := by
  obtain ⟨us, h1, h2, h3, h4⟩ := ho
  exact ⟨us, h1, Sl.of_own h2, fun k s u hk hu => (h3 k s u hk hu).below h4⟩
theorem OutSn.form2 {v : Value} (ho : OutSn w0 w v l) (h0 : 0 < l.length) : ∃ g c, v = .slice (some ⟨g, 0, none⟩) l.length c ∧ w0.heap.size ≤ g ∧ g < w.heap.size := by
  obtain ⟨us, h1, h2, h3, _⟩ := ho
  rcases h2.2 with ⟨e, hx⟩ | ⟨g, cap, cur, e, hb, hg, hn, _⟩
  · omega
  · exact ⟨g, cap, e, hb, (Array.getElem?_eq_some_iff.1 hg).1⟩
theorem OutSn.froz (ho : OutSn w0 w (.slice (some ⟨g, 0, none⟩) n c) l) (j : Nat) : w.frozen? ⟨g, j, none⟩ = false := by
  obtain ⟨us, h1, h2, h3, h4⟩ := ho
  rcases h2.2 with ⟨e, _⟩ | ⟨g', cap', cur, e0, _, hg, _⟩
  · cases e
  injection e0 with e1 _ e3
  injection e1 with e1
  injection e1 with e1
  subst e1
  simp [World.frozen?, hg]
theorem OutSn.lt_ (ho : OutSn w0 w (.slice (some ⟨g, 0, none⟩) n c) l) : g < w.heap.size := by
  obtain ⟨us, h1, h2, h3, h4⟩ := ho
  exact (h2.lt g rfl).2
theorem OutSn.at_ (ho : OutSn w0 w (.slice (some ⟨g, 0, none⟩) n c) l) (hn : n = l.length) (hx : l[k]? = some x) :
    w.cell? ⟨g, k * 4, none⟩ = some (.int .i64 x.ver) ∧ w.cell? ⟨g, k * 4 + 1, none⟩ = some (.int .i64 x.seq) ∧ w.cell? ⟨g, k * 4 + 2, none⟩ = some (.int .i64 x.nid) := by
  have hkl : k < l.length := (List.getElem?_eq_some_iff.1 hx).1
  obtain ⟨_, q0, va, p0, e0, hx0, hp0, hRA, _⟩ := ho.sl.load (k := k) hn (by omega)
  cases e0
  rw [hx] at hx0
  injection hx0 with hx0
  subst hx0
  rw [Addr.add_lit, Nat.zero_add] at hp0
  subst hp0
  exact ⟨hRA.c0, hRA.c1, hRA.c2⟩
theorem snps_set : ∀ {h : List Snp} {us : List Value} {k j : Nat} {x x' : Snp} {c : Value}, us.length = h.length → h[k]? = some x → j < 4 → (∀ y, (snCells x y).set j c = snCells x' y) → (snps h us).set (k * 4 + j) c = snps (h.set k x') us
  | [], us, k, j, x, x', c, _, h1, _, _ => by simp at h1
  | a :: h, [], k, j, x, x', c, hl, _, _, _ => by simp at hl
  | a :: h, b :: us, 0, j, x, x', c, hl, h1, hj, hs => by
    simp at h1; subst h1
    simp only [snps, List.set_cons_zero]
    rw [Nat.zero_mul, Nat.zero_add, List.set_append_left _ _ (by show j < 4; exact hj), hs]
  | a :: h, b :: us, k + 1, j, x, x', c, hl, h1, hj, hs => by
    simp only [snps, List.set_cons_succ]
    rw [List.set_append_right _ _ (by show 4 ≤ _; omega), show (k + 1) * 4 + j - (snCells a b).length = k * 4 + j by show (k + 1) * 4 + j - 4 = _; omega]
    rw [snps_set (by simpa using hl) (by simpa using h1) hj hs]
/-- A store into a field of the version k. -/
theorem OutSn.set {x' : Snp} {cv : Value} {j : Nat} (ho : OutSn w0 w (.slice (some ⟨g, 0, none⟩) n c) l) (hn : n = l.length) (hx : l[k]? = some x) (hj : j < 4) (hl : x'.l = x.l) (hc : ∀ y, (snCells x y).set j cv = snCells x' y) :
    OutSn w0 (w.setCell ⟨g, k * 4 + j, none⟩ cv) (.slice (some ⟨g, 0, none⟩) n c) (l.set k x') := by
  subst hn
  obtain ⟨us, h1, h2, h3, h5⟩ := ho
  have hkl : k < l.length := (List.getElem?_eq_some_iff.1 hx).1
  have kg := grownBy_set w ⟨g, k * 4 + j, none⟩ cv
  refine ⟨us, by simp [h1], ?_, fun i t u hi hu => ?_, below_row h5 kg (h2.lt g rfl).1 h5.size⟩
  · rw [List.length_set, ← snps_set h1 hx hj hc]
    exact own_setN h2
  · rw [List.getElem?_set] at hi
    by_cases hki : k = i
    · subst hki
      rw [if_pos rfl, if_pos hkl] at hi
      injection hi with hi
      subst hi
      rw [hl]
      exact h3 k x u hx hu
    · rw [if_neg hki] at hi
      exact h3 i t u hi hu
theorem OutSn.bel {v : Value} (ho : OutSn w0 w v l) : Below w0.heap.size w0 w := by obtain ⟨us, h1, h2, h3, h4⟩ := ho; exact h4
theorem OutSn.drewN {v : Value} (ho : OutSn w0 w v l) (m : Nat) : OutSn w0 (w.drewN m) v l := by obtain ⟨us, h1, h2, h3, h4⟩ := ho; exact ⟨us, h1, h2, h3, below_drewN h4 m⟩
/-- The versions from the k-th on. -/
theorem OutSn.back (ho : OutSn w0 w (.slice (some ⟨g, 0, none⟩) n c) l) (hn : n = l.length) (hk : k < n) (hnc : n ≤ c) : SlSn w (.slice (some ⟨g, k * 4, none⟩) (n - k) (c - k)) (l.drop k) := by
  have := ho.sl.drop hn hk
  rwa [Addr.add_lit, Nat.zero_add] at this
theorem set_small {P : Ent → Prop} {x' : Snp} (h : ∀ s ∈ l, ∀ e ∈ s.l, P e) (hx : l[k]? = some x) (hl : x'.l = x.l) : ∀ s ∈ l.set k x', ∀ e ∈ s.l, P e := fun s hs => by
  rcases List.mem_or_eq_of_mem_set hs with h1 | h1
  · exact h s h1
  · rw [h1, hl]; exact h x (List.mem_of_getElem? hx)
end
end Go.Proofs.Ytoikgjhekemjdaa
