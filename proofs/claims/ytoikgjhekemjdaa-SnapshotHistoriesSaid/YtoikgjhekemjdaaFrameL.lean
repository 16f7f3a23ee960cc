/-
  Arguments of a law that are lists of versions or of records, opened.
-/
import Derived.Test.YtoikgjhekemjdaaFrameR
import Derived.Test.YtoikgjhekemjdaaSnL
namespace Go.Proofs.Ytoikgjhekemjdaa
open Go.ChangeShapes Go.WideShapes Go.ChangeAt Go.RowKit Go.Deep
section
variable {H : Type} {enc : TypeId × Value → H} {w : World} {base : Nat} {spare : Nat → Bool} {held : Bool}
theorem kSn : Try.prog.cellsOf 24 = 4 := by kernel_rfl
theorem kRc : Try.prog.cellsOf 38 = 6 := by kernel_rfl
theorem kLE : Try.prog.cellsOf 22 = 1 := by kernel_rfl
theorem kLI : Try.prog.cellsOf 36 = 1 := by kernel_rfl
set_option maxRecDepth 100000 in
theorem trod_snap {fuel : Nat} {cs : List Value} {x : DataW H × List MemPlace} (h : DataW.trod enc Try.prog w base (fun _ => true) held fuel 24 cs = some x) :
    ∃ (s : Snp) (u : Value), cs = snCells s u ∧ Sl w 12 u s.l.length (ents s.l) ∧ (∀ e ∈ s.l, e.wf) := by
  obtain ⟨xs, n, rfl, hx, hcl, hxl, hg⟩ := DataW.trod_struct Try.underlying24 h
  rw [kSn] at hcl
  have hxl' : xs.length = 4 := hxl
  match cs, hcl with
  | [c0, c1, c2, c3], _ =>
    obtain ⟨y0, e0⟩ := get_some (l := xs) (n := 0) (by omega)
    obtain ⟨y1, e1⟩ := get_some (l := xs) (n := 1) (by omega)
    obtain ⟨y2, e2⟩ := get_some (l := xs) (n := 2) (by omega)
    obtain ⟨y3, e3⟩ := get_some (l := xs) (n := 3) (by omega)
    have g0 := (hg 0 _ rfl).trans e0
    have g1 := (hg 1 _ rfl).trans e1
    have g2 := (hg 2 _ rfl).trans e2
    have g3 := (hg 3 _ rfl).trans e3
    simp [kI, kI64, kLE] at g0 g1 g2 g3
    obtain ⟨a, h0, _, _⟩ := DataW.trod_int Try.underlying3 g0
    obtain ⟨b, h1, _, _⟩ := DataW.trod_int Try.underlying2 g1
    obtain ⟨c, h2, _, _⟩ := DataW.trod_int Try.underlying3 g2
    obtain ⟨s, l, h3, hs, hw, _, _⟩ := trod_entries g3
    simp at h0 h1 h2 h3
    subst h0 h1 h2 h3
    exact ⟨⟨a, b, c, l⟩, _, rfl, hs, hw⟩
set_option maxRecDepth 100000 in
theorem trod_rec {fuel : Nat} {cs : List Value} {x : DataW H × List MemPlace} (h : DataW.trod enc Try.prog w base (fun _ => true) held fuel 38 cs = some x) :
    ∃ (r : Rcd) (u : Value × Value), cs = rcCells r u.1 u.2 ∧ Sl w 12 u.1 r.add.length (ents r.add) ∧ Sl w 1 u.2 r.rem.length (ints r.rem) ∧ (∀ e ∈ r.add, e.wf) := by
  obtain ⟨xs, n, rfl, hx, hcl, hxl, hg⟩ := DataW.trod_struct Try.underlying38 h
  rw [kRc] at hcl
  have hxl' : xs.length = 6 := hxl
  match cs, hcl with
  | [c0, c1, c2, c3, c4, c5], _ =>
    obtain ⟨y0, e0⟩ := get_some (l := xs) (n := 0) (by omega)
    obtain ⟨y1, e1⟩ := get_some (l := xs) (n := 1) (by omega)
    obtain ⟨y2, e2⟩ := get_some (l := xs) (n := 2) (by omega)
    obtain ⟨y3, e3⟩ := get_some (l := xs) (n := 3) (by omega)
    obtain ⟨y4, e4⟩ := get_some (l := xs) (n := 4) (by omega)
    obtain ⟨y5, e5⟩ := get_some (l := xs) (n := 5) (by omega)
    have g0 := (hg 0 _ rfl).trans e0
    have g1 := (hg 1 _ rfl).trans e1
    have g2 := (hg 2 _ rfl).trans e2
    have g3 := (hg 3 _ rfl).trans e3
    have g4 := (hg 4 _ rfl).trans e4
    have g5 := (hg 5 _ rfl).trans e5
    simp [kI, kI64, kLE, kLI] at g0 g1 g2 g3 g4 g5
    obtain ⟨a, h0, _, _⟩ := DataW.trod_int Try.underlying3 g0
    obtain ⟨b, h1, _, _⟩ := DataW.trod_int Try.underlying3 g1
    obtain ⟨c, h2, _, _⟩ := DataW.trod_int Try.underlying2 g2
    obtain ⟨d, h3, _, _⟩ := DataW.trod_int Try.underlying3 g3
    obtain ⟨s, l, h4, hs, hw, _, _⟩ := trod_entries g4
    obtain ⟨l5, hs5, _, _⟩ := trod_ints1 g5
    simp at h0 h1 h2 h3 h4
    subst h0 h1 h2 h3 h4
    exact ⟨⟨a, b, c, d, l, l5⟩, (_, c5), rfl, hs, hs5, hw⟩
end
section
variable {H : Type} {enc : TypeId × Value → H} {W : World} {b0 : Nat}
theorem list_pairs {α β : Type} {p : Nat → α → β → Prop} (n : Nat) (h : ∀ i, i < n → ∃ a b, p i a b) : ∃ (l : List α) (m : List β), l.length = n ∧ m.length = n ∧ ∀ i a b, l[i]? = some a → m[i]? = some b → p i a b := by
  obtain ⟨q, hq, hp⟩ := build_list (p := fun i (ab : α × β) => p i ab.1 ab.2) n (fun i hi => by obtain ⟨a, b, hab⟩ := h i hi; exact ⟨(a, b), hab⟩)
  refine ⟨q.map (·.1), q.map (·.2), by simp [hq], by simp [hq], fun i a b ha hb => ?_⟩
  rw [List.getElem?_map] at ha hb
  cases hqi : q[i]? with
  | none => rw [hqi] at ha; cases ha
  | some ab =>
    rw [hqi] at ha hb
    injection ha with ha
    injection hb with hb
    subst ha hb
    exact hp i ab hqi
set_option maxRecDepth 100000 in
theorem opened_snaps {v : Value} {d : DataW H} {p : List MemPlace} (hval : Value.okWide Try.prog W .any b0 50 v) (h : DataW.Trod enc Try.prog W 0 (fun _ => true) true 50 v d p) :
    ∃ l : List Snp, SlSn W v l ∧ ∀ s ∈ l, ∀ e ∈ s.l, e.wf := by
  obtain ⟨a0, len0, cap0, rfl⟩ := okWide_slice Try.underlying50 hval
  obtain ⟨fuel, hf⟩ := h
  rcases open_slice Try.underlying50 hf with ⟨hcs, _⟩ | ⟨a, len, cap, m, n, D, Pl, hcs, hb, hl, hm, hmm, _, hx⟩
  · simp [Value.cells] at hcs
    obtain ⟨rfl, rfl, rfl⟩ := hcs
    exact ⟨[], ⟨[], rfl, Sl.nil _ _, fun k s u h => by simp at h⟩, by simp⟩
  · simp [Value.cells] at hcs
    obtain ⟨rfl, rfl, rfl⟩ := hcs
    rw [kSn] at hx
    have hle : len0 ≤ m := by rw [hmm]; split <;> omega
    obtain ⟨l, us, hll, hul, hp⟩ := list_pairs (p := fun i (s : Snp) (u : Value) => (∀ j, j < 4 → W.cell? (a.add (i * 4 + j)) = (snCells s u)[j]?) ∧ Sl W 12 u s.l.length (ents s.l) ∧ (∀ e ∈ s.l, e.wf)) len0 (fun i hi => by
      obtain ⟨cs', h1, h2⟩ := hx i (by omega)
      obtain ⟨_, _, h3⟩ := World.cells?_some h1
      obtain ⟨s, u, rfl, hs, hw⟩ := trod_snap h2
      exact ⟨s, u, fun j hj => by rw [← add_of_add]; exact h3 j hj, hs, hw⟩)
    subst hll
    refine ⟨l, ⟨us, hul, ⟨some a, cap0, rfl, hl, hm, snps_length hul, fun hn => ⟨a, rfl, ?_, ?_⟩⟩, fun k s u hk hu => (hp k s u hk hu).2.1⟩, fun s hs => ?_⟩
    · have he := List.getElem?_eq_getElem hn
      have hu := List.getElem?_eq_getElem (show 0 < us.length by omega)
      have h0 := (hp 0 _ _ he hu).1 0 (by omega)
      have := World.block_lt_of_cell? W (a.add (0 * 4 + 0)) (h0.trans rfl)
      rwa [block_of_add] at this
    · intro j u hj
      have hjl : j < l.length * 4 := by have := (List.getElem?_eq_some_iff.1 hj).1; rwa [snps_length hul] at this
      have hk : j / 4 < l.length := by omega
      have he := List.getElem?_eq_getElem hk
      have hu := List.getElem?_eq_getElem (show j / 4 < us.length by omega)
      have h1 := (hp _ _ _ he hu).1 (j % 4) (by omega)
      have h2 := snps_get he hu (show j % 4 < 4 by omega)
      rw [show j / 4 * 4 + j % 4 = j by omega] at h1 h2
      rw [h1, ← h2]; exact hj
    · obtain ⟨i, hi⟩ := List.mem_iff_getElem?.1 hs
      have hil := (List.getElem?_eq_some_iff.1 hi).1
      exact (hp i s _ hi (List.getElem?_eq_getElem (show i < us.length by omega))).2.2
set_option maxRecDepth 100000 in
theorem opened_recs {v : Value} {d : DataW H} {p : List MemPlace} (hval : Value.okWide Try.prog W .any b0 47 v) (h : DataW.Trod enc Try.prog W 0 (fun _ => true) true 47 v d p) :
    ∃ l : List Rcd, SlRc W v l := by
  obtain ⟨a0, len0, cap0, rfl⟩ := okWide_slice Try.underlying47 hval
  obtain ⟨fuel, hf⟩ := h
  rcases open_slice Try.underlying47 hf with ⟨hcs, _⟩ | ⟨a, len, cap, m, n, D, Pl, hcs, hb, hl, hm, hmm, _, hx⟩
  · simp [Value.cells] at hcs
    obtain ⟨rfl, rfl, rfl⟩ := hcs
    exact ⟨[], [], rfl, Sl.nil _ _, fun k s u h => by simp at h⟩
  · simp [Value.cells] at hcs
    obtain ⟨rfl, rfl, rfl⟩ := hcs
    rw [kRc] at hx
    have hle : len0 ≤ m := by rw [hmm]; split <;> omega
    obtain ⟨l, us, hll, hul, hp⟩ := list_pairs (p := fun i (s : Rcd) (u : Value × Value) => (∀ j, j < 6 → W.cell? (a.add (i * 6 + j)) = (rcCells s u.1 u.2)[j]?) ∧ Sl W 12 u.1 s.add.length (ents s.add) ∧ Sl W 1 u.2 s.rem.length (ints s.rem) ∧ (∀ e ∈ s.add, e.wf)) len0 (fun i hi => by
      obtain ⟨cs', h1, h2⟩ := hx i (by omega)
      obtain ⟨_, _, h3⟩ := World.cells?_some h1
      obtain ⟨s, u, rfl, hs⟩ := trod_rec h2
      exact ⟨s, u, fun j hj => by rw [← add_of_add]; exact h3 j hj, hs⟩)
    subst hll
    refine ⟨l, us, hul, ⟨some a, cap0, rfl, hl, hm, rcds_length hul, fun hn => ⟨a, rfl, ?_, ?_⟩⟩, fun k s u hk hu => ?_⟩
    · have he := List.getElem?_eq_getElem hn
      have hu := List.getElem?_eq_getElem (show 0 < us.length by omega)
      have h0 := (hp 0 _ _ he hu).1 0 (by omega)
      have := World.block_lt_of_cell? W (a.add (0 * 6 + 0)) (h0.trans rfl)
      rwa [block_of_add] at this
    · intro j u hj
      have hjl : j < l.length * 6 := by have := (List.getElem?_eq_some_iff.1 hj).1; rwa [rcds_length hul] at this
      have hk : j / 6 < l.length := by omega
      have he := List.getElem?_eq_getElem hk
      have hu := List.getElem?_eq_getElem (show j / 6 < us.length by omega)
      have h1 := (hp _ _ _ he hu).1 (j % 6) (by omega)
      have h2 := rcds_get he hu (show j % 6 < 6 by omega)
      rw [show j / 6 * 6 + j % 6 = j by omega] at h1 h2
      rw [h1, ← h2]; exact hj
    · obtain ⟨_, q1, q2, q3⟩ := hp k s u hk hu
      exact ⟨q1, q2, fun e he => Ent.wf_small (q3 e he)⟩
end
end Go.Proofs.Ytoikgjhekemjdaa
