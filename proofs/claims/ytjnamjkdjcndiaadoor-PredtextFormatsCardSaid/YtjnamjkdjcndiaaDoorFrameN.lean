/-
  Arguments of a law that are lists of nodes, opened.
-/
import Derived.Test.YtjnamjkdjcndiaaDoorFrameS
import Derived.Test.YtjnamjkdjcndiaaDoorPEnv
namespace Go.Proofs.YtjnamjkdjcndiaaDoor
open Go.ChangeShapes Go.WideShapes Go.ChangeAt Go.RowKit Go.Deep
section
variable {H : Type} {enc : TypeId × Value → H} {w : World} {base : Nat} {spare : Nat → Bool} {held : Bool}
theorem knN : Tryd.prog.cellsOf 36 = 8 := by kernel_rfl
theorem knV : Tryd.prog.cellsOf 33 = 3 := by kernel_rfl
theorem knL : Tryd.prog.cellsOf 34 = 1 := by kernel_rfl
theorem knI64 : Tryd.prog.cellsOf 2 = 1 := by kernel_rfl
theorem list_pairsN {α β : Type} {p : Nat → α → β → Prop} (n : Nat) (h : ∀ i, i < n → ∃ a b, p i a b) : ∃ (l : List α) (m : List β), l.length = n ∧ m.length = n ∧ ∀ i a b, l[i]? = some a → m[i]? = some b → p i a b := by
  obtain ⟨q, hq, hp⟩ := build_listS (p := fun i (ab : α × β) => p i ab.1 ab.2) n (fun i hi => by obtain ⟨a, b, hab⟩ := h i hi; exact ⟨(a, b), hab⟩)
  refine ⟨q.map (·.1), q.map (·.2), by simp [hq], by simp [hq], fun i a b ha hb => ?_⟩
  rw [List.getElem?_map] at ha hb
  cases hqi : q[i]? with
  | none => rw [hqi] at ha; cases ha
  | some ab =>
    rw [hqi] at ha hb
    injection ha with ha
    injection hb with hb
    subst ha hb
    exact hp i ab hqi
set_option maxRecDepth 100000 in
theorem trod_val {fuel : Nat} {cs : List Value} {x : DataW H × List MemPlace} (h : DataW.trod enc Tryd.prog w base spare held fuel 33 cs = some x) :
    ∃ e : Vl, cs = e.cells ∧ VR e := by
  obtain ⟨xs, n, rfl, hx, hcl, hxl, hg⟩ := DataW.trod_struct Tryd.underlying33 h
  rw [knV] at hcl
  have hxl' : xs.length = 3 := hxl
  match cs, hcl with
  | [c0, c1, c2], _ =>
    obtain ⟨y0, e0⟩ := get_someS (l := xs) (n := 0) (by omega)
    obtain ⟨y1, e1⟩ := get_someS (l := xs) (n := 1) (by omega)
    obtain ⟨y2, e2⟩ := get_someS (l := xs) (n := 2) (by omega)
    have g0 := (hg 0 _ rfl).trans e0
    have g1 := (hg 1 _ rfl).trans e1
    have g2 := (hg 2 _ rfl).trans e2
    simp [ksB, knI64, ksS] at g0 g1 g2
    obtain ⟨b, h0, _⟩ := DataW.trod_bool Tryd.underlying4 g0
    obtain ⟨a, h1, _, wa⟩ := DataW.trod_int Tryd.underlying2 g1
    obtain ⟨s, h2, _, ws⟩ := DataW.trod_string Tryd.underlying9 g2
    simp at h0 h1 h2
    subst h0 h1 h2
    exact ⟨⟨b, a, s⟩, rfl, (wf_bd wa).1, (wf_bd wa).2, by unfold maxLen at ws; show s.size ≤ 9223372036854775807; omega⟩
set_option maxRecDepth 100000 in
theorem trod_vals {fuel : Nat} {cs : List Value} {x : DataW H × List MemPlace} (h : DataW.trod enc Tryd.prog w base spare held fuel 34 cs = some x) :
    ∃ (v : Value) (l : List Vl), cs = [v] ∧ Sl w 3 v l.length (vls l) ∧ (∀ e ∈ l, VR e) := by
  rcases open_slice Tryd.underlying34 h with ⟨rfl, rfl⟩ | ⟨a, len, cap, m, n, D, Pl, rfl, hb, hl, hm, hmm, rfl, hx⟩
  · exact ⟨_, [], rfl, Sl.nil _ _, by simp⟩
  · rw [knV] at hx
    have hle : len ≤ m := by rw [hmm]; split <;> omega
    obtain ⟨l, hll, hp⟩ := build_listS (p := fun i (e : Vl) => (∀ j, j < 3 → w.cell? (a.add (i * 3 + j)) = e.cells[j]?) ∧ VR e) len (fun i hi => by
      obtain ⟨cs', h1, h2⟩ := hx i (by omega)
      obtain ⟨_, _, h3⟩ := World.cells?_some h1
      obtain ⟨e, rfl, hw⟩ := trod_val h2
      exact ⟨e, fun j hj => by rw [← add_of_add]; exact h3 j hj, hw⟩)
    subst hll
    have hmem : ∀ e ∈ l, ∃ i, l[i]? = some e := fun e he => List.mem_iff_getElem?.1 he
    refine ⟨_, l, rfl, ⟨some a, cap, rfl, hl, hm, vls_length l, fun hn => ⟨a, rfl, ?_, ?_⟩⟩, fun e he => ?_⟩
    · have he := List.getElem?_eq_getElem hn
      have h0 := (hp 0 _ he).1 0 (by omega)
      have := World.block_lt_of_cell? w (a.add (0 * 3 + 0)) (h0.trans rfl)
      rwa [block_of_add] at this
    · intro j u hj
      have hjl : j < l.length * 3 := by have := (List.getElem?_eq_some_iff.1 hj).1; rwa [vls_length] at this
      have hk : j / 3 < l.length := by omega
      have he := List.getElem?_eq_getElem hk
      have h1 := (hp _ _ he).1 (j % 3) (by omega)
      have h2 := vls_get he (show j % 3 < 3 by omega)
      rw [show j / 3 * 3 + j % 3 = j by omega] at h1 h2
      rw [h1, ← h2]; exact hj
    · obtain ⟨i, hi⟩ := hmem e he
      exact (hp i e hi).2
/-- A node's numbers and values are in Go's ranges. -/
def Nd.wf (x : Nd) : Prop := VR x.v ∧ ∀ e ∈ x.l, VR e
set_option maxRecDepth 100000 in
theorem trod_node {fuel : Nat} {cs : List Value} {x : DataW H × List MemPlace} (h : DataW.trod enc Tryd.prog w base spare held fuel 36 cs = some x) :
    ∃ (e : Nd) (u : Value), cs = ndCells e u ∧ Sl w 3 u e.l.length (vls e.l) ∧ e.wf := by
  obtain ⟨xs, n, rfl, hx, hcl, hxl, hg⟩ := DataW.trod_struct Tryd.underlying36 h
  rw [knN] at hcl
  have hxl' : xs.length = 6 := hxl
  match cs, hcl with
  | [c0, c1, c2, c3, c4, c5, c6, c7], _ =>
    obtain ⟨y0, e0⟩ := get_someS (l := xs) (n := 0) (by omega)
    obtain ⟨y1, e1⟩ := get_someS (l := xs) (n := 1) (by omega)
    obtain ⟨y2, e2⟩ := get_someS (l := xs) (n := 2) (by omega)
    obtain ⟨y3, e3⟩ := get_someS (l := xs) (n := 3) (by omega)
    obtain ⟨y4, e4⟩ := get_someS (l := xs) (n := 4) (by omega)
    obtain ⟨y5, e5⟩ := get_someS (l := xs) (n := 5) (by omega)
    have g0 := (hg 0 _ rfl).trans e0
    have g1 := (hg 1 _ rfl).trans e1
    have g2 := (hg 2 _ rfl).trans e2
    have g3 := (hg 3 _ rfl).trans e3
    have g4 := (hg 4 _ rfl).trans e4
    have g5 := (hg 5 _ rfl).trans e5
    simp [ksI, knV, knL] at g0 g1 g2 g3 g4 g5
    obtain ⟨op, h0, _, _⟩ := DataW.trod_int Tryd.underlying3 g0
    obtain ⟨col, h1, _, _⟩ := DataW.trod_int Tryd.underlying3 g1
    obtain ⟨v, h2, wv⟩ := trod_val g2
    obtain ⟨u, l, h3, hs, wl⟩ := trod_vals g3
    obtain ⟨a, h4, _, _⟩ := DataW.trod_int Tryd.underlying3 g4
    obtain ⟨b, h5, _, _⟩ := DataW.trod_int Tryd.underlying3 g5
    simp [Vl.cells] at h0 h1 h2 h3 h4 h5
    obtain ⟨rfl, rfl, rfl⟩ := h2
    subst h0 h1 h3 h4 h5
    exact ⟨⟨op, col, v, l, a, b⟩, _, rfl, hs, wv, wl⟩
end
section
variable {H : Type} {enc : TypeId × Value → H} {W : World} {b0 : Nat}
set_option maxRecDepth 100000 in
theorem opened_nodes {v : Value} {d : DataW H} {p : List MemPlace} (hval : Value.okWide Tryd.prog W .any b0 25 v) (h : DataW.Trod enc Tryd.prog W 0 (fun _ => true) true 25 v d p) :
    ∃ l : List Nd, SlNd W v l ∧ (∀ x ∈ l, x.wf) ∧ l.length ≤ 9223372036854775807 := by
  obtain ⟨a0, len0, cap0, rfl⟩ := okWide_slice Tryd.underlying25 hval
  obtain ⟨fuel, hf⟩ := h
  rcases open_slice Tryd.underlying25 hf with ⟨hcs, _⟩ | ⟨a, len, cap, m, n, D, Pl, hcs, hb, hl, hm, hmm, hxd, hx⟩
  · simp [Value.cells] at hcs
    obtain ⟨rfl, rfl, rfl⟩ := hcs
    exact ⟨[], ⟨[], rfl, Sl.nil _ _, fun k s u h => by simp at h⟩, by simp, by simp⟩
  · simp [Value.cells] at hcs
    obtain ⟨rfl, rfl, rfl⟩ := hcs
    rw [knN] at hx
    have hle : len0 ≤ m := by rw [hmm]; split <;> omega
    obtain ⟨l, us, hll, hul, hp⟩ := list_pairsN (p := fun i (s : Nd) (u : Value) => (∀ j, j < 8 → W.cell? (a.add (i * 8 + j)) = (ndCells s u)[j]?) ∧ Sl W 3 u s.l.length (vls s.l) ∧ s.wf) len0 (fun i hi => by
      obtain ⟨cs', h1, h2⟩ := hx i (by omega)
      obtain ⟨_, _, h3⟩ := World.cells?_some h1
      obtain ⟨s, u, rfl, hs, hw⟩ := trod_node h2
      exact ⟨s, u, fun j hj => by rw [← add_of_add]; exact h3 j hj, hs, hw⟩)
    subst hll
    refine ⟨l, ⟨us, hul, ⟨some a, cap0, rfl, hl, hm, nds_length hul, fun hn => ⟨a, rfl, ?_, ?_⟩⟩, fun k s u hk hu => (hp k s u hk hu).2.1⟩, fun x hxm => ?_, ?_⟩
    · have he := List.getElem?_eq_getElem hn
      have hu := List.getElem?_eq_getElem (show 0 < us.length by omega)
      have h0 := (hp 0 _ _ he hu).1 0 (by omega)
      have := World.block_lt_of_cell? W (a.add (0 * 8 + 0)) (h0.trans rfl)
      rwa [block_of_add] at this
    · intro j u hj
      have hjl : j < l.length * 8 := by have := (List.getElem?_eq_some_iff.1 hj).1; rwa [nds_length hul] at this
      have hk : j / 8 < l.length := by omega
      have he := List.getElem?_eq_getElem hk
      have hu := List.getElem?_eq_getElem (show j / 8 < us.length by omega)
      have h1 := (hp _ _ _ he hu).1 (j % 8) (by omega)
      have h2 := nds_get hul he hu (show j % 8 < 8 by omega)
      rw [show j / 8 * 8 + j % 8 = j by omega] at h1 h2
      rw [h1, ← h2]; exact hj
    · obtain ⟨i, hi⟩ := List.mem_iff_getElem?.1 hxm
      have hil := (List.getElem?_eq_some_iff.1 hi).1
      exact (hp i x _ hi (List.getElem?_eq_getElem (show i < us.length by omega))).2.2
    · unfold maxLen at hm; omega
end
end Go.Proofs.YtjnamjkdjcndiaaDoor
