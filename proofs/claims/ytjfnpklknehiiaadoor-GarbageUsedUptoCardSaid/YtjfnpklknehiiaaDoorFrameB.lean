/-
  Arguments that are lists of versions or of entries, opened with their bulk.
-/
import Derived.Test.YtjfnpklknehiiaaDoorFrameE
import Derived.Test.YtjfnpklknehiiaaDoorRGNames
namespace Go.Proofs.YtjfnpklknehiiaaDoor
open Go.ChangeShapes Go.WideShapes Go.ChangeAt Go.RowKit Go.Deep
section
variable {H : Type} {enc : TypeId × Value → H} {w : World} {base : Nat} {spare : Nat → Bool} {held : Bool}
theorem kSn : Tryd.prog.cellsOf 34 = 4 := by kernel_rfl
theorem kLE : Tryd.prog.cellsOf 23 = 1 := by kernel_rfl
theorem bulk_mem {d : DataW H} : ∀ {l : List (DataW H)} {i : Nat}, l[i]? = some d → Rows.uptoBulk d + (l.length - 1) ≤ Rows.uptoBulkAll l
  | [], i, h => by simp at h
  | x :: r, 0, h => by
    simp at h; subst h
    have := bulk_le r
    simp only [Rows.uptoBulkAll, List.length_cons]; omega
  | x :: r, i + 1, h => by
    have h1 := bulk_mem (l := r) (i := i) (by simpa using h)
    have h2 : 0 < r.length := by
      rcases r with _ | ⟨y, r⟩
      · simp at h
      · simp
    have h3 := bulk_le [x]
    simp only [Rows.uptoBulkAll, List.length_cons, List.length_nil] at h3 ⊢; omega
set_option maxRecDepth 100000 in
theorem trod_snapB {fuel : Nat} {cs : List Value} {x : DataW H × List MemPlace} (h : DataW.trod enc Tryd.prog w base (fun _ => true) held fuel 34 cs = some x) :
    ∃ (s : Snp) (u : Value), cs = snCells s u ∧ Sl w 12 u s.l.length (ents s.l) ∧ s.l.length + 1 ≤ Rows.uptoBulk x.1 := by
  obtain ⟨xs, n, rfl, hx, hcl, hxl, hg⟩ := DataW.trod_struct Tryd.underlying34 h
  rw [kSn] at hcl
  have hxl' : xs.length = 4 := hxl
  match cs, hcl with
  | [c0, c1, c2, c3], _ =>
    obtain ⟨y0, e0⟩ := get_some (l := xs) (n := 0) (by omega)
    obtain ⟨y1, e1⟩ := get_some (l := xs) (n := 1) (by omega)
    obtain ⟨y2, e2⟩ := get_some (l := xs) (n := 2) (by omega)
    obtain ⟨y3, e3⟩ := get_some (l := xs) (n := 3) (by omega)
    have g0 := (hg 0 _ rfl).trans e0
    have g1 := (hg 1 _ rfl).trans e1
    have g2 := (hg 2 _ rfl).trans e2
    have g3 := (hg 3 _ rfl).trans e3
    simp [kI, kI64, kLE] at g0 g1 g2 g3
    obtain ⟨a, h0, _, _⟩ := DataW.trod_int Tryd.underlying3 g0
    obtain ⟨b, h1, _, _⟩ := DataW.trod_int Tryd.underlying2 g1
    obtain ⟨c, h2, _, _⟩ := DataW.trod_int Tryd.underlying3 g2
    obtain ⟨s, l, h3, hs, hw, hb, _⟩ := trod_entries g3
    simp at h0 h1 h2 h3
    subst h0 h1 h2 h3
    refine ⟨⟨a, b, c, l⟩, _, rfl, hs, ?_⟩
    have h4 := bulk_mem (l := xs.map (·.fst)) (i := 3) (d := y3.fst) (by rw [List.getElem?_map, e3]; rfl)
    rw [hx]
    show l.length + 1 ≤ Rows.uptoBulk (DataW.agg (xs.map (·.fst)))
    simp only [Rows.uptoBulk]
    omega
theorem bulk_app (a b : List (DataW H)) : Rows.uptoBulkAll (a ++ b) = Rows.uptoBulkAll a + Rows.uptoBulkAll b := by
  induction a with
  | nil => simp [Rows.uptoBulkAll]
  | cons x r ih => simp only [List.cons_append, Rows.uptoBulkAll, ih]; omega
theorem bulk_sum (l : List Snp) (D : Nat → DataW H) (hD : ∀ i s, l[i]? = some s → s.l.length + 1 ≤ Rows.uptoBulk (D i)) : ∀ n, n ≤ l.length → (allE (l.take n)).length + n ≤ Rows.uptoBulkAll ((List.range n).map D)
  | 0, _ => by simp [allE, Rows.uptoBulkAll]
  | n + 1, hn => by
    have ih := bulk_sum l D hD n (by omega)
    have hs := List.getElem?_eq_getElem (show n < l.length by omega)
    have h1 := hD n _ hs
    rw [allE_next hs, List.length_append, List.range_succ, List.map_append, bulk_app]
    simp only [List.map_cons, List.map_nil, Rows.uptoBulkAll]
    omega
end
section
variable {H : Type} {enc : TypeId × Value → H} {W : World} {b0 : Nat}
theorem list_pairs {α β : Type} {p : Nat → α → β → Prop} (n : Nat) (h : ∀ i, i < n → ∃ a b, p i a b) : ∃ (l : List α) (m : List β), l.length = n ∧ m.length = n ∧ ∀ i a b, l[i]? = some a → m[i]? = some b → p i a b := by
  obtain ⟨q, hq, hp⟩ := build_list (p := fun i (ab : α × β) => p i ab.1 ab.2) n (fun i hi => by obtain ⟨a, b, hab⟩ := h i hi; exact ⟨(a, b), hab⟩)
  refine ⟨q.map (·.1), q.map (·.2), by simp [hq], by simp [hq], fun i a b ha hb => ?_⟩
  rw [List.getElem?_map] at ha hb
  cases hqi : q[i]? with
  | none => rw [hqi] at ha; cases ha
  | some ab =>
    rw [hqi] at ha hb
    injection ha with ha
    injection hb with hb
    subst ha hb
    exact hp i ab hqi
set_option maxRecDepth 100000 in
theorem opened_snapsB {v : Value} {d : DataW H} {p : List MemPlace} (hval : Value.okWide Tryd.prog W .any b0 22 v) (h : DataW.Trod enc Tryd.prog W 0 (fun _ => true) true 22 v d p) :
    ∃ l : List Snp, SlSn W v l ∧ (allE l).length + l.length ≤ Rows.uptoBulk d := by
  obtain ⟨a0, len0, cap0, rfl⟩ := okWide_slice Tryd.underlying22 hval
  obtain ⟨fuel, hf⟩ := h
  rcases open_slice Tryd.underlying22 hf with ⟨hcs, _⟩ | ⟨a, len, cap, m, n, D, Pl, hcs, hb, hl, hm, hmm, hxd, hx⟩
  · simp [Value.cells] at hcs
    obtain ⟨rfl, rfl, rfl⟩ := hcs
    exact ⟨[], ⟨[], rfl, Sl.nil _ _, fun k s u h => by simp at h⟩, by simp [allE]⟩
  · simp [Value.cells] at hcs
    obtain ⟨rfl, rfl, rfl⟩ := hcs
    rw [kSn] at hx
    have hle : len0 ≤ m := by rw [hmm]; split <;> omega
    obtain ⟨l, us, hll, hul, hp⟩ := list_pairs (p := fun i (s : Snp) (u : Value) => (∀ j, j < 4 → W.cell? (a.add (i * 4 + j)) = (snCells s u)[j]?) ∧ Sl W 12 u s.l.length (ents s.l) ∧ s.l.length + 1 ≤ Rows.uptoBulk (D i)) len0 (fun i hi => by
      obtain ⟨cs', h1, h2⟩ := hx i (by omega)
      obtain ⟨_, _, h3⟩ := World.cells?_some h1
      obtain ⟨s, u, rfl, hs, hw⟩ := trod_snapB h2
      exact ⟨s, u, fun j hj => by rw [← add_of_add]; exact h3 j hj, hs, hw⟩)
    subst hll
    refine ⟨l, ⟨us, hul, ⟨some a, cap0, rfl, hl, hm, snps_length hul, fun hn => ⟨a, rfl, ?_, ?_⟩⟩, fun k s u hk hu => (hp k s u hk hu).2.1⟩, ?_⟩
    · have he := List.getElem?_eq_getElem hn
      have hu := List.getElem?_eq_getElem (show 0 < us.length by omega)
      have h0 := (hp 0 _ _ he hu).1 0 (by omega)
      have := World.block_lt_of_cell? W (a.add (0 * 4 + 0)) (h0.trans rfl)
      rwa [block_of_add] at this
    · intro j u hj
      have hjl : j < l.length * 4 := by have := (List.getElem?_eq_some_iff.1 hj).1; rwa [snps_length hul] at this
      have hk : j / 4 < l.length := by omega
      have he := List.getElem?_eq_getElem hk
      have hu := List.getElem?_eq_getElem (show j / 4 < us.length by omega)
      have h1 := (hp _ _ _ he hu).1 (j % 4) (by omega)
      have h2 := snps_get he hu (show j % 4 < 4 by omega)
      rw [show j / 4 * 4 + j % 4 = j by omega] at h1 h2
      rw [h1, ← h2]; exact hj
    · have h1 := bulk_sum l D (fun i s hs => (hp i s _ hs (List.getElem?_eq_getElem (show i < us.length by have := (List.getElem?_eq_some_iff.1 hs).1; omega))).2.2) l.length (Nat.le_refl _)
      rw [List.take_length] at h1
      simp only [Prod.mk.injEq] at hxd
      rw [hxd.1]
      simp only [Rows.uptoBulk]
      omega
set_option maxRecDepth 100000 in
theorem opened_entriesB {v : Value} {d : DataW H} {p : List MemPlace} (hval : Value.okWide Tryd.prog W .any b0 23 v) (h : DataW.Trod enc Tryd.prog W 0 (fun _ => true) true 23 v d p) :
    ∃ l : List Ent, Sl W 12 v l.length (ents l) ∧ l.length ≤ Rows.uptoBulk d := by
  obtain ⟨a0, len0, cap0, rfl⟩ := okWide_slice Tryd.underlying23 hval
  obtain ⟨fuel, hf⟩ := h
  obtain ⟨v, l, e, hs, _, hb, _⟩ := trod_entries hf
  simp [Value.cells] at e
  subst e
  exact ⟨l, hs, hb⟩
end
end Go.Proofs.YtjfnpklknehiiaaDoor
