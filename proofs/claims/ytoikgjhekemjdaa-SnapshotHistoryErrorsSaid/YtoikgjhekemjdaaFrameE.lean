/-
  Arguments of a law that are versions or lists of entries, opened.
-/
import Derived.Test.YtoikgjhekemjdaaBase
import Derived.Test.YtoikgjhekemjdaaEntries
import Derived.Deep.Slices
import Derived.Deep.Fields
import Derived.ChangeSame
namespace Go.Proofs.Ytoikgjhekemjdaa
open Go.ChangeShapes Go.WideShapes Go.ChangeAt Go.RowKit Go.Deep
section
variable {H : Type} {enc : TypeId × Value → H} {w : World} {base : Nat} {spare : Nat → Bool} {held : Bool}
theorem get_some {α : Type} {l : List α} {n : Nat} (h : n < l.length) : ∃ y, l[n]? = some y := ⟨_, List.getElem?_eq_getElem h⟩
theorem kV : Try.prog.cellsOf 30 = 3 := by kernel_rfl
theorem kB : Try.prog.cellsOf 4 = 1 := by kernel_rfl
theorem kI : Try.prog.cellsOf 3 = 1 := by kernel_rfl
theorem kI64 : Try.prog.cellsOf 2 = 1 := by kernel_rfl
theorem kS : Try.prog.cellsOf 9 = 1 := by kernel_rfl
theorem kR : Try.prog.cellsOf 32 = 4 := by kernel_rfl
theorem kE : Try.prog.cellsOf 34 = 12 := by kernel_rfl
set_option maxRecDepth 100000 in
theorem trod_value {fuel : Nat} {cs : List Value} {x : DataW H × List MemPlace} (h : DataW.trod enc Try.prog w base spare held fuel 30 cs = some x) :
    ∃ (b : Bool) (a : Int) (s : ByteArray), cs = [.bool b, .int .i64 a, .string s] ∧ i64ok a ∧ s.size ≤ maxLen := by
  obtain ⟨xs, n, rfl, hx, hcl, hxl, hg⟩ := DataW.trod_struct Try.underlying30 h
  rw [kV] at hcl
  have hxl' : xs.length = 3 := hxl
  match cs, hcl with
  | [c0, c1, c2], _ =>
    obtain ⟨y0, e0⟩ := get_some (l := xs) (n := 0) (by omega)
    obtain ⟨y1, e1⟩ := get_some (l := xs) (n := 1) (by omega)
    obtain ⟨y2, e2⟩ := get_some (l := xs) (n := 2) (by omega)
    have g0 := (hg 0 _ rfl).trans e0
    have g1 := (hg 1 _ rfl).trans e1
    have g2 := (hg 2 _ rfl).trans e2
    simp [kB, kI64, kS] at g0 g1 g2
    obtain ⟨b, h0, _⟩ := DataW.trod_bool Try.underlying4 g0
    obtain ⟨a, h1, _, wa⟩ := DataW.trod_int Try.underlying2 g1
    obtain ⟨s, h2, _, ws⟩ := DataW.trod_string Try.underlying9 g2
    simp at h0 h1 h2
    subst h0 h1 h2
    exact ⟨b, a, s, rfl, wf_bd wa, ws⟩
set_option maxRecDepth 100000 in
theorem trod_rank {fuel : Nat} {cs : List Value} {x : DataW H × List MemPlace} (h : DataW.trod enc Try.prog w base spare held fuel 32 cs = some x) :
    ∃ r : Rk, cs = r.cells ∧ r.wf := by
  obtain ⟨xs, n, rfl, hx, hcl, hxl, hg⟩ := DataW.trod_struct Try.underlying32 h
  rw [kR] at hcl
  have hxl' : xs.length = 2 := hxl
  match cs, hcl with
  | [c0, c1, c2, c3], _ =>
    obtain ⟨y0, e0⟩ := get_some (l := xs) (n := 0) (by omega)
    obtain ⟨y1, e1⟩ := get_some (l := xs) (n := 1) (by omega)
    have g0 := (hg 0 _ rfl).trans e0
    have g1 := (hg 1 _ rfl).trans e1
    simp [kV, kI64] at g0 g1
    obtain ⟨b, a, s, h0, wa, ws⟩ := trod_value g0
    obtain ⟨q, h1, _, wq⟩ := DataW.trod_int Try.underlying2 g1
    simp at h0 h1
    obtain ⟨rfl, rfl, rfl⟩ := h0
    subst h1
    have := wf_bd wq
    unfold maxLen at ws
    exact ⟨⟨b, a, s, q⟩, rfl, wa.1, wa.2, this.1, this.2, by show s.size ≤ _; omega⟩
set_option maxRecDepth 100000 in
theorem trod_entry {fuel : Nat} {cs : List Value} {x : DataW H × List MemPlace} (h : DataW.trod enc Try.prog w base spare held fuel 34 cs = some x) :
    ∃ e : Ent, cs = e.cells ∧ e.wf := by
  obtain ⟨xs, n, rfl, hx, hcl, hxl, hg⟩ := DataW.trod_struct Try.underlying34 h
  rw [kE] at hcl
  have hxl' : xs.length = 6 := hxl
  match cs, hcl with
  | [c0, c1, c2, c3, c4, c5, c6, c7, c8, c9, c10, c11], _ =>
    obtain ⟨y0, e0⟩ := get_some (l := xs) (n := 0) (by omega)
    obtain ⟨y1, e1⟩ := get_some (l := xs) (n := 1) (by omega)
    obtain ⟨y2, e2⟩ := get_some (l := xs) (n := 2) (by omega)
    obtain ⟨y3, e3⟩ := get_some (l := xs) (n := 3) (by omega)
    obtain ⟨y4, e4⟩ := get_some (l := xs) (n := 4) (by omega)
    obtain ⟨y5, e5⟩ := get_some (l := xs) (n := 5) (by omega)
    have g0 := (hg 0 _ rfl).trans e0
    have g1 := (hg 1 _ rfl).trans e1
    have g2 := (hg 2 _ rfl).trans e2
    have g3 := (hg 3 _ rfl).trans e3
    have g4 := (hg 4 _ rfl).trans e4
    have g5 := (hg 5 _ rfl).trans e5
    simp [kI, kR] at g0 g1 g2 g3 g4 g5
    obtain ⟨id, h0, _, w0⟩ := DataW.trod_int Try.underlying3 g0
    obtain ⟨rows, h1, _, w1⟩ := DataW.trod_int Try.underlying3 g1
    obtain ⟨live, h2, _, w2⟩ := DataW.trod_int Try.underlying3 g2
    obtain ⟨lo, h3, w3⟩ := trod_rank g3
    obtain ⟨hi, h4, w4⟩ := trod_rank g4
    obtain ⟨del, h5, _, w5⟩ := DataW.trod_int Try.underlying3 g5
    simp [Rk.cells] at h0 h1 h2 h3 h4 h5
    obtain ⟨rfl, rfl, rfl, rfl⟩ := h3
    obtain ⟨rfl, rfl, rfl, rfl⟩ := h4
    subst h0 h1 h2 h5
    exact ⟨⟨id, rows, live, lo, hi, del⟩, rfl, wf_bd w0, wf_bd w1, wf_bd w2, w3, w4, wf_bd w5⟩
theorem Ent.wf_small {e : Ent} (h : e.wf) : e.small := ⟨h.2.2.2.1.2.2.2.2, h.2.2.2.2.1.2.2.2.2⟩
theorem build_list {α : Type} {p : Nat → α → Prop} : ∀ n : Nat, (∀ i, i < n → ∃ a, p i a) → ∃ l : List α, l.length = n ∧ ∀ i a, l[i]? = some a → p i a
  | 0, _ => ⟨[], rfl, fun i a h => by simp at h⟩
  | n + 1, h => by
    obtain ⟨l, hl, hp⟩ := build_list n (fun i hi => h i (by omega))
    obtain ⟨a, ha⟩ := h n (by omega)
    refine ⟨l ++ [a], by simp [hl], fun i b hb => ?_⟩
    by_cases hi : i < l.length
    · rw [List.getElem?_append_left hi] at hb; exact hp i b hb
    · rw [List.getElem?_append_right (by omega)] at hb
      have : i - l.length = 0 := by
        by_cases hz : i - l.length = 0
        · exact hz
        · rw [List.getElem?_eq_none (by simp; omega)] at hb; cases hb
      rw [this] at hb
      simp at hb; subst hb
      have : i = n := by omega
      subst this; exact ha
theorem bulk_le (l : List (DataW H)) : l.length ≤ Rows.uptoBulkAll l := by
  induction l with
  | nil => simp [Rows.uptoBulkAll]
  | cons x r ih =>
    have : 1 ≤ Rows.uptoBulk x := by
      cases x with
      | lit l => cases l <;> simp [Rows.uptoBulk]
      | nil => simp [Rows.uptoBulk]
      | ptr d => simp [Rows.uptoBulk]
      | slice elems spare => simp [Rows.uptoBulk]
      | agg parts => simp [Rows.uptoBulk]
      | iface t d => simp [Rows.uptoBulk]
      | map entries => simp [Rows.uptoBulk]
      | held h => simp [Rows.uptoBulk]
    simp only [Rows.uptoBulkAll, List.length_cons]; omega
set_option maxRecDepth 100000 in
theorem trod_entries {fuel : Nat} {cs : List Value} {x : DataW H × List MemPlace} (h : DataW.trod enc Try.prog w base spare held fuel 22 cs = some x) :
    ∃ (v : Value) (l : List Ent), cs = [v] ∧ Sl w 12 v l.length (ents l) ∧ (∀ e ∈ l, e.wf) ∧ l.length ≤ Rows.uptoBulk x.1 ∧ l.length ≤ 9223372036854775807 := by
  rcases open_slice Try.underlying22 h with ⟨rfl, rfl⟩ | ⟨a, len, cap, m, n, D, Pl, rfl, hb, hl, hm, hmm, rfl, hx⟩
  · exact ⟨_, [], rfl, Sl.nil _ _, by simp, by simp, by simp⟩
  · rw [kE] at hx
    have hle : len ≤ m := by rw [hmm]; split <;> omega
    obtain ⟨l, hll, hp⟩ := build_list (p := fun i (e : Ent) => (∀ j, j < 12 → w.cell? (a.add (i * 12 + j)) = e.cells[j]?) ∧ e.wf) len (fun i hi => by
      obtain ⟨cs', h1, h2⟩ := hx i (by omega)
      obtain ⟨_, _, h3⟩ := World.cells?_some h1
      obtain ⟨e, rfl, hw⟩ := trod_entry h2
      exact ⟨e, fun j hj => by rw [← add_of_add]; exact h3 j hj, hw⟩)
    subst hll
    have hmem : ∀ e ∈ l, ∃ i, l[i]? = some e := fun e he => List.mem_iff_getElem?.1 he
    refine ⟨_, l, rfl, ⟨some a, cap, rfl, hl, hm, ents_length l, fun hn => ⟨a, rfl, ?_, ?_⟩⟩, fun e he => ?_, ?_, ?_⟩
    · have he := List.getElem?_eq_getElem hn
      have h0 := (hp 0 _ he).1 0 (by omega)
      have := World.block_lt_of_cell? w (a.add (0 * 12 + 0)) (h0.trans rfl)
      rwa [block_of_add] at this
    · intro j u hj
      have hjl : j < l.length * 12 := by have := (List.getElem?_eq_some_iff.1 hj).1; rwa [ents_length] at this
      have hk : j / 12 < l.length := by omega
      have he := List.getElem?_eq_getElem hk
      have h1 := (hp _ _ he).1 (j % 12) (by omega)
      have h2 := ents_get he (show j % 12 < 12 by omega)
      rw [show j / 12 * 12 + j % 12 = j by omega] at h1 h2
      rw [h1, ← h2]; exact hj
    · obtain ⟨i, hi⟩ := hmem e he
      exact (hp i e hi).2
    · have h1 := bulk_le ((List.range l.length).map D)
      simp only [List.length_map, List.length_range] at h1
      simp only [Rows.uptoBulk]
      omega
    · unfold maxLen at hm; omega
end
section
variable {H : Type} {enc : TypeId × Value → H} {W : World} {b0 : Nat}
set_option maxRecDepth 100000 in
theorem opened_snapshot {v : Value} {d : DataW H} {p : List MemPlace} (hval : Value.okWide Try.prog W .any b0 24 v) (h : DataW.Trod enc Try.prog W 0 (fun _ => true) true 24 v d p) :
    ∃ (x q n : Int) (s : Value) (l : List Ent), v = .agg #[.int .i64 x, .int .i64 q, .int .i64 n, s] ∧ Sl W 12 s l.length (ents l) ∧ (∀ e ∈ l, e.wf) ∧ (i64ok x ∧ i64ok q ∧ i64ok n) ∧ l.length ≤ Rows.uptoBulk d ∧ l.length ≤ 9223372036854775807 := by
  obtain ⟨v0, v1, v2, v3, y0, y1, y2, y3, n, rfl, hd, _, h0, h1, h2, h3⟩ := Go.Joins.open_agg4 Try.underlying24 (by kernel_rfl) (by kernel_rfl) hval h
  obtain ⟨a, e0, _, w0⟩ := DataW.trod_int Try.underlying3 h0
  obtain ⟨b, e1, _, w1⟩ := DataW.trod_int Try.underlying2 h1
  obtain ⟨c, e2, _, w2⟩ := DataW.trod_int Try.underlying3 h2
  obtain ⟨s, l, e3, hs, hw, hb, hm⟩ := trod_entries h3
  simp at e0 e1 e2 e3
  subst e0 e1 e2 e3
  refine ⟨a, b, c, v3, l, rfl, hs, hw, ⟨wf_bd w0, wf_bd w1, wf_bd w2⟩, ?_, hm⟩
  rw [hd]
  simp only [Rows.uptoBulk, Rows.uptoBulkAll]
  omega
end
end Go.Proofs.Ytoikgjhekemjdaa
