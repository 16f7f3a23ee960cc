/-
  Arguments of a law that are schemas, opened.
-/
import Derived.Test.YtjnamjkdjcndiaaDoorBase
import Derived.Deep.Slices
import Derived.Deep.Fields
import Derived.ChangeSame
namespace Go.Proofs.YtjnamjkdjcndiaaDoor
open Go.ChangeShapes Go.WideShapes Go.ChangeAt Go.RowKit Go.Deep
structure Col.wf (c : Col) : Prop where
  nm : c.nm.size ≤ maxLen
  ty : -9223372036854775808 ≤ c.ty ∧ c.ty ≤ 9223372036854775807
  sc : -9223372036854775808 ≤ c.sc ∧ c.sc ≤ 9223372036854775807
section
variable {H : Type} {enc : TypeId × Value → H} {w : World} {base : Nat} {spare : Nat → Bool} {held : Bool}
theorem get_someS {α : Type} {l : List α} {n : Nat} (h : n < l.length) : ∃ y, l[n]? = some y := ⟨_, List.getElem?_eq_getElem h⟩
theorem ksB : Tryd.prog.cellsOf 4 = 1 := by kernel_rfl
theorem ksI : Tryd.prog.cellsOf 3 = 1 := by kernel_rfl
theorem ksS : Tryd.prog.cellsOf 9 = 1 := by kernel_rfl
theorem ksC : Tryd.prog.cellsOf 47 = 4 := by kernel_rfl
set_option maxRecDepth 100000 in
theorem trod_col {fuel : Nat} {cs : List Value} {x : DataW H × List MemPlace} (h : DataW.trod enc Tryd.prog w base spare held fuel 47 cs = some x) :
    ∃ e : Col, cs = e.cells ∧ e.wf := by
  obtain ⟨xs, n, rfl, hx, hcl, hxl, hg⟩ := DataW.trod_struct Tryd.underlying47 h
  rw [ksC] at hcl
  have hxl' : xs.length = 4 := hxl
  match cs, hcl with
  | [c0, c1, c2, c3], _ =>
    obtain ⟨y0, e0⟩ := get_someS (l := xs) (n := 0) (by omega)
    obtain ⟨y1, e1⟩ := get_someS (l := xs) (n := 1) (by omega)
    obtain ⟨y2, e2⟩ := get_someS (l := xs) (n := 2) (by omega)
    obtain ⟨y3, e3⟩ := get_someS (l := xs) (n := 3) (by omega)
    have g0 := (hg 0 _ rfl).trans e0
    have g1 := (hg 1 _ rfl).trans e1
    have g2 := (hg 2 _ rfl).trans e2
    have g3 := (hg 3 _ rfl).trans e3
    simp [ksB, ksI, ksS] at g0 g1 g2 g3
    obtain ⟨s, h0, _, ws⟩ := DataW.trod_string Tryd.underlying9 g0
    obtain ⟨a, h1, _, wa⟩ := DataW.trod_int Tryd.underlying3 g1
    obtain ⟨k, h2, _, wk⟩ := DataW.trod_int Tryd.underlying3 g2
    obtain ⟨b, h3, _⟩ := DataW.trod_bool Tryd.underlying4 g3
    simp at h0 h1 h2 h3
    subst h0 h1 h2 h3
    exact ⟨⟨s, a, k, b⟩, rfl, ws, wf_bd wa, wf_bd wk⟩
theorem build_listS {α : Type} {p : Nat → α → Prop} : ∀ n : Nat, (∀ i, i < n → ∃ a, p i a) → ∃ l : List α, l.length = n ∧ ∀ i a, l[i]? = some a → p i a
  | 0, _ => ⟨[], rfl, fun i a h => by simp at h⟩
  | n + 1, h => by
    obtain ⟨l, hl, hp⟩ := build_listS n (fun i hi => h i (by omega))
    obtain ⟨a, ha⟩ := h n (by omega)
    refine ⟨l ++ [a], by simp [hl], fun i b hb => ?_⟩
    by_cases hi : i < l.length
    · rw [List.getElem?_append_left hi] at hb; exact hp i b hb
    · rw [List.getElem?_append_right (by omega)] at hb
      have : i - l.length = 0 := by
        by_cases hz : i - l.length = 0
        · exact hz
        · rw [List.getElem?_eq_none (by simp; omega)] at hb; cases hb
      rw [this] at hb
      simp at hb; subst hb
      have : i = n := by omega
      subst this; exact ha
set_option maxRecDepth 100000 in
theorem trod_cols {fuel : Nat} {cs : List Value} {x : DataW H × List MemPlace} (h : DataW.trod enc Tryd.prog w base spare held fuel 22 cs = some x) :
    ∃ (v : Value) (l : List Col), cs = [v] ∧ Sl w 4 v l.length (cols l) ∧ (∀ e ∈ l, e.wf) ∧ l.length ≤ 9223372036854775807 := by
  rcases open_slice Tryd.underlying22 h with ⟨rfl, rfl⟩ | ⟨a, len, cap, m, n, D, Pl, rfl, hb, hl, hm, hmm, rfl, hx⟩
  · exact ⟨_, [], rfl, Sl.nil _ _, by simp, by simp⟩
  · rw [ksC] at hx
    have hle : len ≤ m := by rw [hmm]; split <;> omega
    obtain ⟨l, hll, hp⟩ := build_listS (p := fun i (e : Col) => (∀ j, j < 4 → w.cell? (a.add (i * 4 + j)) = e.cells[j]?) ∧ e.wf) len (fun i hi => by
      obtain ⟨cs', h1, h2⟩ := hx i (by omega)
      obtain ⟨_, _, h3⟩ := World.cells?_some h1
      obtain ⟨e, rfl, hw⟩ := trod_col h2
      exact ⟨e, fun j hj => by rw [← add_of_add]; exact h3 j hj, hw⟩)
    subst hll
    have hmem : ∀ e ∈ l, ∃ i, l[i]? = some e := fun e he => List.mem_iff_getElem?.1 he
    refine ⟨_, l, rfl, ⟨some a, cap, rfl, hl, hm, cols_length l, fun hn => ⟨a, rfl, ?_, ?_⟩⟩, fun e he => ?_, ?_⟩
    · have he := List.getElem?_eq_getElem hn
      have h0 := (hp 0 _ he).1 0 (by omega)
      have := World.block_lt_of_cell? w (a.add (0 * 4 + 0)) (h0.trans rfl)
      rwa [block_of_add] at this
    · intro j u hj
      have hjl : j < l.length * 4 := by have := (List.getElem?_eq_some_iff.1 hj).1; rwa [cols_length] at this
      have hk : j / 4 < l.length := by omega
      have he := List.getElem?_eq_getElem hk
      have h1 := (hp _ _ he).1 (j % 4) (by omega)
      have h2 := cols_get he (show j % 4 < 4 by omega)
      rw [show j / 4 * 4 + j % 4 = j by omega] at h1 h2
      rw [h1, ← h2]; exact hj
    · obtain ⟨i, hi⟩ := hmem e he
      exact (hp i e hi).2
    · unfold maxLen at hm; omega
end
section
variable {H : Type} {enc : TypeId × Value → H} {W : World} {b0 : Nat}
set_option maxRecDepth 100000 in
theorem opened_schema {v : Value} {d : DataW H} {p : List MemPlace} (hval : Value.okWide Tryd.prog W .any b0 24 v) (h : DataW.Trod enc Tryd.prog W 0 (fun _ => true) true 24 v d p) :
    ∃ (s : Value) (l : List Col) (k : Int), v = .agg #[s, .int .i64 k] ∧ Sl W 4 s l.length (cols l) ∧ l.length ≤ 9223372036854775807 ∧ (∀ c ∈ l, c.wf) ∧ (-9223372036854775808 ≤ k ∧ k ≤ 9223372036854775807) := by
  obtain ⟨v0, v1, y0, y1, n, rfl, hd, _, h0, h1⟩ := Go.Joins.open_agg2 Tryd.underlying24 (by kernel_rfl) (by kernel_rfl) hval h
  obtain ⟨s, l, e0, hs, hw, hm⟩ := trod_cols h0
  obtain ⟨k, e1, _, wk⟩ := DataW.trod_int Tryd.underlying3 h1
  simp at e0 e1
  subst e0 e1
  exact ⟨v0, l, k, rfl, hs, hm, hw, wf_bd wk⟩
end
end Go.Proofs.YtjnamjkdjcndiaaDoor
