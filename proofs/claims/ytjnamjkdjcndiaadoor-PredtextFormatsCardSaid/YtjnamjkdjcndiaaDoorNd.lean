/-
  Nodes of predicates and lists of values in memory.
-/
import Derived.Test.YtjnamjkdjcndiaaDoorBase
namespace Go.Proofs.YtjnamjkdjcndiaaDoor
open Go.RowKit
structure Vl where
  nu : Bool
  n : Int
  s : ByteArray
def Vl.cells (x : Vl) : List Value := [.bool x.nu, .int .i64 x.n, .string x.s]
def vls (l : List Vl) : List Value := l.flatMap Vl.cells
theorem vls_length (l : List Vl) : (vls l).length = l.length * 3 := by
  unfold vls
  induction l with
  | nil => rfl
  | cons a r ih => rw [List.flatMap_cons, List.length_append, ih, List.length_cons, show a.cells.length = 3 from rfl]; omega
theorem vls_snoc (a : List Vl) (e : Vl) : vls (a ++ [e]) = vls a ++ e.cells := by simp [vls]
theorem vls_get : ∀ {l : List Vl} {k j : Nat} {e : Vl}, l[k]? = some e → j < 3 → (vls l)[k * 3 + j]? = e.cells[j]?
  | [], k, _, _, h, _ => by simp at h
  | a :: r, 0, j, e, h, hj => by
    simp at h
    subst h
    unfold vls
    rw [List.flatMap_cons, Nat.zero_mul, Nat.zero_add, List.getElem?_append_left (by rw [show a.cells.length = 3 from rfl]; exact hj)]
  | a :: r, k + 1, j, e, h, hj => by
    have ih := vls_get (l := r) (k := k) (j := j) (e := e) (by simpa using h) hj
    unfold vls at ih ⊢
    rw [List.flatMap_cons, List.getElem?_append_right (by rw [show a.cells.length = 3 from rfl]; omega), ← ih, show a.cells.length = 3 from rfl]
    congr 1; omega
structure VlAt (w : World) (p : Addr) (x : Vl) : Prop where
  lt : p.block < w.heap.size
  c0 : w.cell? p = some (.bool x.nu)
  c1 : w.cell? { block := p.block, off := p.off + 1 } = some (.int .i64 x.n)
  c2 : w.cell? { block := p.block, off := p.off + 2 } = some (.string x.s)
theorem Sl.vl_load {w : World} {A : Option Addr} {c k : Nat} {l : List Vl} {n : Nat} (h : Sl w 3 (.slice A n c) n (vls l)) (hn : n = l.length) (hk : k < n) : ∃ ad e p, A = some ad ∧ l[k]? = some e ∧ ad.add (k * 3) = p ∧ VlAt w p e := by
  obtain ⟨A', c', e0, h1, h2, h3, h4⟩ := h
  injection e0 with e1 e2 e3
  subst e1
  obtain ⟨ad, e, hb, hc⟩ := h4 (by omega)
  have hl : k < l.length := by omega
  have he := List.getElem?_eq_getElem hl
  refine ⟨ad, l[k], _, e, he, rfl, ?_⟩
  have hj : ∀ j u, j < 3 → l[k].cells[j]? = some u → w.cell? (ad.add (k * 3 + j)) = some u := fun j u h1 h2 => hc _ u ((vls_get he h1).trans h2)
  have h0 := hj 0 _ (by omega) rfl
  rw [Nat.add_zero] at h0
  have hj' : ∀ j u, 0 < j → j < 3 → l[k].cells[j]? = some u → w.cell? { block := (ad.add (k * 3)).block, off := (ad.add (k * 3)).off + j } = some u := fun j u h1 h2 h3 => by rw [← add_off4 _ _ _ h1]; exact hj j u h2 h3
  exact ⟨World.block_lt_of_cell? w _ h0, h0, hj' 1 _ (by omega) (by omega) rfl, hj' 2 _ (by omega) (by omega) rfl⟩
structure Nd where
  op : Int
  col : Int
  v : Vl
  l : List Vl
  a : Int
  b : Int
def ndCells (x : Nd) (u : Value) : List Value := [.int .i64 x.op, .int .i64 x.col, .bool x.v.nu, .int .i64 x.v.n, .string x.v.s, u, .int .i64 x.a, .int .i64 x.b]
def nds : List Nd → List Value → List Value
  | x :: h, u :: us => ndCells x u ++ nds h us
  | _, _ => []
theorem nds_length : ∀ {h : List Nd} {us : List Value}, us.length = h.length → (nds h us).length = h.length * 8
  | [], [], _ => rfl
  | [], u :: us, e => by simp at e
  | x :: h, [], e => by simp at e
  | x :: h, u :: us, e => by
    have := nds_length (h := h) (us := us) (by simpa using e)
    simp only [nds, List.length_append, this, List.length_cons]
    show 8 + _ = _; omega
theorem nds_get : ∀ {h : List Nd} {us : List Value} {k j : Nat} {x : Nd} {u : Value}, us.length = h.length → h[k]? = some x → us[k]? = some u → j < 8 → (nds h us)[k * 8 + j]? = (ndCells x u)[j]?
  | [], us, k, j, x, u, _, h1, _, _ => by simp at h1
  | a :: h, [], k, j, x, u, hl, _, _, _ => by simp at hl
  | a :: h, b :: us, 0, j, x, u, hl, h1, h2, hj => by
    simp at h1 h2; subst h1 h2
    simp only [nds]
    rw [Nat.zero_mul, Nat.zero_add, List.getElem?_append_left (by show j < 8; exact hj)]
  | a :: h, b :: us, k + 1, j, x, u, hl, h1, h2, hj => by
    simp only [nds]
    rw [List.getElem?_append_right (by show 8 ≤ _; omega), show (k + 1) * 8 + j - (ndCells a b).length = k * 8 + j by show (k + 1) * 8 + j - 8 = _; omega]
    exact nds_get (by simpa using hl) (by simpa using h1) (by simpa using h2) hj
/-- A node lies at p; its list is the value u. -/
structure NdAt (w : World) (p : Addr) (x : Nd) (u : Value) : Prop where
  lt : p.block < w.heap.size
  c0 : w.cell? p = some (.int .i64 x.op)
  c1 : w.cell? { block := p.block, off := p.off + 1 } = some (.int .i64 x.col)
  c2 : w.cell? { block := p.block, off := p.off + 2 } = some (.bool x.v.nu)
  c3 : w.cell? { block := p.block, off := p.off + 3 } = some (.int .i64 x.v.n)
  c4 : w.cell? { block := p.block, off := p.off + 4 } = some (.string x.v.s)
  c5 : w.cell? { block := p.block, off := p.off + 5 } = some u
  c6 : w.cell? { block := p.block, off := p.off + 6 } = some (.int .i64 x.a)
  c7 : w.cell? { block := p.block, off := p.off + 7 } = some (.int .i64 x.b)
/-- A slice of nodes. -/
def SlNd (w : World) (v : Value) (l : List Nd) : Prop :=
  ∃ us : List Value, us.length = l.length ∧ Sl w 8 v l.length (nds l us) ∧ ∀ (k : Nat) (x : Nd) (u : Value), l[k]? = some x → us[k]? = some u → Sl w 3 u x.l.length (vls x.l)
theorem SlNd.below {w w' : World} {v : Value} {l : List Nd} (h : SlNd w v l) (hb : Below w.heap.size w w') : SlNd w' v l := by
  obtain ⟨us, h1, h2, h3⟩ := h
  exact ⟨us, h1, h2.below hb, fun k x u hk hu => (h3 k x u hk hu).below hb⟩
theorem SlNd.form {w : World} {v : Value} {l : List Nd} (h : SlNd w v l) : ∃ A c, v = .slice A l.length c ∧ l.length ≤ c ∧ c ≤ maxLen := by
  obtain ⟨us, h1, h2, h3⟩ := h; exact h2.form
theorem SlNd.nd_load {w : World} {A : Option Addr} {c k : Nat} {l : List Nd} {n : Nat} (h : SlNd w (.slice A n c) l) (hn : n = l.length) (hk : k < n) : ∃ ad x u p, A = some ad ∧ l[k]? = some x ∧ ad.add (k * 8) = p ∧ NdAt w p x u ∧ Sl w 3 u x.l.length (vls x.l) := by
  subst hn
  obtain ⟨us, hus, h, h5⟩ := h
  obtain ⟨A', c', e0, h1, h2, h3, h4⟩ := h
  injection e0 with e1 e2 e3
  subst e1
  obtain ⟨ad, e, hb, hc⟩ := h4 (by omega)
  have he := List.getElem?_eq_getElem hk
  have hu := List.getElem?_eq_getElem (show k < us.length by omega)
  refine ⟨ad, l[k], us[k], _, e, he, rfl, ?_, h5 k _ _ he hu⟩
  have hj : ∀ j u, j < 8 → (ndCells l[k] us[k])[j]? = some u → w.cell? (ad.add (k * 8 + j)) = some u := fun j u h1 h2 => hc _ u ((nds_get hus he hu h1).trans h2)
  have h0 := hj 0 _ (by omega) rfl
  rw [Nat.add_zero] at h0
  have hj' : ∀ j u, 0 < j → j < 8 → (ndCells l[k] us[k])[j]? = some u → w.cell? { block := (ad.add (k * 8)).block, off := (ad.add (k * 8)).off + j } = some u := fun j u h1 h2 h3 => by rw [← add_off4 _ _ _ h1]; exact hj j u h2 h3
  exact ⟨World.block_lt_of_cell? w _ h0, h0, hj' 1 _ (by omega) (by omega) rfl, hj' 2 _ (by omega) (by omega) rfl, hj' 3 _ (by omega) (by omega) rfl, hj' 4 _ (by omega) (by omega) rfl, hj' 5 _ (by omega) (by omega) rfl, hj' 6 _ (by omega) (by omega) rfl, hj' 7 _ (by omega) (by omega) rfl⟩
end Go.Proofs.YtjnamjkdjcndiaaDoor
