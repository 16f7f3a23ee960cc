/-
  The contracts of ref18.entries, ref18.CheckSnapshot and snapshot.Check.
-/
import Derived.Test.YtcjekbncllccbaaBase
import Derived.Deep.QuietTactic
import Derived.BigQuiet
namespace Go.Proofs.Ytcjekbncllccbaa
open Go.RowKit Go.Sort
/-- A known element of a read slice of entries: its address and its cells. -/
theorem Sl.ent_at {w : World} {A : Option Addr} {c k : Nat} {l : List Ent} {n : Nat} (h : Sl w 12 (.slice A n c) n (ents l)) (hn : n = l.length) (hk : k < n) : ∃ ad e, A = some ad ∧ l[k]? = some e ∧ ∀ j u, e.cells[j]? = some u → w.cell? (ad.add (k * 12 + j)) = some u := by
  obtain ⟨A', c', e0, h1, h2, h3, h4⟩ := h
  injection e0 with e1 e2 e3
  subst e1
  obtain ⟨ad, e, hb, hc⟩ := h4 (by omega)
  have hl : k < l.length := by omega
  refine ⟨ad, l[k], e, List.getElem?_eq_getElem hl, fun j u hu => ?_⟩
  have hj : j < 12 := by have := (List.getElem?_eq_some_iff.1 hu).1; rwa [Ent.cells_length] at this
  exact hc _ u ((ents_get (List.getElem?_eq_getElem hl) hj).trans hu)
/-- Entry e lies at p. -/
structure EntAt (w : World) (p : Addr) (e : Ent) : Prop where
  lt : p.block < w.heap.size
  c0 : w.cell? p = some (.int .i64 e.id)
  c1 : w.cell? { block := p.block, off := p.off + 1 } = some (.int .i64 e.rows)
  c2 : w.cell? { block := p.block, off := p.off + 2 } = some (.int .i64 e.live)
  c3 : w.cell? { block := p.block, off := p.off + 3 } = some (.bool e.lo.null)
  c4 : w.cell? { block := p.block, off := p.off + 4 } = some (.int .i64 e.lo.n)
  c5 : w.cell? { block := p.block, off := p.off + 5 } = some (.string e.lo.s)
  c6 : w.cell? { block := p.block, off := p.off + 6 } = some (.int .i64 e.lo.seq)
  c7 : w.cell? { block := p.block, off := p.off + 7 } = some (.bool e.hi.null)
  c8 : w.cell? { block := p.block, off := p.off + 8 } = some (.int .i64 e.hi.n)
  c9 : w.cell? { block := p.block, off := p.off + 9 } = some (.string e.hi.s)
  c10 : w.cell? { block := p.block, off := p.off + 10 } = some (.int .i64 e.hi.seq)
  c11 : w.cell? { block := p.block, off := p.off + 11 } = some (.int .i64 e.del)
theorem EntAt.keep {w w' : World} {p : Addr} {e : Ent} (h : EntAt w p e) (hs : w.heap.size ≤ w'.heap.size) (hk : ∀ q : Addr, q.block < w.heap.size → w'.cell? q = w.cell? q) : EntAt w' p e :=
  have k := h.lt
  ⟨by omega, (hk _ k).trans h.c0, (hk ⟨p.block, p.off + 1, none⟩ k).trans h.c1, (hk ⟨p.block, p.off + 2, none⟩ k).trans h.c2, (hk ⟨p.block, p.off + 3, none⟩ k).trans h.c3, (hk ⟨p.block, p.off + 4, none⟩ k).trans h.c4, (hk ⟨p.block, p.off + 5, none⟩ k).trans h.c5, (hk ⟨p.block, p.off + 6, none⟩ k).trans h.c6, (hk ⟨p.block, p.off + 7, none⟩ k).trans h.c7, (hk ⟨p.block, p.off + 8, none⟩ k).trans h.c8, (hk ⟨p.block, p.off + 9, none⟩ k).trans h.c9, (hk ⟨p.block, p.off + 10, none⟩ k).trans h.c10, (hk ⟨p.block, p.off + 11, none⟩ k).trans h.c11⟩
theorem EntAt.below {w w' : World} {p : Addr} {e : Ent} (h : EntAt w p e) (hb : Below w.heap.size w w') : EntAt w' p e := h.keep hb.size fun _ hq => hb.cell hq
theorem EntAt.of_blk {w : World} {g : Nat} {t : TypeId} {e : Ent} (h : Blk w g t e.cells.toArray) : EntAt w ⟨g, 0, none⟩ e :=
  ⟨h.lt, h.cell 0, h.cell 1, h.cell 2, h.cell 3, h.cell 4, h.cell 5, h.cell 6, h.cell 7, h.cell 8, h.cell 9, h.cell 10, h.cell 11⟩
theorem add_off (a : Addr) (i j : Nat) (hj : 0 < j) : a.add (i + j) = { block := (a.add i).block, off := (a.add i).off + j } := by
  rw [← add_of_add]
  generalize a.add i = p
  unfold Addr.add
  rw [if_neg (by omega)]
theorem Sl.ent_load {w : World} {A : Option Addr} {c k : Nat} {l : List Ent} {n : Nat} (h : Sl w 12 (.slice A n c) n (ents l)) (hn : n = l.length) (hk : k < n) : ∃ ad e p, A = some ad ∧ l[k]? = some e ∧ ad.add (k * 12) = p ∧ EntAt w p e := by
  obtain ⟨ad, e, rfl, he, hc⟩ := h.ent_at hn hk
  refine ⟨ad, e, _, rfl, he, rfl, ?_⟩
  have h0 := hc 0 _ rfl
  rw [Nat.add_zero] at h0
  have hj : ∀ j u, 0 < j → e.cells[j]? = some u → w.cell? { block := (ad.add (k * 12)).block, off := (ad.add (k * 12)).off + j } = some u := fun j u h1 h2 => by rw [← add_off _ _ _ h1]; exact hc j u h2
  exact ⟨World.block_lt_of_cell? w _ h0, h0, hj 1 _ (by omega) rfl, hj 2 _ (by omega) rfl, hj 3 _ (by omega) rfl, hj 4 _ (by omega) rfl, hj 5 _ (by omega) rfl, hj 6 _ (by omega) rfl, hj 7 _ (by omega) rfl, hj 8 _ (by omega) rfl, hj 9 _ (by omega) rfl, hj 10 _ (by omega) rfl, hj 11 _ (by omega) rfl⟩
def Ent.small (e : Ent) : Prop := e.lo.s.size ≤ 9223372036854775807 ∧ e.hi.s.size ≤ 9223372036854775807
theorem rentry_b (e : Ent) (hs : e.small) {b : Bool} (hb : e.okB = b) (w : World) : Calls Try.prog 62 #[.agg #[.int .i64 e.id, .int .i64 e.rows, .int .i64 e.live, .bool e.lo.null, .int .i64 e.lo.n, .string e.lo.s, .int .i64 e.lo.seq, .bool e.hi.null, .int .i64 e.hi.n, .string e.hi.s, .int .i64 e.hi.seq, .int .i64 e.del]] w (RetB1' w b) := by subst hb; exact rentry_any e w hs.1 hs.2
theorem entry_b (e : Ent) (hs : e.small) {b : Bool} (hb : e.okB = b) (w : World) : Calls Try.prog 52 #[.agg #[.int .i64 e.id, .int .i64 e.rows, .int .i64 e.live, .bool e.lo.null, .int .i64 e.lo.n, .string e.lo.s, .int .i64 e.lo.seq, .bool e.hi.null, .int .i64 e.hi.n, .string e.hi.s, .int .i64 e.hi.seq, .int .i64 e.del]] w (RetB1' w b) := by subst hb; exact entry_any e w hs.1 hs.2
theorem reg_bb {P : Program} {f : FuncId} {args : Array Value} {w : World} {b : Bool} (h : ∀ W, Calls P f args W (RetB1' W b)) : ∀ d os, Calls P f args (grow (redrawn w d) os) fun e w'' => e = .returned (.bool b) ∧ ∃ p : Regrown, w'' = grow (redrawn w p.d) p.os :=
  fun d os => Calls.regrown_of ((h (grow (redrawn w d) os)).mono fun _ _ h => h)
/-- The cells of an entry in every world that has only grown. -/
theorem EntAt.regrown {w : World} {p : Addr} {e : Ent} (h : EntAt w p e) (d : Nat) (os : Array Obj) : EntAt (grow (redrawn w d) os) p e := h.below (below_regrown w d os)
theorem okAt_false {l : List Ent} {k : Nat} {e : Ent} (he : l[k]? = some e) (h : e.okB = false) : okAt l k = false := by rw [okAt_get he, h]; rfl
theorem okAt_asc {l : List Ent} {m : Nat} {a b : Ent} {t : Bool} (ha : l[m]? = some a) (hb : l[m + 1]? = some b) (h : b.okB = true) (ht : decide (a.id < b.id) = t) : okAt l (m + 1) = t := by rw [okAt_get hb, h, ascAt_succ ha hb, ht]; rfl
theorem okAt_first {l : List Ent} {b : Ent} (hb : l[0]? = some b) (h : b.okB = true) : okAt l 0 = true := by rw [okAt_get hb, h]; rfl
theorem allTo_next {f : Nat → Bool} {k : Nat} (h : allTo f k = true) (h' : f k = true) : allTo f (k + 1) = true := by simp [allTo, h, h']
end Go.Proofs.Ytcjekbncllccbaa
