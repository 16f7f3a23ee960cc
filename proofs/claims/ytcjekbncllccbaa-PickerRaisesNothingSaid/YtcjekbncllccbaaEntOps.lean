/-
  Rows of entries of the call's own: slices.Clone, slices.Delete, and the places of entries by their numbers (snapshot.index, ref18.index).
-/
import Derived.Test.YtcjekbncllccbaaKEntries
import Derived.Test.YtcjekbncllccbaaBase
import Derived.Test.YtcjekbncllccbaaRecCheck
import Derived.Deep.RegionLaw
import Derived.Lib.SlicesDelete
import Derived.Lib.SliceRun
namespace Go.Proofs.Ytcjekbncllccbaa
open Go.RowKit Go.Sort
theorem setCells_heap : ∀ (vs : List Value) (w : World) (g o : Nat) (cur : Array Value) (t : TypeId), w.heap[g]? = some (.cells cur t (0, 0)) → (w.setCells g o vs).heap[g]? = some (.cells (Lib.lay cur o vs) t (0, 0))
  | [], _, _, _, _, _, h => h
  | v :: r, w, g, o, cur, t, h => by rw [World.setCells, Lib.lay]; exact setCells_heap r _ g (o + 1) _ t (Go.heap_setCell_same w g o cur t v h)
theorem setCells_grown : ∀ (vs : List Value) (w : World) (g o : Nat), w.grownBy (w.setCells g o vs) (some g)
  | [], w, g, _ => World.grownBy.refl w _
  | v :: r, w, g, o => by rw [World.setCells]; exact grown_trans' (grownBy_set w ⟨g, o, none⟩ v) (setCells_grown r _ g (o + 1))
theorem own_lay {w : World} {base : Nat} {t : TypeId} {g cap n k m : Nat} {xs news : List Value} (h : w.ownsRow base t 12 (.slice (some ⟨g, 0, none⟩) n cap) n xs) (hk : k ≤ n) (hl : news.length = m * 12) (hm : k + m ≤ cap) :
    (w.setCells g (k * 12) news).ownsRow base t 12 (.slice (some ⟨g, 0, none⟩) (k + m) cap) (k + m) (xs.take (k * 12) ++ news) := by
  obtain ⟨h1, h2⟩ := h
  rcases h2 with ⟨h2, _⟩ | ⟨g', cap', cur, e, hb, hg, hn, hc, hcs, ht⟩
  · cases h2
  injection e with e1 _ e3
  injection e1 with e1
  injection e1 with e1
  subst e1 e3
  refine ⟨by rw [List.length_append, hl, List.length_take, h1]; omega, .inr ⟨g, cap, _, rfl, hb, setCells_heap news w g _ cur t hg, by omega, hc, by rw [Lib.lay_size]; exact hcs, ?_⟩⟩
  apply List.ext_getElem?
  intro j
  rw [List.getElem?_take, Array.getElem?_toList, Lib.lay_get? _ _ _ _ (by omega)]
  have hx : (xs.take (k * 12)).length = k * 12 := by rw [List.length_take, h1]; omega
  by_cases h3 : j < k * 12
  · rw [if_pos (by omega), if_neg (by omega), List.getElem?_append_left (by omega), List.getElem?_take, if_pos h3, ← ht, List.getElem?_take, if_pos (by omega), Array.getElem?_toList]
  · rw [List.getElem?_append_right (by omega), hx]
    by_cases h4 : j < (k + m) * 12
    · rw [if_pos h4, if_pos (by omega)]
    · rw [if_neg h4, List.getElem?_eq_none (by omega)]
theorem own_past {w : World} {base : Nat} {t : TypeId} {g cap n o : Nat} {xs vs : List Value} (h : w.ownsRow base t 12 (.slice (some ⟨g, 0, none⟩) n cap) n xs) (ho : n * 12 ≤ o) (hc2 : o + vs.length ≤ cap * 12) :
    (w.setCells g o vs).ownsRow base t 12 (.slice (some ⟨g, 0, none⟩) n cap) n xs := by
  obtain ⟨h1, h2⟩ := h
  rcases h2 with ⟨h2, _⟩ | ⟨g', cap', cur, e, hb, hg, hn, hc, hcs, ht⟩
  · cases h2
  injection e with e1 _ e3
  injection e1 with e1
  injection e1 with e1
  subst e1 e3
  refine ⟨h1, .inr ⟨g, cap, _, rfl, hb, setCells_heap vs w g _ cur t hg, hn, hc, by rw [Lib.lay_size]; exact hcs, ?_⟩⟩
  rw [← ht]
  apply List.ext_getElem?
  intro j
  rw [List.getElem?_take, List.getElem?_take]
  by_cases h3 : j < n * 12
  · rw [if_pos h3, if_pos h3, Array.getElem?_toList, Array.getElem?_toList, Lib.lay_get? _ _ _ _ (by omega), if_neg (by omega)]
  · rw [if_neg h3, if_neg h3]
/-- A cell within the room of an own row is there, and may be written. -/
theorem own_cell {w : World} {base : Nat} {t : TypeId} {g cap n j : Nat} {xs : List Value} (h : w.ownsRow base t 12 (.slice (some ⟨g, 0, none⟩) n cap) n xs) (hj : j < cap * 12) : (w.cell? ⟨g, j, none⟩).isSome = true ∧ w.frozen? ⟨g, j, none⟩ = false := by
  obtain ⟨h1, h2⟩ := h
  rcases h2 with ⟨h2, _⟩ | ⟨g', cap', cur, e, hb, hg, hn, hc, hcs, ht⟩
  · cases h2
  injection e with e1 _ e3
  injection e1 with e1
  injection e1 with e1
  subst e1 e3
  have hB : Blk w g t cur := hg
  refine ⟨?_, hB.frozen j⟩
  rw [hB.cell j, Array.getElem?_eq_getElem (by omega)]; rfl
theorem ents_take (l : List Ent) (k : Nat) : (ents l).take (k * 12) = ents (l.take k) := by
  induction l generalizing k with
  | nil => simp [ents]
  | cons e r ih =>
    cases k with
    | zero => simp [ents]
    | succ k =>
      rw [List.take_succ_cons, ents_cons, ents_cons, List.take_append, List.take_of_length_le (by rw [Ent.cells_length]; omega), Ent.cells_length, show (k + 1) * 12 - 12 = k * 12 by omega, ih]
theorem ents_drop (l : List Ent) (k : Nat) : (ents l).drop (k * 12) = ents (l.drop k) := by
  induction l generalizing k with
  | nil => simp [ents]
  | cons e r ih =>
    cases k with
    | zero => simp [ents]
    | succ k =>
      rw [List.drop_succ_cons, ents_cons, List.drop_append, List.drop_eq_nil_of_le (by rw [Ent.cells_length]; omega), Ent.cells_length, show (k + 1) * 12 - 12 = k * 12 by omega, ih, List.nil_append]
theorem one_ents' (l : List Ent) : ∀ y ∈ ents l, y.oneCell' = true := by
  intro y hy
  simp only [ents, List.mem_flatMap] at hy
  obtain ⟨e, _, he⟩ := hy
  simp only [Ent.cells, List.mem_cons, List.not_mem_nil, or_false] at he
  rcases he with rfl | rfl | rfl | rfl | rfl | rfl | rfl | rfl | rfl | rfl | rfl | rfl <;> rfl
def zent : List Value := [.int .i64 0, .int .i64 0, .int .i64 0, .bool false, .int .i64 0, .string { data := #[] }, .int .i64 0, .bool false, .int .i64 0, .string { data := #[] }, .int .i64 0, .int .i64 0]
theorem zent_cells : (Builtin.zeroCells (Value.agg #[.int .i64 0, .int .i64 0, .int .i64 0, .bool false, .int .i64 0, .string { data := #[] }, .int .i64 0, .bool false, .int .i64 0, .string { data := #[] }, .int .i64 0, .int .i64 0]).cells 1).toList = zent := by kernel_rfl
theorem run_clear_ent (w : World) (ty : TypeId) (b o c : Nat) (hc : ∀ j, j < 12 → (w.cell? ⟨b, o + j, none⟩).isSome = true) (hf : ∀ j, j < 12 → w.frozen? ⟨b, o + j, none⟩ = false) :
    (Builtin.clear_ #[25] ty #[.slice (some ⟨b, o, none⟩) 1 c]).run Try.prog w = .ok (.tuple #[]) (w.setCells b o zent) := by
  have hst := run_storeCells_cells (P := Try.prog) b o zent 0 w (by simpa [zent] using hc) (by simpa [zent] using hf) (by intro v hv; simp only [zent, List.mem_cons, List.not_mem_nil, or_false] at hv; rcases hv with rfl | rfl | rfl | rfl | rfl | rfl | rfl | rfl | rfl | rfl | rfl | rfl <;> rfl)
  simp only [Nat.add_zero] at hst
  simp only [Builtin.clear_, List.getElem?_toArray, List.getElem?_cons_zero, Sem.run_bind, Result.andThen_ok, run_underlying under_entry, Try.zeroValue41, zent_cells, hst, Sem.run_pure]
/-- slices.Clone at entries: a row of the call's own. -/
def RetEnts0 (w : World) (l : List Ent) (e : Ending) (w' : World) : Prop := ∃ v, e = .returned v ∧ w'.ownsRow w.heap.size 41 12 v l.length (ents l) ∧ Below w.heap.size w w'
theorem ent_val {e : Ent} : Value.agg e.cells.toArray = .agg #[.int .i64 e.id, .int .i64 e.rows, .int .i64 e.live, .bool e.lo.null, .int .i64 e.lo.n, .string e.lo.s, .int .i64 e.lo.seq, .bool e.hi.null, .int .i64 e.hi.n, .string e.hi.s, .int .i64 e.hi.seq, .int .i64 e.del] := rfl
def idxV (l : List Ent) (i : Int) : Int := match idxE l i with | some k => (k : Int) | none => -1
theorem idxV_hit {l : List Ent} {i : Int} {k : Nat} {e : Ent} (h : l[k]? = some e) (hi : e.id = i) (hno : ∀ (j : Nat) (d : Ent), l[j]? = some d → j < k → d.id ≠ i) : idxV l i = k := by unfold idxV; rw [idxE_hit h hi hno]
theorem idxV_miss {l : List Ent} {i : Int} (hno : ∀ (j : Nat) (d : Ent), l[j]? = some d → d.id ≠ i) : idxV l i = -1 := by unfold idxV; rw [idxE_miss hno]
theorem idxV_some {l : List Ent} {i : Int} {k : Nat} (h : idxE l i = some k) : idxV l i = k := by unfold idxV; rw [h]
theorem idxV_none {l : List Ent} {i : Int} (h : idxE l i = none) : idxV l i = -1 := by unfold idxV; rw [h]
def RetBe (w : World) (b : Bool) (e : Ending) (w' : World) : Prop := e = .returned (.bool b) ∧ Below w.heap.size w w'
theorem RetBe.mk_ {w w' : World} {b b' : Bool} (h : b = b') (hb : Below w.heap.size w w') : RetBe w b (.returned (.bool b')) w' := by subst h; exact ⟨rfl, hb⟩
/-- An index, or -1. -/
def RetIx (w : World) (b : Bool) (e : Ending) (w' : World) : Prop := ∃ r : Int, e = .returned (.int .i64 r) ∧ decide (r ≥ 0) = b ∧ -1 ≤ r ∧ r ≤ 9223372036854775807 ∧ Below w.heap.size w w'
theorem RetIx.hit {w w' : World} {b : Bool} (k : Nat) (h : b = true) (hk : k ≤ 9223372036854775807) (hb : Below w.heap.size w w') : RetIx w b (.returned (.int .i64 (k : Int))) w' := by
  subst h; exact ⟨k, rfl, by simp, by omega, by omega, hb⟩
theorem RetIx.miss {w w' : World} {b : Bool} (h : b = false) (hb : Below w.heap.size w w') : RetIx w b (.returned (.int .i64 (-1))) w' := by
  subst h; exact ⟨-1, rfl, by decide, by omega, by omega, hb⟩
end Go.Proofs.Ytcjekbncllccbaa
