/-
  Rows of ranks; two elements appended at once; halves of a range that are stored.
-/
import Derived.Test.YtcjekbncllccbaaHullV
import Derived.Test.YtcjekbncllccbaaKEntries
namespace Go.Proofs.Ytcjekbncllccbaa
open Go.RowKit Go.Sort
def rks (l : List Rk) : List Value := l.flatMap Rk.cells
theorem rks_length (l : List Rk) : (rks l).length = l.length * 4 := by
  unfold rks
  induction l with
  | nil => rfl
  | cons a r ih => rw [List.flatMap_cons, List.length_append, ih, List.length_cons, show a.cells.length = 4 from rfl]; omega
theorem rks_get : ∀ {l : List Rk} {k j : Nat} {e : Rk}, l[k]? = some e → j < 4 → (rks l)[k * 4 + j]? = e.cells[j]?
  | [], k, _, _, h, _ => by simp at h
  | a :: r, 0, j, e, h, hj => by
    simp at h
    subst h
    unfold rks
    rw [List.flatMap_cons, Nat.zero_mul, Nat.zero_add, List.getElem?_append_left (by rw [show a.cells.length = 4 from rfl]; exact hj)]
  | a :: r, k + 1, j, e, h, hj => by
    have ih := rks_get (l := r) (k := k) (j := j) (e := e) (by simpa using h) hj
    unfold rks at ih ⊢
    rw [List.flatMap_cons, List.getElem?_append_right (by rw [show a.cells.length = 4 from rfl]; omega), ← ih, show a.cells.length = 4 from rfl]
    congr 1; omega
theorem info_rank : (Try.prog.info? 37).map (fun i => (i.zero, i.size, i.bytes)) = some (some (.agg #[.bool false, .int .i64 0, .string { data := #[] }, .int .i64 0]), 4, 40) := by kernel_rfl
theorem under_rank : Try.prog.underlying 55 = some (.slice 37) := Try.underlying55
theorem two4 (a e : Bool) (b d f h : Int) (c g : ByteArray) : ∀ u ∈ (#[Value.bool a, .int .i64 b, .string c, .int .i64 d, .bool e, .int .i64 f, .string g, .int .i64 h] : Array Value).toList, u.oneCell' = true := by
  intro u hu
  simp only [List.mem_cons, List.not_mem_nil, or_false] at hu
  rcases hu with rfl | rfl | rfl | rfl | rfl | rfl | rfl | rfl <;> rfl
theorem two8 (a e a' e' : Bool) (b d f h b' d' f' h' : Int) (c g c' g' : ByteArray) : ∀ u ∈ (#[Value.bool a, .int .i64 b, .string c, .int .i64 d, .bool e, .int .i64 f, .string g, .int .i64 h, .bool a', .int .i64 b', .string c', .int .i64 d', .bool e', .int .i64 f', .string g', .int .i64 h'] : Array Value).toList, u.oneCell' = true := by
  intro u hu
  simp only [List.mem_cons, List.not_mem_nil, or_false] at hu
  rcases hu with rfl | rfl | rfl | rfl | rfl | rfl | rfl | rfl | rfl | rfl | rfl | rfl | rfl | rfl | rfl | rfl <;> rfl
/-- A rank lies at p. -/
structure RkAt (w : World) (p : Addr) (r : Rk) : Prop where
  lt : p.block < w.heap.size
  c0 : w.cell? p = some (.bool r.null)
  c1 : w.cell? { block := p.block, off := p.off + 1 } = some (.int .i64 r.n)
  c2 : w.cell? { block := p.block, off := p.off + 2 } = some (.string r.s)
  c3 : w.cell? { block := p.block, off := p.off + 3 } = some (.int .i64 r.seq)
theorem Sl.rk_load {w : World} {A : Option Addr} {c k : Nat} {l : List Rk} {n : Nat} (h : Sl w 4 (.slice A n c) n (rks l)) (hn : n = l.length) (hk : k < n) : ∃ ad e p, A = some ad ∧ l[k]? = some e ∧ ad.add (k * 4) = p ∧ RkAt w p e := by
  obtain ⟨A', c', e0, h1, h2, h3, h4⟩ := h
  injection e0 with e1 e2 e3
  subst e1
  obtain ⟨ad, e, hb, hc⟩ := h4 (by omega)
  have hl : k < l.length := by omega
  have he := List.getElem?_eq_getElem hl
  refine ⟨ad, l[k], _, e, he, rfl, ?_⟩
  have hj : ∀ j u, j < 4 → l[k].cells[j]? = some u → w.cell? (ad.add (k * 4 + j)) = some u := fun j u h1 h2 => hc _ u ((rks_get he h1).trans h2)
  have h0 := hj 0 _ (by omega) rfl
  rw [Nat.add_zero] at h0
  have hj' : ∀ j u, 0 < j → j < 4 → l[k].cells[j]? = some u → w.cell? { block := (ad.add (k * 4)).block, off := (ad.add (k * 4)).off + j } = some u := fun j u h1 h2 h3 => by rw [← add_off _ _ _ h1]; exact hj j u h2 h3
  exact ⟨World.block_lt_of_cell? w _ h0, h0, hj' 1 _ (by omega) (by omega) rfl, hj' 2 _ (by omega) (by omega) rfl, hj' 3 _ (by omega) (by omega) rfl⟩
theorem RkAt.below {w w' : World} {p : Addr} {r : Rk} (h : RkAt w p r) (hb : Below w.heap.size w w') : RkAt w' p r :=
  ⟨Nat.lt_of_lt_of_le h.lt hb.size, (hb.cell h.lt).trans h.c0, (hb.cell (p := { block := p.block, off := p.off + 1 }) h.lt).trans h.c1, (hb.cell (p := { block := p.block, off := p.off + 2 }) h.lt).trans h.c2, (hb.cell (p := { block := p.block, off := p.off + 3 }) h.lt).trans h.c3⟩
theorem RgAt.below {w w' : World} {p : Addr} {r : Rg} (h : RgAt w p r) (hb : Below w.heap.size w w') : RgAt w' p r :=
  ⟨Nat.lt_of_lt_of_le h.lt hb.size, (hb.cell h.lt).trans h.c0, (hb.cell (p := { block := p.block, off := p.off + 1 }) h.lt).trans h.c1, (hb.cell (p := { block := p.block, off := p.off + 2 }) h.lt).trans h.c2, (hb.cell (p := { block := p.block, off := p.off + 3 }) h.lt).trans h.c3, (hb.cell (p := { block := p.block, off := p.off + 4 }) h.lt).trans h.c4, (hb.cell (p := { block := p.block, off := p.off + 5 }) h.lt).trans h.c5, (hb.cell (p := { block := p.block, off := p.off + 6 }) h.lt).trans h.c6, (hb.cell (p := { block := p.block, off := p.off + 7 }) h.lt).trans h.c7⟩
/-- 'out = append(out, x, y)', out the call's own: behind it out owns two elements more. -/
theorem app2 {P : Program} {w w0 : World} {B : Nat} {ops : Array Oper} {rest : List Oper} {o : Oper} {a : Act} {Q : Exit → Act → World → Prop} (s x : Operand) {t e : TypeId} {z : Value} {size bytes base : Nat} {v : Value} {n : Nat} {xs : List Value} {us : Array Value}
    (hown : w.ownsRow base e size v n xs) (hbel : Below B w0 w) (hB : B ≤ base) (hbase : base ≤ w.heap.size)
    (ht : P.underlying t = some (.slice e)) (hinfo : (P.info? e).map (fun i => (i.zero, i.size, i.bytes)) = some (some z, size, bytes)) (hzs : z.cells.size = size) (hsz : 0 < size)
    (hus : us.size = 2 * size) (h1 : ∀ u ∈ us.toList, u.oneCell' = true) (hbytes : (n + 2) * bytes ≤ 140737488355328) (hn : n < 140737488355328)
    (hgd : o.guard = none) (ho : o.op = .call { callee := .builtin .append, args := #[s, x], argTypes := #[t, t] })
    (hs : a.eval s = v) (hx : a.eval x = .slice (some ⟨w.heap.size, 0, none⟩) 2 2)
    (h : ∀ g cap w', w'.ownsRow base e size (.slice (some ⟨g, 0, none⟩) (n + 2) cap) (n + 2) (xs ++ us.toList) → Below B w0 w' → w.grownBy w' v.ownBlock → ((Value.slice (some ⟨g, 0, none⟩) (n + 2) cap).ownBlock = v.ownBlock ∨ ∃ b, (Value.slice (some ⟨g, 0, none⟩) (n + 2) cap).ownBlock = some b ∧ w.heap.size ≤ b) → wpList P ops Q rest (a.put o.dst (.slice (some ⟨g, 0, none⟩) (n + 2) cap)) w') :
    wpList P ops Q (o :: rest) a (w.alloc (.cells us e)) := by
  obtain ⟨i, hi, hz, hs1, hby⟩ := info_parts hinfo
  have hnews : ∀ j u, us.toList[j]? = some u → (w.alloc (.cells us e)).cell? ((⟨w.heap.size, 0, none⟩ : Addr).add j) = some u := by
    intro j u hj
    have hj' : us[j]? = some u := by simpa using hj
    have e1 : (⟨w.heap.size, 0, none⟩ : Addr).add j = ⟨w.heap.size, j, none⟩ := by unfold Addr.add; split <;> simp_all
    rw [e1, cell_of_row _ w.heap.size j us e (0, 0) (heap_alloc_new w _)]
    exact hj'
  obtain ⟨v', w', hrun, h2, h3, _, h5⟩ := run_append_own_at (P := P) (w.alloc (.cells us e)) base t o.type e i z size bytes ht hi hz hs1 hby hzs hsz v n xs (hown.alloc _) ⟨w.heap.size, 0, none⟩ 2 2 us.toList (by simp [hus]) hnews h1 (by unfold maxLen; omega) hbytes (by simp; omega)
  refine wpList_plain hgd fun K hK => ?_
  unfold Oper.wp execOp
  simp only [ho, resolve, invoke, builtin, Sem.run_bind, Sem.run_pure, Result.andThen_ok, List.map_toArray, List.map_cons, List.map_nil, hs, hx, hrun]
  refine hK _ _ ?_
  have hg : w.grownBy w' v.ownBlock := grown_trans' (World.grownBy_alloc w _ _) h3
  obtain ⟨g, cap, rfl⟩ : ∃ g cap, v' = .slice (some ⟨g, 0, none⟩) (n + 2) cap := by
    rcases h2.2 with ⟨_, h0⟩ | ⟨g, cap, _, hv, _⟩
    · omega
    · exact ⟨g, cap, hv⟩
  refine h g cap w' h2 (hbel.grown hg (by omega) (fun k hk => by have := (hown.lt k hk).1; omega)) hg ?_
  rcases h5 with h5 | h5
  · exact .inl h5
  · exact .inr ⟨_, h5, by simp⟩
theorem Blk.lo8 {w : World} {A : Nat} {T : TypeId} {x0 x1 x2 x3 x4 x5 x6 x7 : Value} (a0 a1 a2 a3 : Value) (h : Blk w A T #[x0, x1, x2, x3, x4, x5, x6, x7]) :
    Blk ((((w.setCell ⟨A, 0, none⟩ a0).setCell ⟨A, 1, none⟩ a1).setCell ⟨A, 2, none⟩ a2).setCell ⟨A, 3, none⟩ a3) A T #[a0, a1, a2, a3, x4, x5, x6, x7] := by
  have h0 := h.set_ 0 a0
  simp only [List.setIfInBounds_toArray, List.set_cons_zero] at h0
  have h1 := h0.set_ 1 a1
  simp only [List.setIfInBounds_toArray, List.set_cons_zero, List.set_cons_succ] at h1
  have h2 := h1.set_ 2 a2
  simp only [List.setIfInBounds_toArray, List.set_cons_zero, List.set_cons_succ] at h2
  have h3 := h2.set_ 3 a3
  simp only [List.setIfInBounds_toArray, List.set_cons_zero, List.set_cons_succ] at h3
  exact h3
theorem Blk.hi8 {w : World} {A : Nat} {T : TypeId} {x0 x1 x2 x3 x4 x5 x6 x7 : Value} (a0 a1 a2 a3 : Value) (h : Blk w A T #[x0, x1, x2, x3, x4, x5, x6, x7]) :
    Blk ((((w.setCell ⟨A, 4, none⟩ a0).setCell ⟨A, 5, none⟩ a1).setCell ⟨A, 6, none⟩ a2).setCell ⟨A, 7, none⟩ a3) A T #[x0, x1, x2, x3, a0, a1, a2, a3] := by
  have h0 := h.set_ 4 a0
  simp only [List.setIfInBounds_toArray, List.set_cons_zero, List.set_cons_succ] at h0
  have h1 := h0.set_ 5 a1
  simp only [List.setIfInBounds_toArray, List.set_cons_zero, List.set_cons_succ] at h1
  have h2 := h1.set_ 6 a2
  simp only [List.setIfInBounds_toArray, List.set_cons_zero, List.set_cons_succ] at h2
  have h3 := h2.set_ 7 a3
  simp only [List.setIfInBounds_toArray, List.set_cons_zero, List.set_cons_succ] at h3
  exact h3
theorem grown4h (w : World) (A : Nat) (a b c d : Value) : w.grownBy ((((w.setCell ⟨A, 4, none⟩ a).setCell ⟨A, 5, none⟩ b).setCell ⟨A, 6, none⟩ c).setCell ⟨A, 7, none⟩ d) (some A) :=
  grown_trans' (grown_trans' (grown_trans' (grownBy_set w ⟨A, 4, none⟩ a) (grownBy_set _ ⟨A, 5, none⟩ b)) (grownBy_set _ ⟨A, 6, none⟩ c)) (grownBy_set _ ⟨A, 7, none⟩ d)
end Go.Proofs.Ytcjekbncllccbaa
