/-
  Rows of entries of the call's own: slices.Clone, slices.Delete, and the places of entries by their numbers (snapshot.index, ref18.index).
-/
import Derived.Test.YtoikgjhekemjdaaKEntries
import Derived.Test.YtoikgjhekemjdaaBase
import Derived.Test.YtoikgjhekemjdaaRecCheck
import Derived.Deep.RegionLaw
import Derived.Lib.SlicesDelete
import Derived.Lib.SliceRun
namespace Go.Proofs.Ytoikgjhekemjdaa
open Go.RowKit Go.Sort
theorem setCells_heap : ∀ (vs : List Value) (w : World) (g o : Nat) (cur : Array Value) (t : TypeId), w.heap[g]? = some (.cells cur t (0, 0)) → (w.setCells g o vs).heap[g]? = some (.cells (Lib.lay cur o vs) t (0, 0))
  | [], _, _, _, _, _, h => h
  | v :: r, w, g, o, cur, t, h => by rw [World.setCells, Lib.lay]; exact setCells_heap r _ g (o + 1) _ t (Go.heap_setCell_same w g o cur t v h)
theorem setCells_grown : ∀ (vs : List Value) (w : World) (g o : Nat), w.grownBy (w.setCells g o vs) (some g)
  | [], w, g, _ => World.grownBy.refl w _
  | v :: r, w, g, o => by rw [World.setCells]; exact grown_trans' (grownBy_set w ⟨g, o, none⟩ v) (setCells_grown r _ g (o + 1))
theorem own_lay {w : World} {base : Nat} {t : TypeId} {g cap n k m : Nat} {xs news : List Value} (h : w.ownsRow base t 12 (.slice (some ⟨g, 0, none⟩) n cap) n xs) (hk : k ≤ n) (hl : news.length = m * 12) (hm : k + m ≤ cap) :
    (w.setCells g (k * 12) news).ownsRow base t 12 (.slice (some ⟨g, 0, none⟩) (k + m) cap) (k + m) (xs.take (k * 12) ++ news) := by
  obtain ⟨h1, h2⟩ := h
  rcases h2 with ⟨h2, _⟩ | ⟨g', cap', cur, e, hb, hg, hn, hc, hcs, ht⟩
  · cases h2
  injection e with e1 _ e3
  injection e1 with e1
  injection e1 with e1
  subst e1 e3
  refine ⟨by rw [List.length_append, hl, List.length_take, h1]; omega, .inr ⟨g, cap, _, rfl, hb, setCells_heap news w g _ cur t hg, by omega, hc, by rw [Lib.lay_size]; exact hcs, ?_⟩⟩
  apply List.ext_getElem?
  intro j
  rw [List.getElem?_take, Array.getElem?_toList, Lib.lay_get? _ _ _ _ (by omega)]
  have hx : (xs.take (k * 12)).length = k * 12 := by rw [List.length_take, h1]; omega
  by_cases h3 : j < k * 12
  · rw [if_pos (by omega), if_neg (by omega), List.getElem?_append_left (by omega), List.getElem?_take, if_pos h3, ← ht, List.getElem?_take, if_pos (by omega), Array.getElem?_toList]
  · rw [List.getElem?_append_right (by omega), hx]
    by_cases h4 : j < (k + m) * 12
    · rw [if_pos h4, if_pos (by omega)]
    · rw [if_neg h4, List.getElem?_eq_none (by omega)]
theorem own_past {w : World} {base : Nat} {t : TypeId} {g cap n o : Nat} {xs vs : List Value} (h : w.ownsRow base t 12 (.slice (some ⟨g, 0, none⟩) n cap) n xs) (ho : n * 12 ≤ o) (hc2 : o + vs.length ≤ cap * 12) :
    (w.setCells g o vs).ownsRow base t 12 (.slice (some ⟨g, 0, none⟩) n cap) n xs := by
  obtain ⟨h1, h2⟩ := h
  rcases h2 with ⟨h2, _⟩ | ⟨g', cap', cur, e, hb, hg, hn, hc, hcs, ht⟩
  · cases h2
  injection e with e1 _ e3
  injection e1 with e1
  injection e1 with e1
  subst e1 e3
  refine ⟨h1, .inr ⟨g, cap, _, rfl, hb, setCells_heap vs w g _ cur t hg, hn, hc, by rw [Lib.lay_size]; exact hcs, ?_⟩⟩
  rw [← ht]
  apply List.ext_getElem?
  intro j
  rw [List.getElem?_take, List.getElem?_take]
  by_cases h3 : j < n * 12
  · rw [if_pos h3, if_pos h3, Array.getElem?_toList, Array.getElem?_toList, Lib.lay_get? _ _ _ _ (by omega), if_neg (by omega)]
  · rw [if_neg h3, if_neg h3]
/-- A cell within the room of an own row is there, and may be written. -/
theorem own_cell {w : World} {base : Nat} {t : TypeId} {g cap n j : Nat} {xs : List Value} (h : w.ownsRow base t 12 (.slice (some ⟨g, 0, none⟩) n cap) n xs) (hj : j < cap * 12) : (w.cell? ⟨g, j, none⟩).isSome = true ∧ w.frozen? ⟨g, j, none⟩ = false := by
  obtain ⟨h1, h2⟩ := h
  rcases h2 with ⟨h2, _⟩ | ⟨g', cap', cur, e, hb, hg, hn, hc, hcs, ht⟩
  · cases h2
  injection e with e1 _ e3
  injection e1 with e1
  injection e1 with e1
  subst e1 e3
  have hB : Blk w g t cur := hg
  refine ⟨?_, hB.frozen j⟩
  rw [hB.cell j, Array.getElem?_eq_getElem (by omega)]; rfl
theorem ents_take (l : List Ent) (k : Nat) : (ents l).take (k * 12) = ents (l.take k) := by
  induction l generalizing k with
  | nil => simp [ents]
  | cons e r ih =>
    cases k with
    | zero => simp [ents]
    | succ k =>
      rw [List.take_succ_cons, ents_cons, ents_cons, List.take_append, List.take_of_length_le (by rw [Ent.cells_length]; omega), Ent.cells_length, show (k + 1) * 12 - 12 = k * 12 by omega, ih]
theorem ents_drop (l : List Ent) (k : Nat) : (ents l).drop (k * 12) = ents (l.drop k) := by
  induction l generalizing k with
  | nil => simp [ents]
  | cons e r ih =>
    cases k with
    | zero => simp [ents]
    | succ k =>
      rw [List.drop_succ_cons, ents_cons, List.drop_append, List.drop_eq_nil_of_le (by rw [Ent.cells_length]; omega), Ent.cells_length, show (k + 1) * 12 - 12 = k * 12 by omega, ih, List.nil_append]
theorem one_ents' (l : List Ent) : ∀ y ∈ ents l, y.oneCell' = true := by
  intro y hy
  simp only [ents, List.mem_flatMap] at hy
  obtain ⟨e, _, he⟩ := hy
  simp only [Ent.cells, List.mem_cons, List.not_mem_nil, or_false] at he
  rcases he with rfl | rfl | rfl | rfl | rfl | rfl | rfl | rfl | rfl | rfl | rfl | rfl <;> rfl
def zent : List Value := [.int .i64 0, .int .i64 0, .int .i64 0, .bool false, .int .i64 0, .string { data := #[] }, .int .i64 0, .bool false, .int .i64 0, .string { data := #[] }, .int .i64 0, .int .i64 0]
theorem zent_cells : (Builtin.zeroCells (Value.agg #[.int .i64 0, .int .i64 0, .int .i64 0, .bool false, .int .i64 0, .string { data := #[] }, .int .i64 0, .bool false, .int .i64 0, .string { data := #[] }, .int .i64 0, .int .i64 0]).cells 1).toList = zent := by kernel_rfl
theorem run_clear_ent (w : World) (ty : TypeId) (b o c : Nat) (hc : ∀ j, j < 12 → (w.cell? ⟨b, o + j, none⟩).isSome = true) (hf : ∀ j, j < 12 → w.frozen? ⟨b, o + j, none⟩ = false) :
    (Builtin.clear_ #[22] ty #[.slice (some ⟨b, o, none⟩) 1 c]).run Try.prog w = .ok (.tuple #[]) (w.setCells b o zent) := by
  have hst := run_storeCells_cells (P := Try.prog) b o zent 0 w (by simpa [zent] using hc) (by simpa [zent] using hf) (by intro v hv; simp only [zent, List.mem_cons, List.not_mem_nil, or_false] at hv; rcases hv with rfl | rfl | rfl | rfl | rfl | rfl | rfl | rfl | rfl | rfl | rfl | rfl <;> rfl)
  simp only [Nat.add_zero] at hst
  simp only [Builtin.clear_, List.getElem?_toArray, List.getElem?_cons_zero, Sem.run_bind, Result.andThen_ok, run_underlying under_entry, Try.zeroValue34, zent_cells, hst, Sem.run_pure]
set_option maxRecDepth 100000 in
set_option maxHeartbeats 2000000 in
theorem delete_any (g cap k base : Nat) (l : List Ent) (w : World) (hown : w.ownsRow base 34 12 (.slice (some ⟨g, 0, none⟩) l.length cap) l.length (ents l)) (hk : k < l.length) (hl : l.length ≤ 1000000) :
    Calls Try.prog 39 #[.slice (some ⟨g, 0, none⟩) l.length cap, .int .i64 k, .int .i64 ((k : Int) + 1)] w fun e w' =>
      e = .returned (.slice (some ⟨g, 0, none⟩) (l.length - 1) cap) ∧ w'.ownsRow base 34 12 (.slice (some ⟨g, 0, none⟩) (l.length - 1) cap) (l.length - 1) (ents (l.eraseIdx k)) ∧ w.grownBy w' (some g) := by
  obtain ⟨i0, hi0, _, hi1, _⟩ := info_parts info_entry
  have hcap : l.length ≤ cap := by
    rcases hown.2 with ⟨h2, _⟩ | ⟨g', cap', cur, e, _, _, hn, _⟩
    · cases h2
    · injection e with _ _ e3; omega
  have hcm : cap ≤ 9223372036854775807 := by
    rcases hown.2 with ⟨h2, _⟩ | ⟨g', cap', cur, e, _, _, hn, hc, _⟩
    · cases h2
    · injection e with _ _ e3; unfold maxLen at hc; omega
  obtain ⟨news, hnews⟩ : ∃ news, news = ents (l.drop (k + 1)) := ⟨_, rfl⟩
  have hlen : Hid (news.length = (l.length - (k + 1)) * 12) := show news.length = _ by rw [hnews, ents_length, List.length_drop]
  obtain ⟨A, hA, hsrc⟩ : ∃ A : Addr, (if cap = k + 1 then some (⟨g, 0, none⟩ : Addr) else some ⟨g, (k + 1) * 12, none⟩) = some A ∧ Hid (∀ t u, news[t]? = some u → w.drew.cell? (A.add t) = some u) := by
    by_cases h : cap = k + 1
    · refine ⟨⟨g, 0, none⟩, by simp [h], fun t u hu => ?_⟩
      have h0 : news.length = 0 := by rw [hlen.out]; omega
      rw [List.length_eq_zero_iff.1 h0] at hu
      simp at hu
    · refine ⟨⟨g, (k + 1) * 12, none⟩, by simp [h], fun t u hu => ?_⟩
      rw [hnews, ← ents_drop, List.getElem?_drop] at hu
      have := World.ownsRow.cells hown (g := g) rfl _ u hu
      rw [Addr.add_lit] at this ⊢
      rw [Nat.zero_add] at this
      exact this
  obtain ⟨W1, hW1⟩ : ∃ W1, W1 = w.drew.setCells g (0 + k * 12) news := ⟨_, rfl⟩
  have hown0 : w.drew.ownsRow base 34 12 (.slice (some ⟨g, 0, none⟩) l.length cap) l.length (ents l) := hown
  have s2 : Hid (∀ u ∈ news, u.oneCell' = true) := by rw [hnews]; exact one_ents' _
  have s3 : Hid (∀ t, t < news.length → (w.drew.cell? ⟨g, 0 + k * 12 + t, none⟩).isSome = true ∧ w.drew.frozen? ⟨g, 0 + k * 12 + t, none⟩ = false) := fun t ht => own_cell hown0 (by rw [hlen.out] at ht; omega)
  have hW : Hid (W1 = w.drew.setCells g (0 + k * 12) news) := hW1
  have s4 : Hid (k + (l.length - (k + 1)) ≤ cap) := show _ ≤ _ by omega
  have hown1 : W1.ownsRow base 34 12 (.slice (some ⟨g, 0, none⟩) (k + (l.length - (k + 1))) cap) (k + (l.length - (k + 1))) (ents (l.eraseIdx k)) := by
    have := own_lay hown0 (Nat.le_of_lt hk) hlen.out s4.out
    rw [hW1, Nat.zero_add, List.eraseIdx_eq_take_drop_succ, ents_append, ← ents_take, ← hnews]
    exact this
  have hcl : ∀ ty, (Builtin.clear_ #[22] ty #[.slice (some ⟨g, (k + (l.length - (k + 1))) * 12, none⟩) (l.length - (k + (l.length - (k + 1)))) (cap - (k + (l.length - (k + 1))))]).run Try.prog W1 = .ok (.tuple #[]) (W1.setCells g ((k + (l.length - (k + 1))) * 12) zent) := fun ty => by
    rw [show l.length - (k + (l.length - (k + 1))) = 1 by omega]
    exact run_clear_ent W1 ty g _ _ (fun j hj => (own_cell hown1 (by omega)).1) (fun j hj => (own_cell hown1 (by omega)).2)
  have hownF := own_past (o := (k + (l.length - (k + 1))) * 12) (vs := zent) hown1 (Nat.le_refl _) (by show _ + 12 ≤ _; omega)
  have hgF : Hid (w.grownBy (W1.setCells g ((k + (l.length - (k + 1))) * 12) zent) (some g)) := by
    refine grown_trans' (b := W1) ?_ (setCells_grown _ _ _ _)
    rw [hW1]
    exact grown_trans' (b := w.drew) ⟨rfl, rfl, rfl, Nat.le_refl _, fun _ _ _ => rfl⟩ (setCells_grown _ _ _ _)
  have hic : k ≤ cap := by omega
  have hjc : k + 1 ≤ cap := by omega
  have hj0 : (0 : Int) ≤ (k : Int) + 1 := by omega
  have hjl : (k : Int) + 1 ≤ (l.length : Int) := by omega
  have HownF := Lib.hid hownF
  clear hown hown0 hW1 hnews hown1 hownF
  go_enter Try.func39, Try.ntmps39
  go_wp2_with fail
  go_region_law (refine step_append_room rfl (.tmp 22) (.tmp 25) 22 rfl 34 i0 12 under_entry hi0 hi1 g 0 k cap (by simp [Act.eval, Act.put]) A (l.length - (k + 1)) (cap - (k + 1)) news (by simp [Act.eval, Act.put]) hlen.out hsrc.out s2.out s4.out s3.out ?_; rw [← hW.out])
  go_wp2
  go_ret
  have hN : k + (l.length - (k + 1)) = l.length - 1 := by omega
  refine ⟨?_, by have := HownF.out; rw [hN] at this ⊢; exact this, hgF.out⟩
  show Ending.returned (Value.slice (some ⟨g, 0, none⟩) (k + (l.length - (k + 1))) cap) = _
  rw [hN]
/-- slices.Clone at entries: a row of the call's own. -/
def RetEnts0 (w : World) (l : List Ent) (e : Ending) (w' : World) : Prop := ∃ v, e = .returned v ∧ w'.ownsRow w.heap.size 34 12 v l.length (ents l) ∧ Below w.heap.size w w'
set_option maxRecDepth 100000 in
set_option maxHeartbeats 1000000 in
theorem clone_any (v : Value) (l : List Ent) (w : World) (hs : Sl w 12 v l.length (ents l)) (hl : l.length ≤ 1000000) :
    Calls Try.prog 37 #[v] w (RetEnts0 w l) := by
  obtain ⟨A, c, rfl, hc1, hc2⟩ := hs.form
  have q22 : ∀ (w : World) (a : Option Addr) (n c n' c' : Nat), (binOp .eql 22 (.slice a n c) (.slice none n' c')).run Try.prog w = .ok (.bool a.isNone) w := fun w a n c n' c' => Lib.run_eql_slice_nil w _ _ a n c n' c' under_entry
  rcases A with _ | ad
  · have hl0 : l.length = 0 := by
      rcases Nat.eq_zero_or_pos l.length with h | h
      · exact h
      · obtain ⟨A', c', e, _, _, _, h4⟩ := hs
        injection e with e1
        obtain ⟨ad, e2, _⟩ := h4 h
        rw [← e1] at e2; cases e2
    have hl1 := List.eq_nil_of_length_eq_zero hl0
    subst hl1
    go_enter Try.func37, Try.ntmps37
    go_wp2
    go_ret
    exact ⟨_, rfl, World.ownsRow_nil _ _ _ _, Below.refl _ _⟩
  · have hb0 : Below w.heap.size w (w.alloc (.cells #[] 34)) := abel _ _
    have hsW : Sl (w.alloc (.cells #[] 34)) 12 (.slice (some ad) l.length c) l.length (ents l) := hs.below hb0
    have hown : (w.alloc (.cells #[] 34)).ownsRow w.heap.size 34 12 (.slice (some ⟨w.heap.size, 0, none⟩) 0 0) 0 [] := ⟨by simp, .inr ⟨w.heap.size, 0, #[], rfl, Nat.le_refl _, heap_alloc_new w _, Nat.le_refl _, by simp [maxLen], by simp, by simp⟩⟩
    go_enter Try.func37, Try.ntmps37
    go_wp2_with (at_builtin; go_must (refine appN _ _ hown hsW hb0.size under_entry info_entry rfl (by decide) (one_ents' _) (by omega) (by omega) rfl rfl rfl rfl ?_))
    intro v' w' hown' hg hor
    have HR := Lib.hid (show RetEnts0 w l (.returned v') w' from ⟨v', rfl, by simpa using hown', hb0.grown hg hb0.size (fun k hk => (hown.lt k hk).1)⟩)
    clear hown' hg hor
    go_wp2
    go_ret
    exact HR.out
theorem ent_val {e : Ent} : Value.agg e.cells.toArray = .agg #[.int .i64 e.id, .int .i64 e.rows, .int .i64 e.live, .bool e.lo.null, .int .i64 e.lo.n, .string e.lo.s, .int .i64 e.lo.seq, .bool e.hi.null, .int .i64 e.hi.n, .string e.hi.s, .int .i64 e.hi.seq, .int .i64 e.del] := rfl
def idxV (l : List Ent) (i : Int) : Int := match idxE l i with | some k => (k : Int) | none => -1
theorem idxV_hit {l : List Ent} {i : Int} {k : Nat} {e : Ent} (h : l[k]? = some e) (hi : e.id = i) (hno : ∀ (j : Nat) (d : Ent), l[j]? = some d → j < k → d.id ≠ i) : idxV l i = k := by unfold idxV; rw [idxE_hit h hi hno]
theorem idxV_miss {l : List Ent} {i : Int} (hno : ∀ (j : Nat) (d : Ent), l[j]? = some d → d.id ≠ i) : idxV l i = -1 := by unfold idxV; rw [idxE_miss hno]
theorem idxV_some {l : List Ent} {i : Int} {k : Nat} (h : idxE l i = some k) : idxV l i = k := by unfold idxV; rw [h]
theorem idxV_none {l : List Ent} {i : Int} (h : idxE l i = none) : idxV l i = -1 := by unfold idxV; rw [h]
def RetBe (w : World) (b : Bool) (e : Ending) (w' : World) : Prop := e = .returned (.bool b) ∧ Below w.heap.size w w'
theorem RetBe.mk_ {w w' : World} {b b' : Bool} (h : b = b') (hb : Below w.heap.size w w') : RetBe w b (.returned (.bool b')) w' := by subst h; exact ⟨rfl, hb⟩
set_option maxHeartbeats 1000000 in
theorem idxLit_any (e : Ent) (i : Int) (q : Addr) (w : World) (hq : w.cell? q = some (.int .i64 i)) {b : Bool} (hb : decide (e.id = i) = b) :
    Calls Try.prog 66 #[.agg #[.int .i64 e.id, .int .i64 e.rows, .int .i64 e.live, .bool e.lo.null, .int .i64 e.lo.n, .string e.lo.s, .int .i64 e.lo.seq, .bool e.hi.null, .int .i64 e.hi.n, .string e.hi.s, .int .i64 e.hi.seq, .int .i64 e.del], .pointer (some q)] w (RetBe w b) := by
  have hq2 := cell_alloc hq (.cells #[.int .i64 e.id, .int .i64 e.rows, .int .i64 e.live, .bool e.lo.null, .int .i64 e.lo.n, .string e.lo.s, .int .i64 e.lo.seq, .bool e.hi.null, .int .i64 e.hi.n, .string e.hi.s, .int .i64 e.hi.seq, .int .i64 e.del] 34)
  have HB := Lib.hid (show (e.id == i) = b by rw [← hb]; by_cases h : e.id = i <;> simp [h])
  clear hq hb
  go_enter Try.func66, Try.ntmps66
  go_wp2
  go_ret
  exact RetBe.mk_ HB.out.symm (abel _ _)
set_option maxRecDepth 100000 in
set_option maxHeartbeats 1000000 in
theorem idxFunc_any (v : Value) (l : List Ent) (x : Int) (q : Addr) (w : World) (hs : Sl w 12 v l.length (ents l)) (hl : l.length ≤ 9223372036854775807) (hq : w.cell? q = some (.int .i64 x)) :
    Calls Try.prog 65 #[v, .func (.func 66) #[] #[.pointer (some q)]] w (RetIB w (idxV l x)) := by
  obtain ⟨A, c, rfl, hc1, hc2⟩ := hs.form
  have HQ := Lib.hid (World.block_lt_of_cell? w q hq)
  go_enter Try.func65, Try.ntmps65
  go_wp2
  go_loopw [8] (fun i wr => ∃ k : Nat, k ≤ l.length ∧ i = .int .i64 k ∧ Below w.heap.size w wr ∧ Hid (∀ (j : Nat) (d : Ent), l[j]? = some d → j < k → d.id ≠ x)) (fun i _ => l.length - (intOf i).toNat)
  case atStart => exact ⟨0, by omega, rfl, Below.refl _ _, Lib.hid fun j d _ hj => absurd hj (Nat.not_lt_zero _)⟩
  case round =>
    obtain ⟨k, hk, rfl, hbel, hno⟩ := hrel
    by_cases hlt : k < l.length
    · obtain ⟨ad, e, p, rfl, he, hp, hE⟩ := (hs.below hbel).ent_load rfl hlt
      obtain ⟨hplt, c0, c1, c2, c3, c4, c5, c6, c7, c8, c9, c10, c11⟩ := hE
      have hqw := (hbel.cell HQ.out).trans hq
      have HE := Lib.hid he
      clear he
      by_cases hn : e.id = x
      · have HC := Lib.hid (idxLit_any e x q wr hqw (decide_eq_true hn))
        have HF := Lib.hid (idxV_hit HE.out hn hno.out)
        clear hn
        go_wp2_with fail
        refine HC.out.mono ?_
        rintro _ w2 ⟨rfl, hb2⟩
        go_wp2
        go_ret
        exact RetIB.mk_ HF.out (hbel.trans (hb2.mono hbel.size))
      · have HC := Lib.hid (idxLit_any e x q wr hqw (decide_eq_false hn))
        have HN := Lib.hid (show ∀ (j : Nat) (d : Ent), l[j]? = some d → j < k + 1 → d.id ≠ x from fun j d hd hj => by
          by_cases ej : j = k
          · subst ej; rw [HE.out] at hd; injection hd with hd; rw [← hd]; exact hn
          · exact hno.out j d hd (by omega))
        clear hn
        go_wp2_with fail
        refine HC.out.mono ?_
        rintro _ w2 ⟨rfl, hb2⟩
        have HB := Lib.hid (hbel.trans (hb2.mono hbel.size))
        clear hb2 hbel
        go_wp2
        go_roundw
        case rel => exact ⟨k + 1, by omega, by go_num, HB.out, HN⟩
        case measure => simp [intOf]; omega
    · have HF := Lib.hid (idxV_miss (l := l) (i := x) (fun j d hd => hno.out j d hd (by have := (List.getElem?_eq_some_iff.1 hd).1; omega)))
      go_wp2
      go_ret
      exact RetIB.mk_ HF.out hbel
set_option maxRecDepth 100000 in
set_option maxHeartbeats 1000000 in
theorem index_any (v : Value) (l : List Ent) (x : Int) (w : World) (hs : Sl w 12 v l.length (ents l)) (hl : l.length ≤ 9223372036854775807) :
    Calls Try.prog 38 #[v, .int .i64 x] w (RetIB w (idxV l x)) := by
  obtain ⟨A, c, rfl, hc1, hc2⟩ := hs.form
  have hb := abel w (.cells #[.int .i64 x] 3)
  have HC := Lib.hid (idxFunc_any _ l x ⟨w.heap.size, 0, none⟩ _ (hs.below hb) hl (by simp))
  have HB := Lib.hid hb
  clear hb hs
  go_enter Try.func38, Try.ntmps38
  go_wp2_with fail
  refine HC.out.mono ?_
  rintro _ w2 ⟨rfl, hb2⟩
  go_wp2
  go_ret
  exact RetIB.mk_ rfl (bst HB.out hb2)
set_option maxRecDepth 100000 in
set_option maxHeartbeats 1000000 in
theorem rindex_any (v : Value) (l : List Ent) (x : Int) (w : World) (hs : Sl w 12 v l.length (ents l)) (hl : l.length ≤ 9223372036854775807) :
    Calls Try.prog 49 #[v, .int .i64 x] w (RetIB w (idxV l x)) := by
  obtain ⟨A, c, rfl, hc1, hc2⟩ := hs.form
  go_enter Try.func49, Try.ntmps49
  go_wp2
  go_loopw [9] (fun i wr => ∃ k : Nat, k ≤ l.length ∧ i = .int .i64 k ∧ Below w.heap.size w wr ∧ Hid (∀ (j : Nat) (d : Ent), l[j]? = some d → j < k → d.id ≠ x)) (fun i _ => l.length - (intOf i).toNat)
  case atStart => exact ⟨0, by omega, rfl, Below.refl _ _, Lib.hid fun j d _ hj => absurd hj (Nat.not_lt_zero _)⟩
  case round =>
    obtain ⟨k, hk, rfl, hbel, hno⟩ := hrel
    by_cases hlt : k < l.length
    · obtain ⟨ad, e, p, rfl, he, hp, hE⟩ := (hs.below hbel).ent_load rfl hlt
      obtain ⟨hplt, c0, c1, c2, c3, c4, c5, c6, c7, c8, c9, c10, c11⟩ := hE
      have HE := Lib.hid he
      have HB := Lib.hid hbel
      clear he hbel
      by_cases hn : e.id = x
      · have HF := Lib.hid (idxV_hit HE.out hn hno.out)
        have q1 : (e.id == x) = true := by simpa using hn
        clear hn
        go_wp2
        go_ret
        exact RetIB.mk_ HF.out (HB.out.alloc HB.out.size _)
      · have HN := Lib.hid (show ∀ (j : Nat) (d : Ent), l[j]? = some d → j < k + 1 → d.id ≠ x from fun j d hd hj => by
          by_cases ej : j = k
          · subst ej; rw [HE.out] at hd; injection hd with hd; rw [← hd]; exact hn
          · exact hno.out j d hd (by omega))
        have q1 : (e.id == x) = false := by simpa using hn
        clear hn
        go_wp2
        go_roundw
        case rel => exact ⟨k + 1, by omega, by go_num, HB.out.alloc HB.out.size _, HN⟩
        case measure => simp [intOf]; omega
    · have HF := Lib.hid (idxV_miss (l := l) (i := x) (fun j d hd => hno.out j d hd (by have := (List.getElem?_eq_some_iff.1 hd).1; omega)))
      go_wp2
      go_ret
      exact RetIB.mk_ HF.out hbel
end Go.Proofs.Ytoikgjhekemjdaa
