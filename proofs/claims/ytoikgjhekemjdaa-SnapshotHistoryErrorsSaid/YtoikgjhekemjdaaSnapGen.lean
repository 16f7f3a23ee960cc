/-
  A version that the statements' helpers make is valid, in plain Lean; law 20's awake.
-/
import Derived.Test.YtoikgjhekemjdaaKSnap
import Derived.Test.YtoikgjhekemjdaaRSnapCheck
import Derived.Deep.RegionWith
namespace Go.Proofs.Ytoikgjhekemjdaa
open Go.RowKit Go.Sort
theorem Rk.gen_ok {r : Rk} (h : r.gen) : r.okB = true := by
  obtain ⟨h1, h2, h3, h4, h5, h6⟩ := h
  unfold Rk.okB
  rw [h1, h4]
  have e : ({ data := #[] } : ByteArray).size = 0 := rfl
  simp [e]; omega
theorem Ent.gen_ok {e : Ent} (h : e.gen) (hid : e.id ≤ 2147483647) : e.okB = true := by
  obtain ⟨h1, h2, h3, h4, h5, h6, h7, _, _, h8, h9, _⟩ := h
  unfold Ent.okB
  rw [Rk.gen_ok h8, Rk.gen_ok h9]
  simp; omega
theorem GenL.asc {t : Int} : ∀ {l : List Ent}, GenL t l → ∀ k, ascAt l k = true
  | [], _, k => by cases k <;> rfl
  | x :: r, ⟨hx, hlt, htop, hr⟩, 0 => rfl
  | x :: r, ⟨hx, hlt, htop, hr⟩, 1 => by
    cases r with
    | nil => rfl
    | cons y r => exact decide_eq_true (hlt y (by simp))
  | x :: r, ⟨hx, hlt, htop, hr⟩, k + 2 => by
    have := hr.asc (k + 1)
    simpa [ascAt] using this
theorem GenL.entsB {t : Int} {l : List Ent} (h : GenL t l) (ht : t ≤ 2147483647) : entsB l = true := by
  unfold Go.Proofs.Ytoikgjhekemjdaa.entsB
  rw [allTo_true]
  intro k hk
  have he := List.getElem?_eq_getElem hk
  have hm := h.mem _ (List.mem_of_getElem? he)
  rw [okAt_get he, Ent.gen_ok hm.1 (by omega), h.asc]; rfl
theorem gen_snapB {x q n : Int} {l : List Ent} (h1 : 0 ≤ x) (h2 : x ≤ 49) (h3 : 3 ≤ q) (h4 : q ≤ 11) (h5 : 30 ≤ n) (h6 : n ≤ 38) (h7 : l.length ≤ 6) (h : GenL (3 * l.length) l) : snapB x q n l = true := by
  refine snapB_good ⟨h1, by omega, by omega, by omega, by omega, by omega, by omega⟩ ?_
  rw [show goodAt q n l = fun k => okAt l k && underAt q n l k from rfl, allTo_and]
  rw [show allTo (okAt l) l.length = entsB l from rfl, h.entsB (by omega), Bool.true_and, allTo_true]
  intro k hk
  have he := List.getElem?_eq_getElem hk
  obtain ⟨hg, hid⟩ := h.mem _ (List.mem_of_getElem? he)
  obtain ⟨g1, g2, g3, g4, g5, g6, g7, _, _, ⟨_, _, _, _, g8, g9⟩, ⟨_, _, _, _, g10, g11⟩, _⟩ := hg
  rw [underAt_get he]
  simp [Ent.underB]; omega
theorem Ent.gen_small {e : Ent} (h : e.gen) : e.small := by
  obtain ⟨_, _, _, _, _, _, _, _, _, ⟨_, _, _, h8, _⟩, ⟨_, _, _, h9, _⟩, _⟩ := h
  have e0 : ({ data := #[] } : ByteArray).size = 0 := rfl
  unfold Ent.small
  rw [h8, h9, e0]
  exact ⟨by omega, by omega⟩
theorem Blk.sl {w : World} {g n size : Nat} {t : TypeId} {cs : Array Value} (h : Blk w g t cs) (hn : cs.toList.length = n * size) (hm : n ≤ maxLen) : Sl w size (.slice (some ⟨g, 0, none⟩) n n) n cs.toList :=
  ⟨_, _, rfl, Nat.le_refl _, hm, hn, fun _ => ⟨_, rfl, h.lt, fun j u hj => by
    have e1 : (⟨g, 0, none⟩ : Addr).add j = ⟨g, j, none⟩ := by unfold Addr.add; split <;> simp_all
    rw [e1, h.cell]; simpa using hj⟩⟩
def zrk : Rk := ⟨false, 0, { data := #[] }, 0⟩
/-- What the law's entry makes. -/
def lent (id live : Int) : Ent := ⟨id, 9, live, zrk, zrk, 0⟩
set_option maxRecDepth 100000 in
set_option maxHeartbeats 1000000 in
theorem lentry_any (id live : Int) (w : World) : Calls Try.prog 14 #[.int .i64 id, .int .i64 live] w fun e w' =>
    e = .returned (.agg #[.int .i64 id, .int .i64 9, .int .i64 live, .bool false, .int .i64 0, .string { data := #[] }, .int .i64 0, .bool false, .int .i64 0, .string { data := #[] }, .int .i64 0, .int .i64 0]) ∧ Below w.heap.size w w' := by
  go_enter Try.func14, Try.ntmps14
  go_wp2
  exact bodyPost_ret (v := .agg #[.int .i64 id, .int .i64 9, .int .i64 live, .bool false, .int .i64 0, .string { data := #[] }, .int .i64 0, .bool false, .int .i64 0, .string { data := #[] }, .int .i64 0, .int .i64 0]) (by simp [results, Try.results14, go_sem]) rfl ⟨rfl, abel _ _⟩
def RetTwo (w : World) (e : Ending) (w' : World) : Prop :=
  ∃ v, e = .returned (.agg #[.int .i64 4, .int .i64 7, .int .i64 9, v]) ∧ Sl w' 12 v 2 (ents [lent 3 5, lent 5 9]) ∧ Below w.heap.size w w'
set_option maxRecDepth 100000 in
set_option maxHeartbeats 2000000 in
theorem two_any (w : World) : Calls Try.prog 13 #[] w (RetTwo w) := by
  obtain ⟨W, hW⟩ : ∃ W, W = w.alloc (.cells #[.int .i64 0, .int .i64 0, .int .i64 0, .slice none 0 0] 24) := ⟨_, rfl⟩
  have b0 : Blk W w.heap.size 24 #[.int .i64 0, .int .i64 0, .int .i64 0, .slice none 0 0] := by rw [hW]; exact Blk.new _ _ _
  have hb0 : Below w.heap.size w W := by rw [hW]; exact abel _ _
  go_enter Try.func13, Try.ntmps13
  go_wp2_with fail
  rw [← hW]
  clear hW
  refine (lentry_any 3 5 W).mono ?_
  rintro e w1 ⟨rfl, hb1⟩
  go_wp2_with fail
  refine (lentry_any 5 9 w1).mono ?_
  rintro e w2 ⟨rfl, hb2⟩
  have b2 := (b0.below hb1 b0.lt).below hb2 (b0.below hb1 b0.lt).lt
  have hbel := bst (bst hb0 hb1) hb2
  clear hb1 hb2 b0 hb0
  have f0 := b2.frozen 0
  have f1 := b2.frozen 1
  have f2 := b2.frozen 2
  have f3 := b2.frozen 3
  have c0 := b2.cell 0
  have c1 := b2.cell 1
  have c2 := b2.cell 2
  have c3 := b2.cell 3
  simp only [List.getElem?_toArray, List.getElem?_cons_zero, List.getElem?_cons_succ] at c0 c1 c2 c3
  have hlt := b2.lt
  go_wp2
  have kg := grown4 w2 w.heap.size (.int .i64 4) (.int .i64 7) (.int .i64 9) (.slice (some ⟨w2.heap.size, 0, none⟩) 2 2)
  have kb := blk4 (.int .i64 4) (.int .i64 7) (.int .i64 9) (.slice (some ⟨w2.heap.size, 0, none⟩) 2 2) b2
  have kw := below_row hbel kg (Nat.le_refl _) hbel.size
  have kz : (((((w2.setCell ⟨w.heap.size, 0, none⟩ (.int .i64 4)).setCell ⟨w.heap.size, 1, none⟩ (.int .i64 7)).setCell ⟨w.heap.size, 2, none⟩ (.int .i64 9)).setCell ⟨w.heap.size, 3, none⟩ (.slice (some ⟨w2.heap.size, 0, none⟩) 2 2)).heap.size) = w2.heap.size := by simp [World.setCell]
  obtain ⟨V, hV⟩ : ∃ V, V = (((w2.setCell ⟨w.heap.size, 0, none⟩ (.int .i64 4)).setCell ⟨w.heap.size, 1, none⟩ (.int .i64 7)).setCell ⟨w.heap.size, 2, none⟩ (.int .i64 9)).setCell ⟨w.heap.size, 3, none⟩ (.slice (some ⟨w2.heap.size, 0, none⟩) 2 2) := ⟨_, rfl⟩
  rw [← hV] at kb kw kz ⊢
  have ke := Blk.new V 34 #[.int .i64 3, .int .i64 9, .int .i64 5, .bool false, .int .i64 0, .string { data := #[] }, .int .i64 0, .bool false, .int .i64 0, .string { data := #[] }, .int .i64 0, .int .i64 0, .int .i64 5, .int .i64 9, .int .i64 9, .bool false, .int .i64 0, .string { data := #[] }, .int .i64 0, .bool false, .int .i64 0, .string { data := #[] }, .int .i64 0, .int .i64 0]
  rw [kz] at ke
  have kb := kb.alloc (.cells #[.int .i64 3, .int .i64 9, .int .i64 5, .bool false, .int .i64 0, .string { data := #[] }, .int .i64 0, .bool false, .int .i64 0, .string { data := #[] }, .int .i64 0, .int .i64 0, .int .i64 5, .int .i64 9, .int .i64 9, .bool false, .int .i64 0, .string { data := #[] }, .int .i64 0, .bool false, .int .i64 0, .string { data := #[] }, .int .i64 0, .int .i64 0] 34)
  have kw := kw.alloc kw.size (.cells #[.int .i64 3, .int .i64 9, .int .i64 5, .bool false, .int .i64 0, .string { data := #[] }, .int .i64 0, .bool false, .int .i64 0, .string { data := #[] }, .int .i64 0, .int .i64 0, .int .i64 5, .int .i64 9, .int .i64 9, .bool false, .int .i64 0, .string { data := #[] }, .int .i64 0, .bool false, .int .i64 0, .string { data := #[] }, .int .i64 0, .int .i64 0] 34)
  obtain ⟨X, hX⟩ : ∃ X, X = V.alloc (.cells #[.int .i64 3, .int .i64 9, .int .i64 5, .bool false, .int .i64 0, .string { data := #[] }, .int .i64 0, .bool false, .int .i64 0, .string { data := #[] }, .int .i64 0, .int .i64 0, .int .i64 5, .int .i64 9, .int .i64 9, .bool false, .int .i64 0, .string { data := #[] }, .int .i64 0, .bool false, .int .i64 0, .string { data := #[] }, .int .i64 0, .int .i64 0] 34) := ⟨_, rfl⟩
  rw [← hX] at kb ke kw ⊢
  clear hX kg hV kz
  have d0 := kb.cell 0
  have d1 := kb.cell 1
  have d2 := kb.cell 2
  have d3 := kb.cell 3
  simp only [List.getElem?_toArray, List.getElem?_cons_zero, List.getElem?_cons_succ] at d0 d1 d2 d3
  have hsl := ke.sl (n := 2) (size := 12) rfl (by unfold maxLen; omega)
  exact bodyPost_ret (v := .agg #[.int .i64 4, .int .i64 7, .int .i64 9, .slice (some ⟨w2.heap.size, 0, none⟩) 2 2]) (by simp [results, Try.results13, go_sem, d0, d1, d2, d3]) rfl ⟨_, rfl, hsl, kw⟩
theorem two_small : ∀ e ∈ [lent 3 5, lent 5 9], e.small := by
  intro e he
  have e0 : ({ data := #[] } : ByteArray).size = 0 := rfl
  simp only [List.mem_cons, List.not_mem_nil, or_false] at he
  rcases he with rfl | rfl <;> (unfold Ent.small; simp only [lent, zrk, e0]; omega)
set_option maxRecDepth 100000 in
set_option maxHeartbeats 2000000 in
theorem awake20_any (w : World) : Calls Try.prog 19 #[] w (RetB1' w true) := by
  have t1 : snapB 4 7 9 [lent 3 5, lent 5 9] = true := by decide
  have t2 : snapB 4 7 5 [lent 3 5, lent 5 9] = false := by decide
  go_enter Try.func19, Try.ntmps19
  go_wp2_with fail
  refine (two_any w).mono ?_
  rintro e w1 ⟨v1, rfl, hs1, hb1⟩
  obtain ⟨A1, c1, rfl, _, _⟩ := hs1.form
  obtain ⟨W, hW⟩ : ∃ W, W = w1.alloc (.cells #[.int .i64 4, .int .i64 7, .int .i64 5, .slice A1 2 c1] 24) := ⟨_, rfl⟩
  have b1 : Blk W w1.heap.size 24 #[.int .i64 4, .int .i64 7, .int .i64 5, .slice A1 2 c1] := by rw [hW]; exact Blk.new _ _ _
  have hbW : Below w.heap.size w W := by rw [hW]; exact hb1.alloc hb1.size _
  have hsW : Sl W 12 (.slice A1 2 c1) 2 (ents [lent 3 5, lent 5 9]) := by rw [hW]; exact hs1.alloc _
  go_upto_region 3 with (fail)
  rw [← hW]
  clear hW hs1 hb1
  go_wp2_with fail
  refine (two_any W).mono ?_
  rintro e w2 ⟨v2, rfl, hs2, hb2⟩
  obtain ⟨A2, c2, rfl, _, _⟩ := hs2.form
  have D1 := Lib.hid (snapCheck_any 4 7 9 (.slice A2 2 c2) [lent 3 5, lent 5 9] w2 hs2 two_small (by simp))
  rw [t1] at D1
  have b2 := b1.below hb2 b1.lt
  have hb2' := bst hbW hb2
  have hsW2 := hsW.below hb2
  clear b1 hb2 hs2
  go_wp2_with fail
  refine D1.out.mono ?_
  rintro e w3 ⟨rfl, hb3⟩
  have b3 := b2.below hb3 b2.lt
  have D2 := Lib.hid (snapCheck_any 4 7 5 (.slice A1 2 c1) [lent 3 5, lent 5 9] w3 (hsW2.below hb3) two_small (by simp))
  rw [t2] at D2
  have hb3' := bst hb2' hb3
  have d0 := b3.cell 0
  have d1 := b3.cell 1
  have d2 := b3.cell 2
  have d3 := b3.cell 3
  simp only [List.getElem?_toArray, List.getElem?_cons_zero, List.getElem?_cons_succ] at d0 d1 d2 d3
  clear b2 hb3 hsW2 b3 hsW D1
  go_wp2_with fail
  refine D2.out.mono ?_
  rintro e w4 ⟨rfl, hb4⟩
  have HB4 := Lib.hid (bst hb3' hb4)
  clear hb4
  go_wp2
  go_ret
  exact ⟨rfl, HB4.out⟩
end Go.Proofs.Ytoikgjhekemjdaa
