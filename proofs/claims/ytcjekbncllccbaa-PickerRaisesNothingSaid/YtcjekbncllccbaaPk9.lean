/-
  The law's words: entry, three, awake; the walk of PickerExamples.
-/
import Derived.Test.YtcjekbncllccbaaPk8
import Derived.Test.YtcjekbncllccbaaBase
namespace Go.Proofs.Ytcjekbncllccbaa
open Go.RowKit Go.Sort

def ent28 (id lo hi live : Int) : Ent := ⟨id, live, live, ⟨false, lo, { data := #[] }, 0⟩, ⟨false, hi, { data := #[] }, 0⟩, 0⟩
def three28 : List Ent := [ent28 1 1 5 2, ent28 2 3 9 7, ent28 3 4 6 3]
theorem three_peak : peakQ 1 three28 1 2 = [1, 3] := by decide +kernel
theorem three_pick : pickQ 1 three28 1 2 5 = [1, 3] := by decide +kernel
theorem three_pair : (pairP 1 three28 5).map (fun s => (s.1.id, s.2.id)) = some (1, 3) := by decide +kernel
theorem three_over : meetE 1 (ent28 1 1 5 2) (ent28 2 3 9 7) = true := by decide +kernel
theorem three_small : ∀ e ∈ three28, e.small := by
  intro e he
  simp only [three28, List.mem_cons, List.not_mem_nil, or_false] at he
  rcases he with rfl | rfl | rfl <;> exact ⟨by decide, by decide⟩
theorem three_live : ∀ e ∈ three28, -1000000 ≤ e.live ∧ e.live ≤ 1000000 := by
  intro e he
  simp only [three28, List.mem_cons, List.not_mem_nil, or_false] at he
  rcases he with rfl | rfl | rfl <;> exact ⟨by decide, by decide⟩
set_option maxRecDepth 100000 in
set_option maxHeartbeats 8000000 in
theorem lent28_any (i lo hi lv : Int) (w : World) :
    Calls Try.prog 39 #[.int .i64 i, .int .i64 lo, .int .i64 hi, .int .i64 lv] w (fun d w' => d = .returned (.agg #[.int .i64 i, .int .i64 lv, .int .i64 lv, .bool false, .int .i64 lo, .string { data := #[] }, .int .i64 0, .bool false, .int .i64 hi, .string { data := #[] }, .int .i64 0, .int .i64 0]) ∧ Below w.heap.size w w') := by
  obtain ⟨W, hW⟩ : ∃ W, W = w.alloc (.cells #[.int .i64 0, .int .i64 0, .int .i64 0, .bool false, .int .i64 0, .string { data := #[] }, .int .i64 0, .bool false, .int .i64 0, .string { data := #[] }, .int .i64 0, .int .i64 0] 41) := ⟨_, rfl⟩
  have HB0 := Lib.hid (show Below w.heap.size w W by rw [hW]; exact abel _ _)
  have B1 := Lib.hid (show Blk W w.heap.size 41 #[.int .i64 0, .int .i64 0, .int .i64 0, .bool false, .int .i64 0, .string { data := #[] }, .int .i64 0, .bool false, .int .i64 0, .string { data := #[] }, .int .i64 0, .int .i64 0] by rw [hW]; exact Blk.new _ _ _)
  go_enter Try.func39, Try.ntmps39
  go_upto_region 1 with (fail)
  rw [← hW]
  clear hW
  have bb := B1.out
  have d0 := bb.cell 0
  have d1 := bb.cell 1
  have d2 := bb.cell 2
  have d3 := bb.cell 3
  have d4 := bb.cell 4
  have d5 := bb.cell 5
  have d6 := bb.cell 6
  have d7 := bb.cell 7
  have d8 := bb.cell 8
  have d9 := bb.cell 9
  have d10 := bb.cell 10
  have d11 := bb.cell 11
  simp only [List.getElem?_toArray, List.getElem?_cons_zero, List.getElem?_cons_succ] at d0 d1 d2 d3 d4 d5 d6 d7 d8 d9 d10 d11
  clear bb
  have f0 := (B1.out).frozen 0
  have f1 := (B1.out).frozen 1
  have f2 := (B1.out).frozen 2
  have f3 := (B1.out).frozen 3
  have f4 := (B1.out).frozen 4
  have f5 := (B1.out).frozen 5
  have f6 := (B1.out).frozen 6
  have f7 := (B1.out).frozen 7
  have f8 := (B1.out).frozen 8
  have f9 := (B1.out).frozen 9
  have f10 := (B1.out).frozen 10
  have f11 := (B1.out).frozen 11
  have hlt := B1.out.lt
  go_wp2
  have kg := grown12 W w.heap.size (.int .i64 i) (.int .i64 lv) (.int .i64 lv) (.bool false) (.int .i64 lo) (.string { data := #[] }) (.int .i64 0) (.bool false) (.int .i64 hi) (.string { data := #[] }) (.int .i64 0) (.int .i64 0)
  have kb := blk12 (.int .i64 i) (.int .i64 lv) (.int .i64 lv) (.bool false) (.int .i64 lo) (.string { data := #[] }) (.int .i64 0) (.bool false) (.int .i64 hi) (.string { data := #[] }) (.int .i64 0) (.int .i64 0) B1.out
  have kw := below_row HB0.out kg (by omega) HB0.out.size
  obtain ⟨V, hV⟩ : ∃ V, V = (((((((((((W.setCell ⟨w.heap.size, 0, none⟩ (.int .i64 i)).setCell ⟨w.heap.size, 1, none⟩ (.int .i64 lv)).setCell ⟨w.heap.size, 2, none⟩ (.int .i64 lv)).setCell ⟨w.heap.size, 3, none⟩ (.bool false)).setCell ⟨w.heap.size, 4, none⟩ (.int .i64 lo)).setCell ⟨w.heap.size, 5, none⟩ (.string { data := #[] })).setCell ⟨w.heap.size, 6, none⟩ (.int .i64 0)).setCell ⟨w.heap.size, 7, none⟩ (.bool false)).setCell ⟨w.heap.size, 8, none⟩ (.int .i64 hi)).setCell ⟨w.heap.size, 9, none⟩ (.string { data := #[] })).setCell ⟨w.heap.size, 10, none⟩ (.int .i64 0)).setCell ⟨w.heap.size, 11, none⟩ (.int .i64 0) := ⟨_, rfl⟩
  rw [← hV] at kb kw ⊢
  clear d0 d1 d2 d3 d4 d5 d6 d7 d8 d9 d10 d11
  have bb := kb
  have d0 := bb.cell 0
  have d1 := bb.cell 1
  have d2 := bb.cell 2
  have d3 := bb.cell 3
  have d4 := bb.cell 4
  have d5 := bb.cell 5
  have d6 := bb.cell 6
  have d7 := bb.cell 7
  have d8 := bb.cell 8
  have d9 := bb.cell 9
  have d10 := bb.cell 10
  have d11 := bb.cell 11
  simp only [List.getElem?_toArray, List.getElem?_cons_zero, List.getElem?_cons_succ] at d0 d1 d2 d3 d4 d5 d6 d7 d8 d9 d10 d11
  clear bb
  exact bodyPost_ret (v := .agg #[.int .i64 i, .int .i64 lv, .int .i64 lv, .bool false, .int .i64 lo, .string { data := #[] }, .int .i64 0, .bool false, .int .i64 hi, .string { data := #[] }, .int .i64 0, .int .i64 0]) (by simp [results, Try.results39, go_sem, d0, d1, d2, d3, d4, d5, d6, d7, d8, d9, d10, d11]) rfl ⟨rfl, kw⟩
def RetThree (w : World) (d : Ending) (w' : World) : Prop := ∃ g, d = .returned (.slice (some ⟨g, 0, none⟩) 3 3) ∧ w.heap.size ≤ g ∧ Blk w' g 41 #[.int .i64 1, .int .i64 2, .int .i64 2, .bool false, .int .i64 1, .string { data := #[] }, .int .i64 0, .bool false, .int .i64 5, .string { data := #[] }, .int .i64 0, .int .i64 0, .int .i64 2, .int .i64 7, .int .i64 7, .bool false, .int .i64 3, .string { data := #[] }, .int .i64 0, .bool false, .int .i64 9, .string { data := #[] }, .int .i64 0, .int .i64 0, .int .i64 3, .int .i64 3, .int .i64 3, .bool false, .int .i64 4, .string { data := #[] }, .int .i64 0, .bool false, .int .i64 6, .string { data := #[] }, .int .i64 0, .int .i64 0] ∧ Below w.heap.size w w'
theorem three_sl {w : World} {g : Nat} (h : Blk w g 41 #[.int .i64 1, .int .i64 2, .int .i64 2, .bool false, .int .i64 1, .string { data := #[] }, .int .i64 0, .bool false, .int .i64 5, .string { data := #[] }, .int .i64 0, .int .i64 0, .int .i64 2, .int .i64 7, .int .i64 7, .bool false, .int .i64 3, .string { data := #[] }, .int .i64 0, .bool false, .int .i64 9, .string { data := #[] }, .int .i64 0, .int .i64 0, .int .i64 3, .int .i64 3, .int .i64 3, .bool false, .int .i64 4, .string { data := #[] }, .int .i64 0, .bool false, .int .i64 6, .string { data := #[] }, .int .i64 0, .int .i64 0]) : Sl w 12 (.slice (some ⟨g, 0, none⟩) 3 3) three28.length (ents three28) :=
  ⟨_, 3, rfl, Nat.le_refl _, by decide, rfl, fun _ => ⟨_, rfl, h.lt, fun j u hj => by
    rw [Addr.add_lit, h.cell (0 + j), Nat.zero_add]; rw [← Array.getElem?_toList]; exact hj⟩⟩
set_option maxRecDepth 100000 in
set_option maxHeartbeats 8000000 in
theorem three28_any (w : World) : Calls Try.prog 10 #[] w (RetThree w) := by
  have C := Lib.hid (fun i lo hi lv X => lent28_any i lo hi lv X)
  go_enter Try.func10, Try.ntmps10
  go_wp2_with fail
  refine (C.out 1 1 5 2 _).mono ?_
  rintro _ w1 ⟨rfl, hb1⟩
  have H1 := Lib.hid hb1
  clear hb1
  go_wp2_with fail
  refine (C.out 2 3 9 7 _).mono ?_
  rintro _ w2 ⟨rfl, hb2⟩
  have H2 := Lib.hid (bst H1.out hb2)
  clear hb2
  go_wp2_with fail
  refine (C.out 3 4 6 3 _).mono ?_
  rintro _ w3 ⟨rfl, hb3⟩
  have H3 := Lib.hid (bst H2.out hb3)
  clear hb3
  go_wp2
  go_ret
  exact ⟨_, rfl, H3.out.size, Blk.new _ _ _, H3.out.alloc H3.out.size _⟩
set_option maxRecDepth 100000 in
set_option maxHeartbeats 8000000 in
theorem pickerExamples_walk (w : World) : Calls Try.prog 3 #[] w fun e w' => e = .returned (.bool true) ∧ Below w.heap.size w w' := by
  have HP := Lib.hid (fun (X : World) (g : Nat) (h : Blk X g 41 #[.int .i64 1, .int .i64 2, .int .i64 2, .bool false, .int .i64 1, .string { data := #[] }, .int .i64 0, .bool false, .int .i64 5, .string { data := #[] }, .int .i64 0, .int .i64 0, .int .i64 2, .int .i64 7, .int .i64 7, .bool false, .int .i64 3, .string { data := #[] }, .int .i64 0, .bool false, .int .i64 9, .string { data := #[] }, .int .i64 0, .int .i64 0, .int .i64 3, .int .i64 3, .int .i64 3, .bool false, .int .i64 4, .string { data := #[] }, .int .i64 0, .bool false, .int .i64 6, .string { data := #[] }, .int .i64 0, .int .i64 0]) => show Calls Try.prog 9 #[.int .i64 1, .slice (some ⟨g, 0, none⟩) 3 3, .int .i64 1, .int .i64 2] X (RetIds X [1, 3]) by
    rw [← three_peak]; exact peak_any 1 _ three28 1 2 X (three_sl h) three_small (by decide))
  go_enter Try.func3, Try.ntmps3
  go_wp2_with fail
  refine (three28_any _).mono ?_
  rintro _ w1 ⟨g, rfl, hg, hB, hb1⟩
  have HB1 := Lib.hid hb1
  have HG := Lib.hid hB
  clear hb1 hB
  go_wp2_with fail
  refine (HP.out w1 g HG.out).mono ?_
  rintro _ w2 ⟨v2, rfl, hb2, ho2, _⟩
  have H2 := Lib.hid (bst HB1.out hb2)
  have HS := Lib.hid (Sl.of_own ho2)
  obtain ⟨A2, c2, rfl, _, _⟩ := (Sl.of_own ho2).form
  clear hb2 ho2 HP
  go_wp2_with fail
  refine (same_any _ _ [1, 3] [1, 3] _ (HS.out.alloc _) (show Sl _ 1 _ 2 (ints [1, 3]) from blk_sl1 (Blk.new _ _ _) rfl (by decide))).mono ?_
  rintro _ w3 ⟨rfl, n, rfl⟩
  have H3 := Lib.hid (below_drewN (H2.out.alloc H2.out.size (.cells #[.int .i64 1, .int .i64 3] 3)) n)
  go_wp2
  go_ret
  exact ⟨rfl, H3.out⟩
set_option maxRecDepth 100000 in
set_option maxHeartbeats 8000000 in
theorem awake28_any (w : World) : Calls Try.prog 15 #[] w (RetBe w true) := by
  have HP := Lib.hid (fun (X : World) (g : Nat) (h : Blk X g 41 #[.int .i64 1, .int .i64 2, .int .i64 2, .bool false, .int .i64 1, .string { data := #[] }, .int .i64 0, .bool false, .int .i64 5, .string { data := #[] }, .int .i64 0, .int .i64 0, .int .i64 2, .int .i64 7, .int .i64 7, .bool false, .int .i64 3, .string { data := #[] }, .int .i64 0, .bool false, .int .i64 9, .string { data := #[] }, .int .i64 0, .int .i64 0, .int .i64 3, .int .i64 3, .int .i64 3, .bool false, .int .i64 4, .string { data := #[] }, .int .i64 0, .bool false, .int .i64 6, .string { data := #[] }, .int .i64 0, .int .i64 0]) => show Calls Try.prog 23 #[.int .i64 1, .slice (some ⟨g, 0, none⟩) 3 3, .int .i64 1, .int .i64 2, .int .i64 5] X (RetIds X [1, 3]) by
    rw [← three_pick]; exact pick28_any 1 _ three28 1 2 5 X (three_sl h) three_small (by decide) three_live)
  have HQ := Lib.hid (fun (X : World) (g : Nat) (h : Blk X g 41 #[.int .i64 1, .int .i64 2, .int .i64 2, .bool false, .int .i64 1, .string { data := #[] }, .int .i64 0, .bool false, .int .i64 5, .string { data := #[] }, .int .i64 0, .int .i64 0, .int .i64 2, .int .i64 7, .int .i64 7, .bool false, .int .i64 3, .string { data := #[] }, .int .i64 0, .bool false, .int .i64 9, .string { data := #[] }, .int .i64 0, .int .i64 0, .int .i64 3, .int .i64 3, .int .i64 3, .bool false, .int .i64 4, .string { data := #[] }, .int .i64 0, .bool false, .int .i64 6, .string { data := #[] }, .int .i64 0, .int .i64 0]) => show Calls Try.prog 20 #[.int .i64 1, .slice (some ⟨g, 0, none⟩) 3 3, .int .i64 5] X (fun e w' => e = .returned (.tuple #[.int .i64 1, .int .i64 3, .bool true]) ∧ Below X.heap.size X w') by
    refine (ppair_any 1 _ three28 5 X (three_sl h) three_small (by decide) three_live).mono ?_
    rintro e w' ⟨rfl, hb⟩
    refine ⟨?_, hb⟩
    have h3 := three_pair
    cases hp : pairP 1 three28 5 with
    | none => rw [hp] at h3; simp at h3
    | some s =>
      rw [hp] at h3
      simp only [Option.map_some, Option.some.injEq, Prod.mk.injEq] at h3
      show Ending.returned (.tuple #[.int .i64 s.1.id, .int .i64 s.2.id, .bool true]) = _
      rw [h3.1, h3.2])
  have HO := Lib.hid (fun (X : World) => show Calls Try.prog 43 #[.int .i64 1, .agg #[.int .i64 1, .int .i64 2, .int .i64 2, .bool false, .int .i64 1, .string { data := #[] }, .int .i64 0, .bool false, .int .i64 5, .string { data := #[] }, .int .i64 0, .int .i64 0], .agg #[.int .i64 2, .int .i64 7, .int .i64 7, .bool false, .int .i64 3, .string { data := #[] }, .int .i64 0, .bool false, .int .i64 9, .string { data := #[] }, .int .i64 0, .int .i64 0]] X (RetBe X true) from pover_any 1 (ent28 1 1 5 2) (ent28 2 3 9 7) X three_over)
  have H3 := Lib.hid (fun X => three28_any X)
  go_enter Try.func15, Try.ntmps15
  go_wp2_with fail
  refine (H3.out _).mono ?_
  rintro _ w1 ⟨g, rfl, hg, hB, hb1⟩
  have HB1 := Lib.hid hb1
  have HG := Lib.hid hB
  clear hb1 hB hg
  go_wp2_with fail
  refine (HQ.out w1 g HG.out).mono ?_
  rintro _ w2 ⟨rfl, hb2⟩
  have HB2 := Lib.hid (bst HB1.out hb2)
  clear hb2 HQ
  go_upto_region 2 with (fail)
  refine wp_region_inv (by kernel_rfl) (by kernel_rfl) (fun L a w' => ∃ u10 u11 u12 u13 u14 u15 u16 u17 u18 u19 u20 u21 u22 u23 u24 u25 u26 u27 u28 u29 u30 u31 u32 u33 u0 : Value, a = ⟨#[u0, .int .i64 1, .int .i64 3, .bool true, .tuple #[.int .i64 1, .int .i64 3, .bool true], .slice (some ⟨g, 0, none⟩) 3 3, .tuple #[.int .i64 1, .int .i64 3, .bool true], .int .i64 1, .int .i64 3, .bool true, u10, u11, u12, u13, u14, u15, u16, u17, u18, u19, u20, u21, u22, u23, u24, u25, u26, u27, u28, u29, u30, u31, u32, u33], []⟩ ∧
      Below w2.heap.size w2 w' ∧ (L 0 = true → ∃ g, u10 = .slice (some ⟨g, 0, none⟩) 3 3 ∧ Blk w' g 41 #[.int .i64 1, .int .i64 2, .int .i64 2, .bool false, .int .i64 1, .string { data := #[] }, .int .i64 0, .bool false, .int .i64 5, .string { data := #[] }, .int .i64 0, .int .i64 0, .int .i64 2, .int .i64 7, .int .i64 7, .bool false, .int .i64 3, .string { data := #[] }, .int .i64 0, .bool false, .int .i64 9, .string { data := #[] }, .int .i64 0, .int .i64 0, .int .i64 3, .int .i64 3, .int .i64 3, .bool false, .int .i64 4, .string { data := #[] }, .int .i64 0, .bool false, .int .i64 6, .string { data := #[] }, .int .i64 0, .int .i64 0]) ∧ (L 1 = true → w'.ownsRow w2.heap.size 3 1 u11 2 (ints [1, 3])) ∧ GotRow (L 2) w2.heap.size u12 2 3 #[.int .i64 1, .int .i64 3] w' ∧ Got (L 3) u13 (.bool true) ∧ Got (L 4) u14 (.bool true) ∧ Got (L 5) u15 (.bool true) ∧ Got (L 6) u16 (.bool true) ∧ Got (L 7) u17 (.bool true) ∧ Got (L 8) u18 (.int .i64 1) ∧ Got (L 9) u19 (.bool true) ∧ Got (L 10) u20 (.bool true) ∧ Got (L 11) u21 (.bool true) ∧ Got (L 12) u22 (.int .i64 3) ∧ Got (L 13) u23 (.bool true) ∧ Got (L 14) u24 (.bool true) ∧ Got (L 15) u25 (.bool true) ∧ (L 16 = true → ∃ g, u26 = .slice (some ⟨g, 0, none⟩) 3 3 ∧ Blk w' g 41 #[.int .i64 1, .int .i64 2, .int .i64 2, .bool false, .int .i64 1, .string { data := #[] }, .int .i64 0, .bool false, .int .i64 5, .string { data := #[] }, .int .i64 0, .int .i64 0, .int .i64 2, .int .i64 7, .int .i64 7, .bool false, .int .i64 3, .string { data := #[] }, .int .i64 0, .bool false, .int .i64 9, .string { data := #[] }, .int .i64 0, .int .i64 0, .int .i64 3, .int .i64 3, .int .i64 3, .bool false, .int .i64 4, .string { data := #[] }, .int .i64 0, .bool false, .int .i64 6, .string { data := #[] }, .int .i64 0, .int .i64 0]) ∧ (L 17 = true → ∃ g, u27 = .pointer (some ⟨g, 0, none⟩) ∧ Blk w' g 41 #[.int .i64 1, .int .i64 2, .int .i64 2, .bool false, .int .i64 1, .string { data := #[] }, .int .i64 0, .bool false, .int .i64 5, .string { data := #[] }, .int .i64 0, .int .i64 0, .int .i64 2, .int .i64 7, .int .i64 7, .bool false, .int .i64 3, .string { data := #[] }, .int .i64 0, .bool false, .int .i64 9, .string { data := #[] }, .int .i64 0, .int .i64 0, .int .i64 3, .int .i64 3, .int .i64 3, .bool false, .int .i64 4, .string { data := #[] }, .int .i64 0, .bool false, .int .i64 6, .string { data := #[] }, .int .i64 0, .int .i64 0]) ∧ Got (L 18) u28 (.agg #[.int .i64 1, .int .i64 2, .int .i64 2, .bool false, .int .i64 1, .string { data := #[] }, .int .i64 0, .bool false, .int .i64 5, .string { data := #[] }, .int .i64 0, .int .i64 0]) ∧ (L 19 = true → ∃ g, u29 = .slice (some ⟨g, 0, none⟩) 3 3 ∧ Blk w' g 41 #[.int .i64 1, .int .i64 2, .int .i64 2, .bool false, .int .i64 1, .string { data := #[] }, .int .i64 0, .bool false, .int .i64 5, .string { data := #[] }, .int .i64 0, .int .i64 0, .int .i64 2, .int .i64 7, .int .i64 7, .bool false, .int .i64 3, .string { data := #[] }, .int .i64 0, .bool false, .int .i64 9, .string { data := #[] }, .int .i64 0, .int .i64 0, .int .i64 3, .int .i64 3, .int .i64 3, .bool false, .int .i64 4, .string { data := #[] }, .int .i64 0, .bool false, .int .i64 6, .string { data := #[] }, .int .i64 0, .int .i64 0]) ∧ (L 20 = true → ∃ g, u30 = .pointer (some ⟨g, 12, none⟩) ∧ Blk w' g 41 #[.int .i64 1, .int .i64 2, .int .i64 2, .bool false, .int .i64 1, .string { data := #[] }, .int .i64 0, .bool false, .int .i64 5, .string { data := #[] }, .int .i64 0, .int .i64 0, .int .i64 2, .int .i64 7, .int .i64 7, .bool false, .int .i64 3, .string { data := #[] }, .int .i64 0, .bool false, .int .i64 9, .string { data := #[] }, .int .i64 0, .int .i64 0, .int .i64 3, .int .i64 3, .int .i64 3, .bool false, .int .i64 4, .string { data := #[] }, .int .i64 0, .bool false, .int .i64 6, .string { data := #[] }, .int .i64 0, .int .i64 0]) ∧ Got (L 21) u31 (.agg #[.int .i64 2, .int .i64 7, .int .i64 7, .bool false, .int .i64 3, .string { data := #[] }, .int .i64 0, .bool false, .int .i64 9, .string { data := #[] }, .int .i64 0, .int .i64 0]) ∧ Got (L 22) u32 (.bool true) ∧ Got (L 23) u33 (.bool true) ∧ Got (L 24) u0 (.bool true))
    ?_ ?_ ?_
  · exact ⟨_, _, _, _, _, _, _, _, _, _, _, _, _, _, _, _, _, _, _, _, _, _, _, _, _, rfl, (Below.refl _ _).drew, nofun, nofun, nofun, nofun, nofun, nofun, nofun, nofun, nofun, nofun, nofun, nofun, nofun, nofun, nofun, nofun, nofun, nofun, nofun, nofun, nofun, nofun, nofun, nofun, nofun⟩
  · refine ⟨?_, ?_, ?_, ?_, ?_, ?_, ?_, ?_, ?_, ?_, ?_, ?_, ?_, ?_, ?_, ?_, ?_, ?_, ?_, ?_, ?_, ?_, ?_, ?_, ?_, trivial⟩
    · intro L a w' hI hl hd K hK
      refine hI.elim fun u10 hI => hI.elim fun u11 hI => hI.elim fun u12 hI => hI.elim fun u13 hI => hI.elim fun u14 hI => hI.elim fun u15 hI => hI.elim fun u16 hI => hI.elim fun u17 hI => hI.elim fun u18 hI => hI.elim fun u19 hI => hI.elim fun u20 hI => hI.elim fun u21 hI => hI.elim fun u22 hI => hI.elim fun u23 hI => hI.elim fun u24 hI => hI.elim fun u25 hI => hI.elim fun u26 hI => hI.elim fun u27 hI => hI.elim fun u28 hI => hI.elim fun u29 hI => hI.elim fun u30 hI => hI.elim fun u31 hI => hI.elim fun u32 hI => hI.elim fun u33 hI => hI.elim fun u0 hI => ?_
      have ha := hI.1
      subst ha
      have hb := hI.2.1
      have g0 := hI.2.2.1
      have g1 := hI.2.2.2.1
      have g2 := hI.2.2.2.2.1
      have g3 := hI.2.2.2.2.2.1
      have g4 := hI.2.2.2.2.2.2.1
      have g5 := hI.2.2.2.2.2.2.2.1
      have g6 := hI.2.2.2.2.2.2.2.2.1
      have g7 := hI.2.2.2.2.2.2.2.2.2.1
      have g8 := hI.2.2.2.2.2.2.2.2.2.2.1
      have g9 := hI.2.2.2.2.2.2.2.2.2.2.2.1
      have g10 := hI.2.2.2.2.2.2.2.2.2.2.2.2.1
      have g11 := hI.2.2.2.2.2.2.2.2.2.2.2.2.2.1
      have g12 := hI.2.2.2.2.2.2.2.2.2.2.2.2.2.2.1
      have g13 := hI.2.2.2.2.2.2.2.2.2.2.2.2.2.2.2.1
      have g14 := hI.2.2.2.2.2.2.2.2.2.2.2.2.2.2.2.2.1
      have g15 := hI.2.2.2.2.2.2.2.2.2.2.2.2.2.2.2.2.2.1
      have g16 := hI.2.2.2.2.2.2.2.2.2.2.2.2.2.2.2.2.2.2.1
      have g17 := hI.2.2.2.2.2.2.2.2.2.2.2.2.2.2.2.2.2.2.2.1
      have g18 := hI.2.2.2.2.2.2.2.2.2.2.2.2.2.2.2.2.2.2.2.2.1
      have g19 := hI.2.2.2.2.2.2.2.2.2.2.2.2.2.2.2.2.2.2.2.2.2.1
      have g20 := hI.2.2.2.2.2.2.2.2.2.2.2.2.2.2.2.2.2.2.2.2.2.2.1
      have g21 := hI.2.2.2.2.2.2.2.2.2.2.2.2.2.2.2.2.2.2.2.2.2.2.2.1
      have g22 := hI.2.2.2.2.2.2.2.2.2.2.2.2.2.2.2.2.2.2.2.2.2.2.2.2.1
      have g23 := hI.2.2.2.2.2.2.2.2.2.2.2.2.2.2.2.2.2.2.2.2.2.2.2.2.2.1
      have g24 := hI.2.2.2.2.2.2.2.2.2.2.2.2.2.2.2.2.2.2.2.2.2.2.2.2.2.2
      clear hI
      dsimp only at hK ⊢
      go_wp2_with fail
      refine (H3.out w').mono ?_
      rintro _ w4 ⟨q0, rfl, _, hq0, hb4⟩
      exact hK _ _ ⟨_, _, _, _, _, _, _, _, _, _, _, _, _, _, _, _, _, _, _, _, _, _, _, _, _, rfl, bst hb hb4, fun _ => ⟨q0, rfl, hq0⟩, fun h => own_below (g1 h) hb4, g2.below hb4, g3, g4, g5, g6, g7, g8, g9, g10, g11, g12, g13, g14, g15, fun h => by
            obtain ⟨q, q1, q2⟩ := g16 h
            exact ⟨q, q1, q2.below hb4 q2.lt⟩, fun h => by
            obtain ⟨q, q1, q2⟩ := g17 h
            exact ⟨q, q1, q2.below hb4 q2.lt⟩, g18, fun h => by
            obtain ⟨q, q1, q2⟩ := g19 h
            exact ⟨q, q1, q2.below hb4 q2.lt⟩, fun h => by
            obtain ⟨q, q1, q2⟩ := g20 h
            exact ⟨q, q1, q2.below hb4 q2.lt⟩, g21, g22, g23, g24⟩
    · intro L a w' hI hl hd K hK
      refine hI.elim fun u10 hI => hI.elim fun u11 hI => hI.elim fun u12 hI => hI.elim fun u13 hI => hI.elim fun u14 hI => hI.elim fun u15 hI => hI.elim fun u16 hI => hI.elim fun u17 hI => hI.elim fun u18 hI => hI.elim fun u19 hI => hI.elim fun u20 hI => hI.elim fun u21 hI => hI.elim fun u22 hI => hI.elim fun u23 hI => hI.elim fun u24 hI => hI.elim fun u25 hI => hI.elim fun u26 hI => hI.elim fun u27 hI => hI.elim fun u28 hI => hI.elim fun u29 hI => hI.elim fun u30 hI => hI.elim fun u31 hI => hI.elim fun u32 hI => hI.elim fun u33 hI => hI.elim fun u0 hI => ?_
      have ha := hI.1
      subst ha
      have hb := hI.2.1
      have g0 := hI.2.2.1
      have g1 := hI.2.2.2.1
      have g2 := hI.2.2.2.2.1
      have g3 := hI.2.2.2.2.2.1
      have g4 := hI.2.2.2.2.2.2.1
      have g5 := hI.2.2.2.2.2.2.2.1
      have g6 := hI.2.2.2.2.2.2.2.2.1
      have g7 := hI.2.2.2.2.2.2.2.2.2.1
      have g8 := hI.2.2.2.2.2.2.2.2.2.2.1
      have g9 := hI.2.2.2.2.2.2.2.2.2.2.2.1
      have g10 := hI.2.2.2.2.2.2.2.2.2.2.2.2.1
      have g11 := hI.2.2.2.2.2.2.2.2.2.2.2.2.2.1
      have g12 := hI.2.2.2.2.2.2.2.2.2.2.2.2.2.2.1
      have g13 := hI.2.2.2.2.2.2.2.2.2.2.2.2.2.2.2.1
      have g14 := hI.2.2.2.2.2.2.2.2.2.2.2.2.2.2.2.2.1
      have g15 := hI.2.2.2.2.2.2.2.2.2.2.2.2.2.2.2.2.2.1
      have g16 := hI.2.2.2.2.2.2.2.2.2.2.2.2.2.2.2.2.2.2.1
      have g17 := hI.2.2.2.2.2.2.2.2.2.2.2.2.2.2.2.2.2.2.2.1
      have g18 := hI.2.2.2.2.2.2.2.2.2.2.2.2.2.2.2.2.2.2.2.2.1
      have g19 := hI.2.2.2.2.2.2.2.2.2.2.2.2.2.2.2.2.2.2.2.2.2.1
      have g20 := hI.2.2.2.2.2.2.2.2.2.2.2.2.2.2.2.2.2.2.2.2.2.2.1
      have g21 := hI.2.2.2.2.2.2.2.2.2.2.2.2.2.2.2.2.2.2.2.2.2.2.2.1
      have g22 := hI.2.2.2.2.2.2.2.2.2.2.2.2.2.2.2.2.2.2.2.2.2.2.2.2.1
      have g23 := hI.2.2.2.2.2.2.2.2.2.2.2.2.2.2.2.2.2.2.2.2.2.2.2.2.2.1
      have g24 := hI.2.2.2.2.2.2.2.2.2.2.2.2.2.2.2.2.2.2.2.2.2.2.2.2.2.2
      clear hI
      simp [Region.binds] at hd
      dsimp only at hK ⊢
      obtain ⟨q0, e1, q2⟩ := g0 (by simp [hd])
      subst e1
      go_wp2_with fail
      refine (HP.out w' q0 q2).mono ?_
      rintro _ w4 ⟨v4, rfl, hb4, ho4, _⟩
      exact hK _ _ ⟨_, _, _, _, _, _, _, _, _, _, _, _, _, _, _, _, _, _, _, _, _, _, _, _, _, rfl, bst hb hb4, fun _ => ⟨q0, rfl, q2.below hb4 q2.lt⟩, fun _ => own_mono ho4 hb.size, g2.below hb4, g3, g4, g5, g6, g7, g8, g9, g10, g11, g12, g13, g14, g15, fun h => by
            obtain ⟨q, q1, q2⟩ := g16 h
            exact ⟨q, q1, q2.below hb4 q2.lt⟩, fun h => by
            obtain ⟨q, q1, q2⟩ := g17 h
            exact ⟨q, q1, q2.below hb4 q2.lt⟩, g18, fun h => by
            obtain ⟨q, q1, q2⟩ := g19 h
            exact ⟨q, q1, q2.below hb4 q2.lt⟩, fun h => by
            obtain ⟨q, q1, q2⟩ := g20 h
            exact ⟨q, q1, q2.below hb4 q2.lt⟩, g21, g22, g23, g24⟩
    · intro L a w' hI hl hd K hK
      refine hI.elim fun u10 hI => hI.elim fun u11 hI => hI.elim fun u12 hI => hI.elim fun u13 hI => hI.elim fun u14 hI => hI.elim fun u15 hI => hI.elim fun u16 hI => hI.elim fun u17 hI => hI.elim fun u18 hI => hI.elim fun u19 hI => hI.elim fun u20 hI => hI.elim fun u21 hI => hI.elim fun u22 hI => hI.elim fun u23 hI => hI.elim fun u24 hI => hI.elim fun u25 hI => hI.elim fun u26 hI => hI.elim fun u27 hI => hI.elim fun u28 hI => hI.elim fun u29 hI => hI.elim fun u30 hI => hI.elim fun u31 hI => hI.elim fun u32 hI => hI.elim fun u33 hI => hI.elim fun u0 hI => ?_
      have ha := hI.1
      subst ha
      have hb := hI.2.1
      have g0 := hI.2.2.1
      have g1 := hI.2.2.2.1
      have g2 := hI.2.2.2.2.1
      have g3 := hI.2.2.2.2.2.1
      have g4 := hI.2.2.2.2.2.2.1
      have g5 := hI.2.2.2.2.2.2.2.1
      have g6 := hI.2.2.2.2.2.2.2.2.1
      have g7 := hI.2.2.2.2.2.2.2.2.2.1
      have g8 := hI.2.2.2.2.2.2.2.2.2.2.1
      have g9 := hI.2.2.2.2.2.2.2.2.2.2.2.1
      have g10 := hI.2.2.2.2.2.2.2.2.2.2.2.2.1
      have g11 := hI.2.2.2.2.2.2.2.2.2.2.2.2.2.1
      have g12 := hI.2.2.2.2.2.2.2.2.2.2.2.2.2.2.1
      have g13 := hI.2.2.2.2.2.2.2.2.2.2.2.2.2.2.2.1
      have g14 := hI.2.2.2.2.2.2.2.2.2.2.2.2.2.2.2.2.1
      have g15 := hI.2.2.2.2.2.2.2.2.2.2.2.2.2.2.2.2.2.1
      have g16 := hI.2.2.2.2.2.2.2.2.2.2.2.2.2.2.2.2.2.2.1
      have g17 := hI.2.2.2.2.2.2.2.2.2.2.2.2.2.2.2.2.2.2.2.1
      have g18 := hI.2.2.2.2.2.2.2.2.2.2.2.2.2.2.2.2.2.2.2.2.1
      have g19 := hI.2.2.2.2.2.2.2.2.2.2.2.2.2.2.2.2.2.2.2.2.2.1
      have g20 := hI.2.2.2.2.2.2.2.2.2.2.2.2.2.2.2.2.2.2.2.2.2.2.1
      have g21 := hI.2.2.2.2.2.2.2.2.2.2.2.2.2.2.2.2.2.2.2.2.2.2.2.1
      have g22 := hI.2.2.2.2.2.2.2.2.2.2.2.2.2.2.2.2.2.2.2.2.2.2.2.2.1
      have g23 := hI.2.2.2.2.2.2.2.2.2.2.2.2.2.2.2.2.2.2.2.2.2.2.2.2.2.1
      have g24 := hI.2.2.2.2.2.2.2.2.2.2.2.2.2.2.2.2.2.2.2.2.2.2.2.2.2.2
      clear hI
      dsimp only at hK ⊢
      go_simp
      exact hK _ _ ⟨_, _, _, _, _, _, _, _, _, _, _, _, _, _, _, _, _, _, _, _, _, _, _, _, _, rfl, hb.alloc hb.size _, fun h => by
            obtain ⟨q, q1, q2⟩ := g0 h
            exact ⟨q, q1, q2.below (below_new _ _) q2.lt⟩, fun h => own_below (g1 h) (below_new _ _), fun _ => ⟨_, rfl, hb.size, Blk.new _ _ _⟩, g3, g4, g5, g6, g7, g8, g9, g10, g11, g12, g13, g14, g15, fun h => by
            obtain ⟨q, q1, q2⟩ := g16 h
            exact ⟨q, q1, q2.below (below_new _ _) q2.lt⟩, fun h => by
            obtain ⟨q, q1, q2⟩ := g17 h
            exact ⟨q, q1, q2.below (below_new _ _) q2.lt⟩, g18, fun h => by
            obtain ⟨q, q1, q2⟩ := g19 h
            exact ⟨q, q1, q2.below (below_new _ _) q2.lt⟩, fun h => by
            obtain ⟨q, q1, q2⟩ := g20 h
            exact ⟨q, q1, q2.below (below_new _ _) q2.lt⟩, g21, g22, g23, g24⟩
    · intro L a w' hI hl hd K hK
      refine hI.elim fun u10 hI => hI.elim fun u11 hI => hI.elim fun u12 hI => hI.elim fun u13 hI => hI.elim fun u14 hI => hI.elim fun u15 hI => hI.elim fun u16 hI => hI.elim fun u17 hI => hI.elim fun u18 hI => hI.elim fun u19 hI => hI.elim fun u20 hI => hI.elim fun u21 hI => hI.elim fun u22 hI => hI.elim fun u23 hI => hI.elim fun u24 hI => hI.elim fun u25 hI => hI.elim fun u26 hI => hI.elim fun u27 hI => hI.elim fun u28 hI => hI.elim fun u29 hI => hI.elim fun u30 hI => hI.elim fun u31 hI => hI.elim fun u32 hI => hI.elim fun u33 hI => hI.elim fun u0 hI => ?_
      have ha := hI.1
      subst ha
      have hb := hI.2.1
      have g0 := hI.2.2.1
      have g1 := hI.2.2.2.1
      have g2 := hI.2.2.2.2.1
      have g3 := hI.2.2.2.2.2.1
      have g4 := hI.2.2.2.2.2.2.1
      have g5 := hI.2.2.2.2.2.2.2.1
      have g6 := hI.2.2.2.2.2.2.2.2.1
      have g7 := hI.2.2.2.2.2.2.2.2.2.1
      have g8 := hI.2.2.2.2.2.2.2.2.2.2.1
      have g9 := hI.2.2.2.2.2.2.2.2.2.2.2.1
      have g10 := hI.2.2.2.2.2.2.2.2.2.2.2.2.1
      have g11 := hI.2.2.2.2.2.2.2.2.2.2.2.2.2.1
      have g12 := hI.2.2.2.2.2.2.2.2.2.2.2.2.2.2.1
      have g13 := hI.2.2.2.2.2.2.2.2.2.2.2.2.2.2.2.1
      have g14 := hI.2.2.2.2.2.2.2.2.2.2.2.2.2.2.2.2.1
      have g15 := hI.2.2.2.2.2.2.2.2.2.2.2.2.2.2.2.2.2.1
      have g16 := hI.2.2.2.2.2.2.2.2.2.2.2.2.2.2.2.2.2.2.1
      have g17 := hI.2.2.2.2.2.2.2.2.2.2.2.2.2.2.2.2.2.2.2.1
      have g18 := hI.2.2.2.2.2.2.2.2.2.2.2.2.2.2.2.2.2.2.2.2.1
      have g19 := hI.2.2.2.2.2.2.2.2.2.2.2.2.2.2.2.2.2.2.2.2.2.1
      have g20 := hI.2.2.2.2.2.2.2.2.2.2.2.2.2.2.2.2.2.2.2.2.2.2.1
      have g21 := hI.2.2.2.2.2.2.2.2.2.2.2.2.2.2.2.2.2.2.2.2.2.2.2.1
      have g22 := hI.2.2.2.2.2.2.2.2.2.2.2.2.2.2.2.2.2.2.2.2.2.2.2.2.1
      have g23 := hI.2.2.2.2.2.2.2.2.2.2.2.2.2.2.2.2.2.2.2.2.2.2.2.2.2.1
      have g24 := hI.2.2.2.2.2.2.2.2.2.2.2.2.2.2.2.2.2.2.2.2.2.2.2.2.2.2
      clear hI
      simp [Region.binds] at hd
      dsimp only at hK ⊢
      obtain ⟨q0, e1, q2, q3⟩ := g2 (by simp [hd])
      subst e1
      have o1 := g1 (by simp [hd])
      obtain ⟨A1, c1, rfl, _, _⟩ := (Sl.of_own o1).form
      go_wp2_with fail
      refine (same_any _ _ [1, 3] [1, 3] w' (Sl.of_own o1) (show Sl _ 1 _ 2 (ints [1, 3]) from blk_sl1 q3 rfl (by decide))).mono ?_
      rintro _ w4 ⟨rfl, n4, rfl⟩
      exact hK _ _ ⟨_, _, _, _, _, _, _, _, _, _, _, _, _, _, _, _, _, _, _, _, _, _, _, _, _, rfl, below_drewN hb n4, fun h => by
            obtain ⟨q, q1, q2⟩ := g0 h
            exact ⟨q, q1, q2.below (below_drewN (Below.refl w'.heap.size w') n4) q2.lt⟩, fun _ => own_below o1 (below_drewN (Below.refl w'.heap.size w') n4), fun _ => ⟨q0, rfl, q2, q3.drewN n4⟩, fun _ => rfl, g4, g5, g6, g7, g8, g9, g10, g11, g12, g13, g14, g15, fun h => by
            obtain ⟨q, q1, q2⟩ := g16 h
            exact ⟨q, q1, q2.below (below_drewN (Below.refl w'.heap.size w') n4) q2.lt⟩, fun h => by
            obtain ⟨q, q1, q2⟩ := g17 h
            exact ⟨q, q1, q2.below (below_drewN (Below.refl w'.heap.size w') n4) q2.lt⟩, g18, fun h => by
            obtain ⟨q, q1, q2⟩ := g19 h
            exact ⟨q, q1, q2.below (below_drewN (Below.refl w'.heap.size w') n4) q2.lt⟩, fun h => by
            obtain ⟨q, q1, q2⟩ := g20 h
            exact ⟨q, q1, q2.below (below_drewN (Below.refl w'.heap.size w') n4) q2.lt⟩, g21, g22, g23, g24⟩
    · intro L a w' hI hl hd K hK
      refine hI.elim fun u10 hI => hI.elim fun u11 hI => hI.elim fun u12 hI => hI.elim fun u13 hI => hI.elim fun u14 hI => hI.elim fun u15 hI => hI.elim fun u16 hI => hI.elim fun u17 hI => hI.elim fun u18 hI => hI.elim fun u19 hI => hI.elim fun u20 hI => hI.elim fun u21 hI => hI.elim fun u22 hI => hI.elim fun u23 hI => hI.elim fun u24 hI => hI.elim fun u25 hI => hI.elim fun u26 hI => hI.elim fun u27 hI => hI.elim fun u28 hI => hI.elim fun u29 hI => hI.elim fun u30 hI => hI.elim fun u31 hI => hI.elim fun u32 hI => hI.elim fun u33 hI => hI.elim fun u0 hI => ?_
      have ha := hI.1
      subst ha
      have hb := hI.2.1
      have g0 := hI.2.2.1
      have g1 := hI.2.2.2.1
      have g2 := hI.2.2.2.2.1
      have g3 := hI.2.2.2.2.2.1
      have g4 := hI.2.2.2.2.2.2.1
      have g5 := hI.2.2.2.2.2.2.2.1
      have g6 := hI.2.2.2.2.2.2.2.2.1
      have g7 := hI.2.2.2.2.2.2.2.2.2.1
      have g8 := hI.2.2.2.2.2.2.2.2.2.2.1
      have g9 := hI.2.2.2.2.2.2.2.2.2.2.2.1
      have g10 := hI.2.2.2.2.2.2.2.2.2.2.2.2.1
      have g11 := hI.2.2.2.2.2.2.2.2.2.2.2.2.2.1
      have g12 := hI.2.2.2.2.2.2.2.2.2.2.2.2.2.2.1
      have g13 := hI.2.2.2.2.2.2.2.2.2.2.2.2.2.2.2.1
      have g14 := hI.2.2.2.2.2.2.2.2.2.2.2.2.2.2.2.2.1
      have g15 := hI.2.2.2.2.2.2.2.2.2.2.2.2.2.2.2.2.2.1
      have g16 := hI.2.2.2.2.2.2.2.2.2.2.2.2.2.2.2.2.2.2.1
      have g17 := hI.2.2.2.2.2.2.2.2.2.2.2.2.2.2.2.2.2.2.2.1
      have g18 := hI.2.2.2.2.2.2.2.2.2.2.2.2.2.2.2.2.2.2.2.2.1
      have g19 := hI.2.2.2.2.2.2.2.2.2.2.2.2.2.2.2.2.2.2.2.2.2.1
      have g20 := hI.2.2.2.2.2.2.2.2.2.2.2.2.2.2.2.2.2.2.2.2.2.2.1
      have g21 := hI.2.2.2.2.2.2.2.2.2.2.2.2.2.2.2.2.2.2.2.2.2.2.2.1
      have g22 := hI.2.2.2.2.2.2.2.2.2.2.2.2.2.2.2.2.2.2.2.2.2.2.2.2.1
      have g23 := hI.2.2.2.2.2.2.2.2.2.2.2.2.2.2.2.2.2.2.2.2.2.2.2.2.2.1
      have g24 := hI.2.2.2.2.2.2.2.2.2.2.2.2.2.2.2.2.2.2.2.2.2.2.2.2.2.2
      clear hI
      simp [Region.binds] at hd
      dsimp only at hK ⊢
      have e3 := g3 (by simp [hd])
      subst e3
      go_simp
      exact hK _ _ ⟨_, _, _, _, _, _, _, _, _, _, _, _, _, _, _, _, _, _, _, _, _, _, _, _, _, rfl, hb, g0, g1, g2, g3, fun _ => rfl, g5, g6, g7, g8, g9, g10, g11, g12, g13, g14, g15, g16, g17, g18, g19, g20, g21, g22, g23, g24⟩
    · intro L a w' hI hl hd K hK
      refine hI.elim fun u10 hI => hI.elim fun u11 hI => hI.elim fun u12 hI => hI.elim fun u13 hI => hI.elim fun u14 hI => hI.elim fun u15 hI => hI.elim fun u16 hI => hI.elim fun u17 hI => hI.elim fun u18 hI => hI.elim fun u19 hI => hI.elim fun u20 hI => hI.elim fun u21 hI => hI.elim fun u22 hI => hI.elim fun u23 hI => hI.elim fun u24 hI => hI.elim fun u25 hI => hI.elim fun u26 hI => hI.elim fun u27 hI => hI.elim fun u28 hI => hI.elim fun u29 hI => hI.elim fun u30 hI => hI.elim fun u31 hI => hI.elim fun u32 hI => hI.elim fun u33 hI => hI.elim fun u0 hI => ?_
      have ha := hI.1
      subst ha
      have hb := hI.2.1
      have g0 := hI.2.2.1
      have g1 := hI.2.2.2.1
      have g2 := hI.2.2.2.2.1
      have g3 := hI.2.2.2.2.2.1
      have g4 := hI.2.2.2.2.2.2.1
      have g5 := hI.2.2.2.2.2.2.2.1
      have g6 := hI.2.2.2.2.2.2.2.2.1
      have g7 := hI.2.2.2.2.2.2.2.2.2.1
      have g8 := hI.2.2.2.2.2.2.2.2.2.2.1
      have g9 := hI.2.2.2.2.2.2.2.2.2.2.2.1
      have g10 := hI.2.2.2.2.2.2.2.2.2.2.2.2.1
      have g11 := hI.2.2.2.2.2.2.2.2.2.2.2.2.2.1
      have g12 := hI.2.2.2.2.2.2.2.2.2.2.2.2.2.2.1
      have g13 := hI.2.2.2.2.2.2.2.2.2.2.2.2.2.2.2.1
      have g14 := hI.2.2.2.2.2.2.2.2.2.2.2.2.2.2.2.2.1
      have g15 := hI.2.2.2.2.2.2.2.2.2.2.2.2.2.2.2.2.2.1
      have g16 := hI.2.2.2.2.2.2.2.2.2.2.2.2.2.2.2.2.2.2.1
      have g17 := hI.2.2.2.2.2.2.2.2.2.2.2.2.2.2.2.2.2.2.2.1
      have g18 := hI.2.2.2.2.2.2.2.2.2.2.2.2.2.2.2.2.2.2.2.2.1
      have g19 := hI.2.2.2.2.2.2.2.2.2.2.2.2.2.2.2.2.2.2.2.2.2.1
      have g20 := hI.2.2.2.2.2.2.2.2.2.2.2.2.2.2.2.2.2.2.2.2.2.2.1
      have g21 := hI.2.2.2.2.2.2.2.2.2.2.2.2.2.2.2.2.2.2.2.2.2.2.2.1
      have g22 := hI.2.2.2.2.2.2.2.2.2.2.2.2.2.2.2.2.2.2.2.2.2.2.2.2.1
      have g23 := hI.2.2.2.2.2.2.2.2.2.2.2.2.2.2.2.2.2.2.2.2.2.2.2.2.2.1
      have g24 := hI.2.2.2.2.2.2.2.2.2.2.2.2.2.2.2.2.2.2.2.2.2.2.2.2.2.2
      clear hI
      simp [Region.binds] at hd
      dsimp only at hK ⊢
      have e4 := g4 (by simp [hd])
      subst e4
      go_simp
      exact hK _ _ ⟨_, _, _, _, _, _, _, _, _, _, _, _, _, _, _, _, _, _, _, _, _, _, _, _, _, rfl, hb, g0, g1, g2, g3, g4, fun _ => rfl, g6, g7, g8, g9, g10, g11, g12, g13, g14, g15, g16, g17, g18, g19, g20, g21, g22, g23, g24⟩
    · intro L a w' hI hl hd K hK
      refine hI.elim fun u10 hI => hI.elim fun u11 hI => hI.elim fun u12 hI => hI.elim fun u13 hI => hI.elim fun u14 hI => hI.elim fun u15 hI => hI.elim fun u16 hI => hI.elim fun u17 hI => hI.elim fun u18 hI => hI.elim fun u19 hI => hI.elim fun u20 hI => hI.elim fun u21 hI => hI.elim fun u22 hI => hI.elim fun u23 hI => hI.elim fun u24 hI => hI.elim fun u25 hI => hI.elim fun u26 hI => hI.elim fun u27 hI => hI.elim fun u28 hI => hI.elim fun u29 hI => hI.elim fun u30 hI => hI.elim fun u31 hI => hI.elim fun u32 hI => hI.elim fun u33 hI => hI.elim fun u0 hI => ?_
      have ha := hI.1
      subst ha
      have hb := hI.2.1
      have g0 := hI.2.2.1
      have g1 := hI.2.2.2.1
      have g2 := hI.2.2.2.2.1
      have g3 := hI.2.2.2.2.2.1
      have g4 := hI.2.2.2.2.2.2.1
      have g5 := hI.2.2.2.2.2.2.2.1
      have g6 := hI.2.2.2.2.2.2.2.2.1
      have g7 := hI.2.2.2.2.2.2.2.2.2.1
      have g8 := hI.2.2.2.2.2.2.2.2.2.2.1
      have g9 := hI.2.2.2.2.2.2.2.2.2.2.2.1
      have g10 := hI.2.2.2.2.2.2.2.2.2.2.2.2.1
      have g11 := hI.2.2.2.2.2.2.2.2.2.2.2.2.2.1
      have g12 := hI.2.2.2.2.2.2.2.2.2.2.2.2.2.2.1
      have g13 := hI.2.2.2.2.2.2.2.2.2.2.2.2.2.2.2.1
      have g14 := hI.2.2.2.2.2.2.2.2.2.2.2.2.2.2.2.2.1
      have g15 := hI.2.2.2.2.2.2.2.2.2.2.2.2.2.2.2.2.2.1
      have g16 := hI.2.2.2.2.2.2.2.2.2.2.2.2.2.2.2.2.2.2.1
      have g17 := hI.2.2.2.2.2.2.2.2.2.2.2.2.2.2.2.2.2.2.2.1
      have g18 := hI.2.2.2.2.2.2.2.2.2.2.2.2.2.2.2.2.2.2.2.2.1
      have g19 := hI.2.2.2.2.2.2.2.2.2.2.2.2.2.2.2.2.2.2.2.2.2.1
      have g20 := hI.2.2.2.2.2.2.2.2.2.2.2.2.2.2.2.2.2.2.2.2.2.2.1
      have g21 := hI.2.2.2.2.2.2.2.2.2.2.2.2.2.2.2.2.2.2.2.2.2.2.2.1
      have g22 := hI.2.2.2.2.2.2.2.2.2.2.2.2.2.2.2.2.2.2.2.2.2.2.2.2.1
      have g23 := hI.2.2.2.2.2.2.2.2.2.2.2.2.2.2.2.2.2.2.2.2.2.2.2.2.2.1
      have g24 := hI.2.2.2.2.2.2.2.2.2.2.2.2.2.2.2.2.2.2.2.2.2.2.2.2.2.2
      clear hI
      simp [Region.binds] at hd
      dsimp only at hK ⊢
      have e4 := g4 (by simp [hd])
      subst e4
      have e5 := g5 (by simp [hd])
      subst e5
      go_simp
      exact hK _ _ ⟨_, _, _, _, _, _, _, _, _, _, _, _, _, _, _, _, _, _, _, _, _, _, _, _, _, rfl, hb, g0, g1, g2, g3, g4, g5, fun _ => rfl, g7, g8, g9, g10, g11, g12, g13, g14, g15, g16, g17, g18, g19, g20, g21, g22, g23, g24⟩
    · intro L a w' hI hl hd K hK
      refine hI.elim fun u10 hI => hI.elim fun u11 hI => hI.elim fun u12 hI => hI.elim fun u13 hI => hI.elim fun u14 hI => hI.elim fun u15 hI => hI.elim fun u16 hI => hI.elim fun u17 hI => hI.elim fun u18 hI => hI.elim fun u19 hI => hI.elim fun u20 hI => hI.elim fun u21 hI => hI.elim fun u22 hI => hI.elim fun u23 hI => hI.elim fun u24 hI => hI.elim fun u25 hI => hI.elim fun u26 hI => hI.elim fun u27 hI => hI.elim fun u28 hI => hI.elim fun u29 hI => hI.elim fun u30 hI => hI.elim fun u31 hI => hI.elim fun u32 hI => hI.elim fun u33 hI => hI.elim fun u0 hI => ?_
      have ha := hI.1
      subst ha
      have hb := hI.2.1
      have g0 := hI.2.2.1
      have g1 := hI.2.2.2.1
      have g2 := hI.2.2.2.2.1
      have g3 := hI.2.2.2.2.2.1
      have g4 := hI.2.2.2.2.2.2.1
      have g5 := hI.2.2.2.2.2.2.2.1
      have g6 := hI.2.2.2.2.2.2.2.2.1
      have g7 := hI.2.2.2.2.2.2.2.2.2.1
      have g8 := hI.2.2.2.2.2.2.2.2.2.2.1
      have g9 := hI.2.2.2.2.2.2.2.2.2.2.2.1
      have g10 := hI.2.2.2.2.2.2.2.2.2.2.2.2.1
      have g11 := hI.2.2.2.2.2.2.2.2.2.2.2.2.2.1
      have g12 := hI.2.2.2.2.2.2.2.2.2.2.2.2.2.2.1
      have g13 := hI.2.2.2.2.2.2.2.2.2.2.2.2.2.2.2.1
      have g14 := hI.2.2.2.2.2.2.2.2.2.2.2.2.2.2.2.2.1
      have g15 := hI.2.2.2.2.2.2.2.2.2.2.2.2.2.2.2.2.2.1
      have g16 := hI.2.2.2.2.2.2.2.2.2.2.2.2.2.2.2.2.2.2.1
      have g17 := hI.2.2.2.2.2.2.2.2.2.2.2.2.2.2.2.2.2.2.2.1
      have g18 := hI.2.2.2.2.2.2.2.2.2.2.2.2.2.2.2.2.2.2.2.2.1
      have g19 := hI.2.2.2.2.2.2.2.2.2.2.2.2.2.2.2.2.2.2.2.2.2.1
      have g20 := hI.2.2.2.2.2.2.2.2.2.2.2.2.2.2.2.2.2.2.2.2.2.2.1
      have g21 := hI.2.2.2.2.2.2.2.2.2.2.2.2.2.2.2.2.2.2.2.2.2.2.2.1
      have g22 := hI.2.2.2.2.2.2.2.2.2.2.2.2.2.2.2.2.2.2.2.2.2.2.2.2.1
      have g23 := hI.2.2.2.2.2.2.2.2.2.2.2.2.2.2.2.2.2.2.2.2.2.2.2.2.2.1
      have g24 := hI.2.2.2.2.2.2.2.2.2.2.2.2.2.2.2.2.2.2.2.2.2.2.2.2.2.2
      clear hI
      simp [Region.binds] at hd
      dsimp only at hK ⊢
      have e6 := g6 (by simp [hd])
      subst e6
      go_simp
      exact hK _ _ ⟨_, _, _, _, _, _, _, _, _, _, _, _, _, _, _, _, _, _, _, _, _, _, _, _, _, rfl, hb, g0, g1, g2, g3, g4, g5, g6, fun _ => rfl, g8, g9, g10, g11, g12, g13, g14, g15, g16, g17, g18, g19, g20, g21, g22, g23, g24⟩
    · intro L a w' hI hl hd K hK
      refine hI.elim fun u10 hI => hI.elim fun u11 hI => hI.elim fun u12 hI => hI.elim fun u13 hI => hI.elim fun u14 hI => hI.elim fun u15 hI => hI.elim fun u16 hI => hI.elim fun u17 hI => hI.elim fun u18 hI => hI.elim fun u19 hI => hI.elim fun u20 hI => hI.elim fun u21 hI => hI.elim fun u22 hI => hI.elim fun u23 hI => hI.elim fun u24 hI => hI.elim fun u25 hI => hI.elim fun u26 hI => hI.elim fun u27 hI => hI.elim fun u28 hI => hI.elim fun u29 hI => hI.elim fun u30 hI => hI.elim fun u31 hI => hI.elim fun u32 hI => hI.elim fun u33 hI => hI.elim fun u0 hI => ?_
      have ha := hI.1
      subst ha
      have hb := hI.2.1
      have g0 := hI.2.2.1
      have g1 := hI.2.2.2.1
      have g2 := hI.2.2.2.2.1
      have g3 := hI.2.2.2.2.2.1
      have g4 := hI.2.2.2.2.2.2.1
      have g5 := hI.2.2.2.2.2.2.2.1
      have g6 := hI.2.2.2.2.2.2.2.2.1
      have g7 := hI.2.2.2.2.2.2.2.2.2.1
      have g8 := hI.2.2.2.2.2.2.2.2.2.2.1
      have g9 := hI.2.2.2.2.2.2.2.2.2.2.2.1
      have g10 := hI.2.2.2.2.2.2.2.2.2.2.2.2.1
      have g11 := hI.2.2.2.2.2.2.2.2.2.2.2.2.2.1
      have g12 := hI.2.2.2.2.2.2.2.2.2.2.2.2.2.2.1
      have g13 := hI.2.2.2.2.2.2.2.2.2.2.2.2.2.2.2.1
      have g14 := hI.2.2.2.2.2.2.2.2.2.2.2.2.2.2.2.2.1
      have g15 := hI.2.2.2.2.2.2.2.2.2.2.2.2.2.2.2.2.2.1
      have g16 := hI.2.2.2.2.2.2.2.2.2.2.2.2.2.2.2.2.2.2.1
      have g17 := hI.2.2.2.2.2.2.2.2.2.2.2.2.2.2.2.2.2.2.2.1
      have g18 := hI.2.2.2.2.2.2.2.2.2.2.2.2.2.2.2.2.2.2.2.2.1
      have g19 := hI.2.2.2.2.2.2.2.2.2.2.2.2.2.2.2.2.2.2.2.2.2.1
      have g20 := hI.2.2.2.2.2.2.2.2.2.2.2.2.2.2.2.2.2.2.2.2.2.2.1
      have g21 := hI.2.2.2.2.2.2.2.2.2.2.2.2.2.2.2.2.2.2.2.2.2.2.2.1
      have g22 := hI.2.2.2.2.2.2.2.2.2.2.2.2.2.2.2.2.2.2.2.2.2.2.2.2.1
      have g23 := hI.2.2.2.2.2.2.2.2.2.2.2.2.2.2.2.2.2.2.2.2.2.2.2.2.2.1
      have g24 := hI.2.2.2.2.2.2.2.2.2.2.2.2.2.2.2.2.2.2.2.2.2.2.2.2.2.2
      clear hI
      simp [Region.binds] at hd
      dsimp only at hK ⊢
      have e7 := g7 (by simp [hd])
      subst e7
      go_simp
      exact hK _ _ ⟨_, _, _, _, _, _, _, _, _, _, _, _, _, _, _, _, _, _, _, _, _, _, _, _, _, rfl, hb, g0, g1, g2, g3, g4, g5, g6, g7, fun _ => rfl, g9, g10, g11, g12, g13, g14, g15, g16, g17, g18, g19, g20, g21, g22, g23, g24⟩
    · intro L a w' hI hl hd K hK
      refine hI.elim fun u10 hI => hI.elim fun u11 hI => hI.elim fun u12 hI => hI.elim fun u13 hI => hI.elim fun u14 hI => hI.elim fun u15 hI => hI.elim fun u16 hI => hI.elim fun u17 hI => hI.elim fun u18 hI => hI.elim fun u19 hI => hI.elim fun u20 hI => hI.elim fun u21 hI => hI.elim fun u22 hI => hI.elim fun u23 hI => hI.elim fun u24 hI => hI.elim fun u25 hI => hI.elim fun u26 hI => hI.elim fun u27 hI => hI.elim fun u28 hI => hI.elim fun u29 hI => hI.elim fun u30 hI => hI.elim fun u31 hI => hI.elim fun u32 hI => hI.elim fun u33 hI => hI.elim fun u0 hI => ?_
      have ha := hI.1
      subst ha
      have hb := hI.2.1
      have g0 := hI.2.2.1
      have g1 := hI.2.2.2.1
      have g2 := hI.2.2.2.2.1
      have g3 := hI.2.2.2.2.2.1
      have g4 := hI.2.2.2.2.2.2.1
      have g5 := hI.2.2.2.2.2.2.2.1
      have g6 := hI.2.2.2.2.2.2.2.2.1
      have g7 := hI.2.2.2.2.2.2.2.2.2.1
      have g8 := hI.2.2.2.2.2.2.2.2.2.2.1
      have g9 := hI.2.2.2.2.2.2.2.2.2.2.2.1
      have g10 := hI.2.2.2.2.2.2.2.2.2.2.2.2.1
      have g11 := hI.2.2.2.2.2.2.2.2.2.2.2.2.2.1
      have g12 := hI.2.2.2.2.2.2.2.2.2.2.2.2.2.2.1
      have g13 := hI.2.2.2.2.2.2.2.2.2.2.2.2.2.2.2.1
      have g14 := hI.2.2.2.2.2.2.2.2.2.2.2.2.2.2.2.2.1
      have g15 := hI.2.2.2.2.2.2.2.2.2.2.2.2.2.2.2.2.2.1
      have g16 := hI.2.2.2.2.2.2.2.2.2.2.2.2.2.2.2.2.2.2.1
      have g17 := hI.2.2.2.2.2.2.2.2.2.2.2.2.2.2.2.2.2.2.2.1
      have g18 := hI.2.2.2.2.2.2.2.2.2.2.2.2.2.2.2.2.2.2.2.2.1
      have g19 := hI.2.2.2.2.2.2.2.2.2.2.2.2.2.2.2.2.2.2.2.2.2.1
      have g20 := hI.2.2.2.2.2.2.2.2.2.2.2.2.2.2.2.2.2.2.2.2.2.2.1
      have g21 := hI.2.2.2.2.2.2.2.2.2.2.2.2.2.2.2.2.2.2.2.2.2.2.2.1
      have g22 := hI.2.2.2.2.2.2.2.2.2.2.2.2.2.2.2.2.2.2.2.2.2.2.2.2.1
      have g23 := hI.2.2.2.2.2.2.2.2.2.2.2.2.2.2.2.2.2.2.2.2.2.2.2.2.2.1
      have g24 := hI.2.2.2.2.2.2.2.2.2.2.2.2.2.2.2.2.2.2.2.2.2.2.2.2.2.2
      clear hI
      simp [Region.binds] at hd
      dsimp only at hK ⊢
      have e7 := g7 (by simp [hd])
      subst e7
      have e8 := g8 (by simp [hd])
      subst e8
      go_simp
      exact hK _ _ ⟨_, _, _, _, _, _, _, _, _, _, _, _, _, _, _, _, _, _, _, _, _, _, _, _, _, rfl, hb, g0, g1, g2, g3, g4, g5, g6, g7, g8, fun _ => rfl, g10, g11, g12, g13, g14, g15, g16, g17, g18, g19, g20, g21, g22, g23, g24⟩
    · intro L a w' hI hl hd K hK
      refine hI.elim fun u10 hI => hI.elim fun u11 hI => hI.elim fun u12 hI => hI.elim fun u13 hI => hI.elim fun u14 hI => hI.elim fun u15 hI => hI.elim fun u16 hI => hI.elim fun u17 hI => hI.elim fun u18 hI => hI.elim fun u19 hI => hI.elim fun u20 hI => hI.elim fun u21 hI => hI.elim fun u22 hI => hI.elim fun u23 hI => hI.elim fun u24 hI => hI.elim fun u25 hI => hI.elim fun u26 hI => hI.elim fun u27 hI => hI.elim fun u28 hI => hI.elim fun u29 hI => hI.elim fun u30 hI => hI.elim fun u31 hI => hI.elim fun u32 hI => hI.elim fun u33 hI => hI.elim fun u0 hI => ?_
      have ha := hI.1
      subst ha
      have hb := hI.2.1
      have g0 := hI.2.2.1
      have g1 := hI.2.2.2.1
      have g2 := hI.2.2.2.2.1
      have g3 := hI.2.2.2.2.2.1
      have g4 := hI.2.2.2.2.2.2.1
      have g5 := hI.2.2.2.2.2.2.2.1
      have g6 := hI.2.2.2.2.2.2.2.2.1
      have g7 := hI.2.2.2.2.2.2.2.2.2.1
      have g8 := hI.2.2.2.2.2.2.2.2.2.2.1
      have g9 := hI.2.2.2.2.2.2.2.2.2.2.2.1
      have g10 := hI.2.2.2.2.2.2.2.2.2.2.2.2.1
      have g11 := hI.2.2.2.2.2.2.2.2.2.2.2.2.2.1
      have g12 := hI.2.2.2.2.2.2.2.2.2.2.2.2.2.2.1
      have g13 := hI.2.2.2.2.2.2.2.2.2.2.2.2.2.2.2.1
      have g14 := hI.2.2.2.2.2.2.2.2.2.2.2.2.2.2.2.2.1
      have g15 := hI.2.2.2.2.2.2.2.2.2.2.2.2.2.2.2.2.2.1
      have g16 := hI.2.2.2.2.2.2.2.2.2.2.2.2.2.2.2.2.2.2.1
      have g17 := hI.2.2.2.2.2.2.2.2.2.2.2.2.2.2.2.2.2.2.2.1
      have g18 := hI.2.2.2.2.2.2.2.2.2.2.2.2.2.2.2.2.2.2.2.2.1
      have g19 := hI.2.2.2.2.2.2.2.2.2.2.2.2.2.2.2.2.2.2.2.2.2.1
      have g20 := hI.2.2.2.2.2.2.2.2.2.2.2.2.2.2.2.2.2.2.2.2.2.2.1
      have g21 := hI.2.2.2.2.2.2.2.2.2.2.2.2.2.2.2.2.2.2.2.2.2.2.2.1
      have g22 := hI.2.2.2.2.2.2.2.2.2.2.2.2.2.2.2.2.2.2.2.2.2.2.2.2.1
      have g23 := hI.2.2.2.2.2.2.2.2.2.2.2.2.2.2.2.2.2.2.2.2.2.2.2.2.2.1
      have g24 := hI.2.2.2.2.2.2.2.2.2.2.2.2.2.2.2.2.2.2.2.2.2.2.2.2.2.2
      clear hI
      simp [Region.binds] at hd
      dsimp only at hK ⊢
      have e7 := g7 (by simp [hd])
      subst e7
      have e9 := g9 (by simp [hd])
      subst e9
      go_simp
      exact hK _ _ ⟨_, _, _, _, _, _, _, _, _, _, _, _, _, _, _, _, _, _, _, _, _, _, _, _, _, rfl, hb, g0, g1, g2, g3, g4, g5, g6, g7, g8, g9, fun _ => rfl, g11, g12, g13, g14, g15, g16, g17, g18, g19, g20, g21, g22, g23, g24⟩
    · intro L a w' hI hl hd K hK
      refine hI.elim fun u10 hI => hI.elim fun u11 hI => hI.elim fun u12 hI => hI.elim fun u13 hI => hI.elim fun u14 hI => hI.elim fun u15 hI => hI.elim fun u16 hI => hI.elim fun u17 hI => hI.elim fun u18 hI => hI.elim fun u19 hI => hI.elim fun u20 hI => hI.elim fun u21 hI => hI.elim fun u22 hI => hI.elim fun u23 hI => hI.elim fun u24 hI => hI.elim fun u25 hI => hI.elim fun u26 hI => hI.elim fun u27 hI => hI.elim fun u28 hI => hI.elim fun u29 hI => hI.elim fun u30 hI => hI.elim fun u31 hI => hI.elim fun u32 hI => hI.elim fun u33 hI => hI.elim fun u0 hI => ?_
      have ha := hI.1
      subst ha
      have hb := hI.2.1
      have g0 := hI.2.2.1
      have g1 := hI.2.2.2.1
      have g2 := hI.2.2.2.2.1
      have g3 := hI.2.2.2.2.2.1
      have g4 := hI.2.2.2.2.2.2.1
      have g5 := hI.2.2.2.2.2.2.2.1
      have g6 := hI.2.2.2.2.2.2.2.2.1
      have g7 := hI.2.2.2.2.2.2.2.2.2.1
      have g8 := hI.2.2.2.2.2.2.2.2.2.2.1
      have g9 := hI.2.2.2.2.2.2.2.2.2.2.2.1
      have g10 := hI.2.2.2.2.2.2.2.2.2.2.2.2.1
      have g11 := hI.2.2.2.2.2.2.2.2.2.2.2.2.2.1
      have g12 := hI.2.2.2.2.2.2.2.2.2.2.2.2.2.2.1
      have g13 := hI.2.2.2.2.2.2.2.2.2.2.2.2.2.2.2.1
      have g14 := hI.2.2.2.2.2.2.2.2.2.2.2.2.2.2.2.2.1
      have g15 := hI.2.2.2.2.2.2.2.2.2.2.2.2.2.2.2.2.2.1
      have g16 := hI.2.2.2.2.2.2.2.2.2.2.2.2.2.2.2.2.2.2.1
      have g17 := hI.2.2.2.2.2.2.2.2.2.2.2.2.2.2.2.2.2.2.2.1
      have g18 := hI.2.2.2.2.2.2.2.2.2.2.2.2.2.2.2.2.2.2.2.2.1
      have g19 := hI.2.2.2.2.2.2.2.2.2.2.2.2.2.2.2.2.2.2.2.2.2.1
      have g20 := hI.2.2.2.2.2.2.2.2.2.2.2.2.2.2.2.2.2.2.2.2.2.2.1
      have g21 := hI.2.2.2.2.2.2.2.2.2.2.2.2.2.2.2.2.2.2.2.2.2.2.2.1
      have g22 := hI.2.2.2.2.2.2.2.2.2.2.2.2.2.2.2.2.2.2.2.2.2.2.2.2.1
      have g23 := hI.2.2.2.2.2.2.2.2.2.2.2.2.2.2.2.2.2.2.2.2.2.2.2.2.2.1
      have g24 := hI.2.2.2.2.2.2.2.2.2.2.2.2.2.2.2.2.2.2.2.2.2.2.2.2.2.2
      clear hI
      simp [Region.binds] at hd
      dsimp only at hK ⊢
      have e10 := g10 (by simp [hd])
      subst e10
      go_simp
      exact hK _ _ ⟨_, _, _, _, _, _, _, _, _, _, _, _, _, _, _, _, _, _, _, _, _, _, _, _, _, rfl, hb, g0, g1, g2, g3, g4, g5, g6, g7, g8, g9, g10, fun _ => rfl, g12, g13, g14, g15, g16, g17, g18, g19, g20, g21, g22, g23, g24⟩
    · intro L a w' hI hl hd K hK
      refine hI.elim fun u10 hI => hI.elim fun u11 hI => hI.elim fun u12 hI => hI.elim fun u13 hI => hI.elim fun u14 hI => hI.elim fun u15 hI => hI.elim fun u16 hI => hI.elim fun u17 hI => hI.elim fun u18 hI => hI.elim fun u19 hI => hI.elim fun u20 hI => hI.elim fun u21 hI => hI.elim fun u22 hI => hI.elim fun u23 hI => hI.elim fun u24 hI => hI.elim fun u25 hI => hI.elim fun u26 hI => hI.elim fun u27 hI => hI.elim fun u28 hI => hI.elim fun u29 hI => hI.elim fun u30 hI => hI.elim fun u31 hI => hI.elim fun u32 hI => hI.elim fun u33 hI => hI.elim fun u0 hI => ?_
      have ha := hI.1
      subst ha
      have hb := hI.2.1
      have g0 := hI.2.2.1
      have g1 := hI.2.2.2.1
      have g2 := hI.2.2.2.2.1
      have g3 := hI.2.2.2.2.2.1
      have g4 := hI.2.2.2.2.2.2.1
      have g5 := hI.2.2.2.2.2.2.2.1
      have g6 := hI.2.2.2.2.2.2.2.2.1
      have g7 := hI.2.2.2.2.2.2.2.2.2.1
      have g8 := hI.2.2.2.2.2.2.2.2.2.2.1
      have g9 := hI.2.2.2.2.2.2.2.2.2.2.2.1
      have g10 := hI.2.2.2.2.2.2.2.2.2.2.2.2.1
      have g11 := hI.2.2.2.2.2.2.2.2.2.2.2.2.2.1
      have g12 := hI.2.2.2.2.2.2.2.2.2.2.2.2.2.2.1
      have g13 := hI.2.2.2.2.2.2.2.2.2.2.2.2.2.2.2.1
      have g14 := hI.2.2.2.2.2.2.2.2.2.2.2.2.2.2.2.2.1
      have g15 := hI.2.2.2.2.2.2.2.2.2.2.2.2.2.2.2.2.2.1
      have g16 := hI.2.2.2.2.2.2.2.2.2.2.2.2.2.2.2.2.2.2.1
      have g17 := hI.2.2.2.2.2.2.2.2.2.2.2.2.2.2.2.2.2.2.2.1
      have g18 := hI.2.2.2.2.2.2.2.2.2.2.2.2.2.2.2.2.2.2.2.2.1
      have g19 := hI.2.2.2.2.2.2.2.2.2.2.2.2.2.2.2.2.2.2.2.2.2.1
      have g20 := hI.2.2.2.2.2.2.2.2.2.2.2.2.2.2.2.2.2.2.2.2.2.2.1
      have g21 := hI.2.2.2.2.2.2.2.2.2.2.2.2.2.2.2.2.2.2.2.2.2.2.2.1
      have g22 := hI.2.2.2.2.2.2.2.2.2.2.2.2.2.2.2.2.2.2.2.2.2.2.2.2.1
      have g23 := hI.2.2.2.2.2.2.2.2.2.2.2.2.2.2.2.2.2.2.2.2.2.2.2.2.2.1
      have g24 := hI.2.2.2.2.2.2.2.2.2.2.2.2.2.2.2.2.2.2.2.2.2.2.2.2.2.2
      clear hI
      simp [Region.binds] at hd
      dsimp only at hK ⊢
      have e11 := g11 (by simp [hd])
      subst e11
      go_simp
      exact hK _ _ ⟨_, _, _, _, _, _, _, _, _, _, _, _, _, _, _, _, _, _, _, _, _, _, _, _, _, rfl, hb, g0, g1, g2, g3, g4, g5, g6, g7, g8, g9, g10, g11, fun _ => rfl, g13, g14, g15, g16, g17, g18, g19, g20, g21, g22, g23, g24⟩
    · intro L a w' hI hl hd K hK
      refine hI.elim fun u10 hI => hI.elim fun u11 hI => hI.elim fun u12 hI => hI.elim fun u13 hI => hI.elim fun u14 hI => hI.elim fun u15 hI => hI.elim fun u16 hI => hI.elim fun u17 hI => hI.elim fun u18 hI => hI.elim fun u19 hI => hI.elim fun u20 hI => hI.elim fun u21 hI => hI.elim fun u22 hI => hI.elim fun u23 hI => hI.elim fun u24 hI => hI.elim fun u25 hI => hI.elim fun u26 hI => hI.elim fun u27 hI => hI.elim fun u28 hI => hI.elim fun u29 hI => hI.elim fun u30 hI => hI.elim fun u31 hI => hI.elim fun u32 hI => hI.elim fun u33 hI => hI.elim fun u0 hI => ?_
      have ha := hI.1
      subst ha
      have hb := hI.2.1
      have g0 := hI.2.2.1
      have g1 := hI.2.2.2.1
      have g2 := hI.2.2.2.2.1
      have g3 := hI.2.2.2.2.2.1
      have g4 := hI.2.2.2.2.2.2.1
      have g5 := hI.2.2.2.2.2.2.2.1
      have g6 := hI.2.2.2.2.2.2.2.2.1
      have g7 := hI.2.2.2.2.2.2.2.2.2.1
      have g8 := hI.2.2.2.2.2.2.2.2.2.2.1
      have g9 := hI.2.2.2.2.2.2.2.2.2.2.2.1
      have g10 := hI.2.2.2.2.2.2.2.2.2.2.2.2.1
      have g11 := hI.2.2.2.2.2.2.2.2.2.2.2.2.2.1
      have g12 := hI.2.2.2.2.2.2.2.2.2.2.2.2.2.2.1
      have g13 := hI.2.2.2.2.2.2.2.2.2.2.2.2.2.2.2.1
      have g14 := hI.2.2.2.2.2.2.2.2.2.2.2.2.2.2.2.2.1
      have g15 := hI.2.2.2.2.2.2.2.2.2.2.2.2.2.2.2.2.2.1
      have g16 := hI.2.2.2.2.2.2.2.2.2.2.2.2.2.2.2.2.2.2.1
      have g17 := hI.2.2.2.2.2.2.2.2.2.2.2.2.2.2.2.2.2.2.2.1
      have g18 := hI.2.2.2.2.2.2.2.2.2.2.2.2.2.2.2.2.2.2.2.2.1
      have g19 := hI.2.2.2.2.2.2.2.2.2.2.2.2.2.2.2.2.2.2.2.2.2.1
      have g20 := hI.2.2.2.2.2.2.2.2.2.2.2.2.2.2.2.2.2.2.2.2.2.2.1
      have g21 := hI.2.2.2.2.2.2.2.2.2.2.2.2.2.2.2.2.2.2.2.2.2.2.2.1
      have g22 := hI.2.2.2.2.2.2.2.2.2.2.2.2.2.2.2.2.2.2.2.2.2.2.2.2.1
      have g23 := hI.2.2.2.2.2.2.2.2.2.2.2.2.2.2.2.2.2.2.2.2.2.2.2.2.2.1
      have g24 := hI.2.2.2.2.2.2.2.2.2.2.2.2.2.2.2.2.2.2.2.2.2.2.2.2.2.2
      clear hI
      simp [Region.binds] at hd
      dsimp only at hK ⊢
      have e11 := g11 (by simp [hd])
      subst e11
      have e12 := g12 (by simp [hd])
      subst e12
      go_simp
      exact hK _ _ ⟨_, _, _, _, _, _, _, _, _, _, _, _, _, _, _, _, _, _, _, _, _, _, _, _, _, rfl, hb, g0, g1, g2, g3, g4, g5, g6, g7, g8, g9, g10, g11, g12, fun _ => rfl, g14, g15, g16, g17, g18, g19, g20, g21, g22, g23, g24⟩
    · intro L a w' hI hl hd K hK
      refine hI.elim fun u10 hI => hI.elim fun u11 hI => hI.elim fun u12 hI => hI.elim fun u13 hI => hI.elim fun u14 hI => hI.elim fun u15 hI => hI.elim fun u16 hI => hI.elim fun u17 hI => hI.elim fun u18 hI => hI.elim fun u19 hI => hI.elim fun u20 hI => hI.elim fun u21 hI => hI.elim fun u22 hI => hI.elim fun u23 hI => hI.elim fun u24 hI => hI.elim fun u25 hI => hI.elim fun u26 hI => hI.elim fun u27 hI => hI.elim fun u28 hI => hI.elim fun u29 hI => hI.elim fun u30 hI => hI.elim fun u31 hI => hI.elim fun u32 hI => hI.elim fun u33 hI => hI.elim fun u0 hI => ?_
      have ha := hI.1
      subst ha
      have hb := hI.2.1
      have g0 := hI.2.2.1
      have g1 := hI.2.2.2.1
      have g2 := hI.2.2.2.2.1
      have g3 := hI.2.2.2.2.2.1
      have g4 := hI.2.2.2.2.2.2.1
      have g5 := hI.2.2.2.2.2.2.2.1
      have g6 := hI.2.2.2.2.2.2.2.2.1
      have g7 := hI.2.2.2.2.2.2.2.2.2.1
      have g8 := hI.2.2.2.2.2.2.2.2.2.2.1
      have g9 := hI.2.2.2.2.2.2.2.2.2.2.2.1
      have g10 := hI.2.2.2.2.2.2.2.2.2.2.2.2.1
      have g11 := hI.2.2.2.2.2.2.2.2.2.2.2.2.2.1
      have g12 := hI.2.2.2.2.2.2.2.2.2.2.2.2.2.2.1
      have g13 := hI.2.2.2.2.2.2.2.2.2.2.2.2.2.2.2.1
      have g14 := hI.2.2.2.2.2.2.2.2.2.2.2.2.2.2.2.2.1
      have g15 := hI.2.2.2.2.2.2.2.2.2.2.2.2.2.2.2.2.2.1
      have g16 := hI.2.2.2.2.2.2.2.2.2.2.2.2.2.2.2.2.2.2.1
      have g17 := hI.2.2.2.2.2.2.2.2.2.2.2.2.2.2.2.2.2.2.2.1
      have g18 := hI.2.2.2.2.2.2.2.2.2.2.2.2.2.2.2.2.2.2.2.2.1
      have g19 := hI.2.2.2.2.2.2.2.2.2.2.2.2.2.2.2.2.2.2.2.2.2.1
      have g20 := hI.2.2.2.2.2.2.2.2.2.2.2.2.2.2.2.2.2.2.2.2.2.2.1
      have g21 := hI.2.2.2.2.2.2.2.2.2.2.2.2.2.2.2.2.2.2.2.2.2.2.2.1
      have g22 := hI.2.2.2.2.2.2.2.2.2.2.2.2.2.2.2.2.2.2.2.2.2.2.2.2.1
      have g23 := hI.2.2.2.2.2.2.2.2.2.2.2.2.2.2.2.2.2.2.2.2.2.2.2.2.2.1
      have g24 := hI.2.2.2.2.2.2.2.2.2.2.2.2.2.2.2.2.2.2.2.2.2.2.2.2.2.2
      clear hI
      simp [Region.binds] at hd
      dsimp only at hK ⊢
      have e11 := g11 (by simp [hd])
      subst e11
      have e13 := g13 (by simp [hd])
      subst e13
      go_simp
      exact hK _ _ ⟨_, _, _, _, _, _, _, _, _, _, _, _, _, _, _, _, _, _, _, _, _, _, _, _, _, rfl, hb, g0, g1, g2, g3, g4, g5, g6, g7, g8, g9, g10, g11, g12, g13, fun _ => rfl, g15, g16, g17, g18, g19, g20, g21, g22, g23, g24⟩
    · intro L a w' hI hl hd K hK
      refine hI.elim fun u10 hI => hI.elim fun u11 hI => hI.elim fun u12 hI => hI.elim fun u13 hI => hI.elim fun u14 hI => hI.elim fun u15 hI => hI.elim fun u16 hI => hI.elim fun u17 hI => hI.elim fun u18 hI => hI.elim fun u19 hI => hI.elim fun u20 hI => hI.elim fun u21 hI => hI.elim fun u22 hI => hI.elim fun u23 hI => hI.elim fun u24 hI => hI.elim fun u25 hI => hI.elim fun u26 hI => hI.elim fun u27 hI => hI.elim fun u28 hI => hI.elim fun u29 hI => hI.elim fun u30 hI => hI.elim fun u31 hI => hI.elim fun u32 hI => hI.elim fun u33 hI => hI.elim fun u0 hI => ?_
      have ha := hI.1
      subst ha
      have hb := hI.2.1
      have g0 := hI.2.2.1
      have g1 := hI.2.2.2.1
      have g2 := hI.2.2.2.2.1
      have g3 := hI.2.2.2.2.2.1
      have g4 := hI.2.2.2.2.2.2.1
      have g5 := hI.2.2.2.2.2.2.2.1
      have g6 := hI.2.2.2.2.2.2.2.2.1
      have g7 := hI.2.2.2.2.2.2.2.2.2.1
      have g8 := hI.2.2.2.2.2.2.2.2.2.2.1
      have g9 := hI.2.2.2.2.2.2.2.2.2.2.2.1
      have g10 := hI.2.2.2.2.2.2.2.2.2.2.2.2.1
      have g11 := hI.2.2.2.2.2.2.2.2.2.2.2.2.2.1
      have g12 := hI.2.2.2.2.2.2.2.2.2.2.2.2.2.2.1
      have g13 := hI.2.2.2.2.2.2.2.2.2.2.2.2.2.2.2.1
      have g14 := hI.2.2.2.2.2.2.2.2.2.2.2.2.2.2.2.2.1
      have g15 := hI.2.2.2.2.2.2.2.2.2.2.2.2.2.2.2.2.2.1
      have g16 := hI.2.2.2.2.2.2.2.2.2.2.2.2.2.2.2.2.2.2.1
      have g17 := hI.2.2.2.2.2.2.2.2.2.2.2.2.2.2.2.2.2.2.2.1
      have g18 := hI.2.2.2.2.2.2.2.2.2.2.2.2.2.2.2.2.2.2.2.2.1
      have g19 := hI.2.2.2.2.2.2.2.2.2.2.2.2.2.2.2.2.2.2.2.2.2.1
      have g20 := hI.2.2.2.2.2.2.2.2.2.2.2.2.2.2.2.2.2.2.2.2.2.2.1
      have g21 := hI.2.2.2.2.2.2.2.2.2.2.2.2.2.2.2.2.2.2.2.2.2.2.2.1
      have g22 := hI.2.2.2.2.2.2.2.2.2.2.2.2.2.2.2.2.2.2.2.2.2.2.2.2.1
      have g23 := hI.2.2.2.2.2.2.2.2.2.2.2.2.2.2.2.2.2.2.2.2.2.2.2.2.2.1
      have g24 := hI.2.2.2.2.2.2.2.2.2.2.2.2.2.2.2.2.2.2.2.2.2.2.2.2.2.2
      clear hI
      simp [Region.binds] at hd
      dsimp only at hK ⊢
      have e14 := g14 (by simp [hd])
      subst e14
      go_simp
      exact hK _ _ ⟨_, _, _, _, _, _, _, _, _, _, _, _, _, _, _, _, _, _, _, _, _, _, _, _, _, rfl, hb, g0, g1, g2, g3, g4, g5, g6, g7, g8, g9, g10, g11, g12, g13, g14, fun _ => rfl, g16, g17, g18, g19, g20, g21, g22, g23, g24⟩
    · intro L a w' hI hl hd K hK
      refine hI.elim fun u10 hI => hI.elim fun u11 hI => hI.elim fun u12 hI => hI.elim fun u13 hI => hI.elim fun u14 hI => hI.elim fun u15 hI => hI.elim fun u16 hI => hI.elim fun u17 hI => hI.elim fun u18 hI => hI.elim fun u19 hI => hI.elim fun u20 hI => hI.elim fun u21 hI => hI.elim fun u22 hI => hI.elim fun u23 hI => hI.elim fun u24 hI => hI.elim fun u25 hI => hI.elim fun u26 hI => hI.elim fun u27 hI => hI.elim fun u28 hI => hI.elim fun u29 hI => hI.elim fun u30 hI => hI.elim fun u31 hI => hI.elim fun u32 hI => hI.elim fun u33 hI => hI.elim fun u0 hI => ?_
      have ha := hI.1
      subst ha
      have hb := hI.2.1
      have g0 := hI.2.2.1
      have g1 := hI.2.2.2.1
      have g2 := hI.2.2.2.2.1
      have g3 := hI.2.2.2.2.2.1
      have g4 := hI.2.2.2.2.2.2.1
      have g5 := hI.2.2.2.2.2.2.2.1
      have g6 := hI.2.2.2.2.2.2.2.2.1
      have g7 := hI.2.2.2.2.2.2.2.2.2.1
      have g8 := hI.2.2.2.2.2.2.2.2.2.2.1
      have g9 := hI.2.2.2.2.2.2.2.2.2.2.2.1
      have g10 := hI.2.2.2.2.2.2.2.2.2.2.2.2.1
      have g11 := hI.2.2.2.2.2.2.2.2.2.2.2.2.2.1
      have g12 := hI.2.2.2.2.2.2.2.2.2.2.2.2.2.2.1
      have g13 := hI.2.2.2.2.2.2.2.2.2.2.2.2.2.2.2.1
      have g14 := hI.2.2.2.2.2.2.2.2.2.2.2.2.2.2.2.2.1
      have g15 := hI.2.2.2.2.2.2.2.2.2.2.2.2.2.2.2.2.2.1
      have g16 := hI.2.2.2.2.2.2.2.2.2.2.2.2.2.2.2.2.2.2.1
      have g17 := hI.2.2.2.2.2.2.2.2.2.2.2.2.2.2.2.2.2.2.2.1
      have g18 := hI.2.2.2.2.2.2.2.2.2.2.2.2.2.2.2.2.2.2.2.2.1
      have g19 := hI.2.2.2.2.2.2.2.2.2.2.2.2.2.2.2.2.2.2.2.2.2.1
      have g20 := hI.2.2.2.2.2.2.2.2.2.2.2.2.2.2.2.2.2.2.2.2.2.2.1
      have g21 := hI.2.2.2.2.2.2.2.2.2.2.2.2.2.2.2.2.2.2.2.2.2.2.2.1
      have g22 := hI.2.2.2.2.2.2.2.2.2.2.2.2.2.2.2.2.2.2.2.2.2.2.2.2.1
      have g23 := hI.2.2.2.2.2.2.2.2.2.2.2.2.2.2.2.2.2.2.2.2.2.2.2.2.2.1
      have g24 := hI.2.2.2.2.2.2.2.2.2.2.2.2.2.2.2.2.2.2.2.2.2.2.2.2.2.2
      clear hI
      simp [Region.binds] at hd
      dsimp only at hK ⊢
      have e15 := g15 (by simp [hd])
      subst e15
      go_wp2_with fail
      refine (H3.out w').mono ?_
      rintro _ w4 ⟨q0, rfl, _, hq0, hb4⟩
      exact hK _ _ ⟨_, _, _, _, _, _, _, _, _, _, _, _, _, _, _, _, _, _, _, _, _, _, _, _, _, rfl, bst hb hb4, fun h => by
            obtain ⟨q, q1, q2⟩ := g0 h
            exact ⟨q, q1, q2.below hb4 q2.lt⟩, fun h => own_below (g1 h) hb4, g2.below hb4, g3, g4, g5, g6, g7, g8, g9, g10, g11, g12, g13, g14, g15, fun _ => ⟨q0, rfl, hq0⟩, fun h => by
            obtain ⟨q, q1, q2⟩ := g17 h
            exact ⟨q, q1, q2.below hb4 q2.lt⟩, g18, fun h => by
            obtain ⟨q, q1, q2⟩ := g19 h
            exact ⟨q, q1, q2.below hb4 q2.lt⟩, fun h => by
            obtain ⟨q, q1, q2⟩ := g20 h
            exact ⟨q, q1, q2.below hb4 q2.lt⟩, g21, g22, g23, g24⟩
    · intro L a w' hI hl hd K hK
      refine hI.elim fun u10 hI => hI.elim fun u11 hI => hI.elim fun u12 hI => hI.elim fun u13 hI => hI.elim fun u14 hI => hI.elim fun u15 hI => hI.elim fun u16 hI => hI.elim fun u17 hI => hI.elim fun u18 hI => hI.elim fun u19 hI => hI.elim fun u20 hI => hI.elim fun u21 hI => hI.elim fun u22 hI => hI.elim fun u23 hI => hI.elim fun u24 hI => hI.elim fun u25 hI => hI.elim fun u26 hI => hI.elim fun u27 hI => hI.elim fun u28 hI => hI.elim fun u29 hI => hI.elim fun u30 hI => hI.elim fun u31 hI => hI.elim fun u32 hI => hI.elim fun u33 hI => hI.elim fun u0 hI => ?_
      have ha := hI.1
      subst ha
      have hb := hI.2.1
      have g0 := hI.2.2.1
      have g1 := hI.2.2.2.1
      have g2 := hI.2.2.2.2.1
      have g3 := hI.2.2.2.2.2.1
      have g4 := hI.2.2.2.2.2.2.1
      have g5 := hI.2.2.2.2.2.2.2.1
      have g6 := hI.2.2.2.2.2.2.2.2.1
      have g7 := hI.2.2.2.2.2.2.2.2.2.1
      have g8 := hI.2.2.2.2.2.2.2.2.2.2.1
      have g9 := hI.2.2.2.2.2.2.2.2.2.2.2.1
      have g10 := hI.2.2.2.2.2.2.2.2.2.2.2.2.1
      have g11 := hI.2.2.2.2.2.2.2.2.2.2.2.2.2.1
      have g12 := hI.2.2.2.2.2.2.2.2.2.2.2.2.2.2.1
      have g13 := hI.2.2.2.2.2.2.2.2.2.2.2.2.2.2.2.1
      have g14 := hI.2.2.2.2.2.2.2.2.2.2.2.2.2.2.2.2.1
      have g15 := hI.2.2.2.2.2.2.2.2.2.2.2.2.2.2.2.2.2.1
      have g16 := hI.2.2.2.2.2.2.2.2.2.2.2.2.2.2.2.2.2.2.1
      have g17 := hI.2.2.2.2.2.2.2.2.2.2.2.2.2.2.2.2.2.2.2.1
      have g18 := hI.2.2.2.2.2.2.2.2.2.2.2.2.2.2.2.2.2.2.2.2.1
      have g19 := hI.2.2.2.2.2.2.2.2.2.2.2.2.2.2.2.2.2.2.2.2.2.1
      have g20 := hI.2.2.2.2.2.2.2.2.2.2.2.2.2.2.2.2.2.2.2.2.2.2.1
      have g21 := hI.2.2.2.2.2.2.2.2.2.2.2.2.2.2.2.2.2.2.2.2.2.2.2.1
      have g22 := hI.2.2.2.2.2.2.2.2.2.2.2.2.2.2.2.2.2.2.2.2.2.2.2.2.1
      have g23 := hI.2.2.2.2.2.2.2.2.2.2.2.2.2.2.2.2.2.2.2.2.2.2.2.2.2.1
      have g24 := hI.2.2.2.2.2.2.2.2.2.2.2.2.2.2.2.2.2.2.2.2.2.2.2.2.2.2
      clear hI
      simp [Region.binds] at hd
      dsimp only at hK ⊢
      have e15 := g15 (by simp [hd])
      subst e15
      obtain ⟨q0, e1, q2⟩ := g16 (by simp [hd])
      subst e1
      go_simp
      exact hK _ _ ⟨_, _, _, _, _, _, _, _, _, _, _, _, _, _, _, _, _, _, _, _, _, _, _, _, _, rfl, hb, g0, g1, g2, g3, g4, g5, g6, g7, g8, g9, g10, g11, g12, g13, g14, g15, fun _ => ⟨q0, rfl, q2⟩, fun _ => ⟨q0, rfl, q2⟩, g18, g19, g20, g21, g22, g23, g24⟩
    · intro L a w' hI hl hd K hK
      refine hI.elim fun u10 hI => hI.elim fun u11 hI => hI.elim fun u12 hI => hI.elim fun u13 hI => hI.elim fun u14 hI => hI.elim fun u15 hI => hI.elim fun u16 hI => hI.elim fun u17 hI => hI.elim fun u18 hI => hI.elim fun u19 hI => hI.elim fun u20 hI => hI.elim fun u21 hI => hI.elim fun u22 hI => hI.elim fun u23 hI => hI.elim fun u24 hI => hI.elim fun u25 hI => hI.elim fun u26 hI => hI.elim fun u27 hI => hI.elim fun u28 hI => hI.elim fun u29 hI => hI.elim fun u30 hI => hI.elim fun u31 hI => hI.elim fun u32 hI => hI.elim fun u33 hI => hI.elim fun u0 hI => ?_
      have ha := hI.1
      subst ha
      have hb := hI.2.1
      have g0 := hI.2.2.1
      have g1 := hI.2.2.2.1
      have g2 := hI.2.2.2.2.1
      have g3 := hI.2.2.2.2.2.1
      have g4 := hI.2.2.2.2.2.2.1
      have g5 := hI.2.2.2.2.2.2.2.1
      have g6 := hI.2.2.2.2.2.2.2.2.1
      have g7 := hI.2.2.2.2.2.2.2.2.2.1
      have g8 := hI.2.2.2.2.2.2.2.2.2.2.1
      have g9 := hI.2.2.2.2.2.2.2.2.2.2.2.1
      have g10 := hI.2.2.2.2.2.2.2.2.2.2.2.2.1
      have g11 := hI.2.2.2.2.2.2.2.2.2.2.2.2.2.1
      have g12 := hI.2.2.2.2.2.2.2.2.2.2.2.2.2.2.1
      have g13 := hI.2.2.2.2.2.2.2.2.2.2.2.2.2.2.2.1
      have g14 := hI.2.2.2.2.2.2.2.2.2.2.2.2.2.2.2.2.1
      have g15 := hI.2.2.2.2.2.2.2.2.2.2.2.2.2.2.2.2.2.1
      have g16 := hI.2.2.2.2.2.2.2.2.2.2.2.2.2.2.2.2.2.2.1
      have g17 := hI.2.2.2.2.2.2.2.2.2.2.2.2.2.2.2.2.2.2.2.1
      have g18 := hI.2.2.2.2.2.2.2.2.2.2.2.2.2.2.2.2.2.2.2.2.1
      have g19 := hI.2.2.2.2.2.2.2.2.2.2.2.2.2.2.2.2.2.2.2.2.2.1
      have g20 := hI.2.2.2.2.2.2.2.2.2.2.2.2.2.2.2.2.2.2.2.2.2.2.1
      have g21 := hI.2.2.2.2.2.2.2.2.2.2.2.2.2.2.2.2.2.2.2.2.2.2.2.1
      have g22 := hI.2.2.2.2.2.2.2.2.2.2.2.2.2.2.2.2.2.2.2.2.2.2.2.2.1
      have g23 := hI.2.2.2.2.2.2.2.2.2.2.2.2.2.2.2.2.2.2.2.2.2.2.2.2.2.1
      have g24 := hI.2.2.2.2.2.2.2.2.2.2.2.2.2.2.2.2.2.2.2.2.2.2.2.2.2.2
      clear hI
      simp [Region.binds] at hd
      dsimp only at hK ⊢
      have e15 := g15 (by simp [hd])
      subst e15
      obtain ⟨q0, e1, q2⟩ := g17 (by simp [hd])
      subst e1
      have c0 := q2.cell 0
      have c1 := q2.cell 1
      have c2 := q2.cell 2
      have c3 := q2.cell 3
      have c4 := q2.cell 4
      have c5 := q2.cell 5
      have c6 := q2.cell 6
      have c7 := q2.cell 7
      have c8 := q2.cell 8
      have c9 := q2.cell 9
      have c10 := q2.cell 10
      have c11 := q2.cell 11
      simp only [List.getElem?_toArray, List.getElem?_cons_zero, List.getElem?_cons_succ] at c0 c1 c2 c3 c4 c5 c6 c7 c8 c9 c10 c11
      go_simp
      exact hK _ _ ⟨_, _, _, _, _, _, _, _, _, _, _, _, _, _, _, _, _, _, _, _, _, _, _, _, _, rfl, hb, g0, g1, g2, g3, g4, g5, g6, g7, g8, g9, g10, g11, g12, g13, g14, g15, g16, fun _ => ⟨q0, rfl, q2⟩, fun _ => rfl, g19, g20, g21, g22, g23, g24⟩
    · intro L a w' hI hl hd K hK
      refine hI.elim fun u10 hI => hI.elim fun u11 hI => hI.elim fun u12 hI => hI.elim fun u13 hI => hI.elim fun u14 hI => hI.elim fun u15 hI => hI.elim fun u16 hI => hI.elim fun u17 hI => hI.elim fun u18 hI => hI.elim fun u19 hI => hI.elim fun u20 hI => hI.elim fun u21 hI => hI.elim fun u22 hI => hI.elim fun u23 hI => hI.elim fun u24 hI => hI.elim fun u25 hI => hI.elim fun u26 hI => hI.elim fun u27 hI => hI.elim fun u28 hI => hI.elim fun u29 hI => hI.elim fun u30 hI => hI.elim fun u31 hI => hI.elim fun u32 hI => hI.elim fun u33 hI => hI.elim fun u0 hI => ?_
      have ha := hI.1
      subst ha
      have hb := hI.2.1
      have g0 := hI.2.2.1
      have g1 := hI.2.2.2.1
      have g2 := hI.2.2.2.2.1
      have g3 := hI.2.2.2.2.2.1
      have g4 := hI.2.2.2.2.2.2.1
      have g5 := hI.2.2.2.2.2.2.2.1
      have g6 := hI.2.2.2.2.2.2.2.2.1
      have g7 := hI.2.2.2.2.2.2.2.2.2.1
      have g8 := hI.2.2.2.2.2.2.2.2.2.2.1
      have g9 := hI.2.2.2.2.2.2.2.2.2.2.2.1
      have g10 := hI.2.2.2.2.2.2.2.2.2.2.2.2.1
      have g11 := hI.2.2.2.2.2.2.2.2.2.2.2.2.2.1
      have g12 := hI.2.2.2.2.2.2.2.2.2.2.2.2.2.2.1
      have g13 := hI.2.2.2.2.2.2.2.2.2.2.2.2.2.2.2.1
      have g14 := hI.2.2.2.2.2.2.2.2.2.2.2.2.2.2.2.2.1
      have g15 := hI.2.2.2.2.2.2.2.2.2.2.2.2.2.2.2.2.2.1
      have g16 := hI.2.2.2.2.2.2.2.2.2.2.2.2.2.2.2.2.2.2.1
      have g17 := hI.2.2.2.2.2.2.2.2.2.2.2.2.2.2.2.2.2.2.2.1
      have g18 := hI.2.2.2.2.2.2.2.2.2.2.2.2.2.2.2.2.2.2.2.2.1
      have g19 := hI.2.2.2.2.2.2.2.2.2.2.2.2.2.2.2.2.2.2.2.2.2.1
      have g20 := hI.2.2.2.2.2.2.2.2.2.2.2.2.2.2.2.2.2.2.2.2.2.2.1
      have g21 := hI.2.2.2.2.2.2.2.2.2.2.2.2.2.2.2.2.2.2.2.2.2.2.2.1
      have g22 := hI.2.2.2.2.2.2.2.2.2.2.2.2.2.2.2.2.2.2.2.2.2.2.2.2.1
      have g23 := hI.2.2.2.2.2.2.2.2.2.2.2.2.2.2.2.2.2.2.2.2.2.2.2.2.2.1
      have g24 := hI.2.2.2.2.2.2.2.2.2.2.2.2.2.2.2.2.2.2.2.2.2.2.2.2.2.2
      clear hI
      simp [Region.binds] at hd
      dsimp only at hK ⊢
      have e15 := g15 (by simp [hd])
      subst e15
      go_wp2_with fail
      refine (H3.out w').mono ?_
      rintro _ w4 ⟨q0, rfl, _, hq0, hb4⟩
      exact hK _ _ ⟨_, _, _, _, _, _, _, _, _, _, _, _, _, _, _, _, _, _, _, _, _, _, _, _, _, rfl, bst hb hb4, fun h => by
            obtain ⟨q, q1, q2⟩ := g0 h
            exact ⟨q, q1, q2.below hb4 q2.lt⟩, fun h => own_below (g1 h) hb4, g2.below hb4, g3, g4, g5, g6, g7, g8, g9, g10, g11, g12, g13, g14, g15, fun h => by
            obtain ⟨q, q1, q2⟩ := g16 h
            exact ⟨q, q1, q2.below hb4 q2.lt⟩, fun h => by
            obtain ⟨q, q1, q2⟩ := g17 h
            exact ⟨q, q1, q2.below hb4 q2.lt⟩, g18, fun _ => ⟨q0, rfl, hq0⟩, fun h => by
            obtain ⟨q, q1, q2⟩ := g20 h
            exact ⟨q, q1, q2.below hb4 q2.lt⟩, g21, g22, g23, g24⟩
    · intro L a w' hI hl hd K hK
      refine hI.elim fun u10 hI => hI.elim fun u11 hI => hI.elim fun u12 hI => hI.elim fun u13 hI => hI.elim fun u14 hI => hI.elim fun u15 hI => hI.elim fun u16 hI => hI.elim fun u17 hI => hI.elim fun u18 hI => hI.elim fun u19 hI => hI.elim fun u20 hI => hI.elim fun u21 hI => hI.elim fun u22 hI => hI.elim fun u23 hI => hI.elim fun u24 hI => hI.elim fun u25 hI => hI.elim fun u26 hI => hI.elim fun u27 hI => hI.elim fun u28 hI => hI.elim fun u29 hI => hI.elim fun u30 hI => hI.elim fun u31 hI => hI.elim fun u32 hI => hI.elim fun u33 hI => hI.elim fun u0 hI => ?_
      have ha := hI.1
      subst ha
      have hb := hI.2.1
      have g0 := hI.2.2.1
      have g1 := hI.2.2.2.1
      have g2 := hI.2.2.2.2.1
      have g3 := hI.2.2.2.2.2.1
      have g4 := hI.2.2.2.2.2.2.1
      have g5 := hI.2.2.2.2.2.2.2.1
      have g6 := hI.2.2.2.2.2.2.2.2.1
      have g7 := hI.2.2.2.2.2.2.2.2.2.1
      have g8 := hI.2.2.2.2.2.2.2.2.2.2.1
      have g9 := hI.2.2.2.2.2.2.2.2.2.2.2.1
      have g10 := hI.2.2.2.2.2.2.2.2.2.2.2.2.1
      have g11 := hI.2.2.2.2.2.2.2.2.2.2.2.2.2.1
      have g12 := hI.2.2.2.2.2.2.2.2.2.2.2.2.2.2.1
      have g13 := hI.2.2.2.2.2.2.2.2.2.2.2.2.2.2.2.1
      have g14 := hI.2.2.2.2.2.2.2.2.2.2.2.2.2.2.2.2.1
      have g15 := hI.2.2.2.2.2.2.2.2.2.2.2.2.2.2.2.2.2.1
      have g16 := hI.2.2.2.2.2.2.2.2.2.2.2.2.2.2.2.2.2.2.1
      have g17 := hI.2.2.2.2.2.2.2.2.2.2.2.2.2.2.2.2.2.2.2.1
      have g18 := hI.2.2.2.2.2.2.2.2.2.2.2.2.2.2.2.2.2.2.2.2.1
      have g19 := hI.2.2.2.2.2.2.2.2.2.2.2.2.2.2.2.2.2.2.2.2.2.1
      have g20 := hI.2.2.2.2.2.2.2.2.2.2.2.2.2.2.2.2.2.2.2.2.2.2.1
      have g21 := hI.2.2.2.2.2.2.2.2.2.2.2.2.2.2.2.2.2.2.2.2.2.2.2.1
      have g22 := hI.2.2.2.2.2.2.2.2.2.2.2.2.2.2.2.2.2.2.2.2.2.2.2.2.1
      have g23 := hI.2.2.2.2.2.2.2.2.2.2.2.2.2.2.2.2.2.2.2.2.2.2.2.2.2.1
      have g24 := hI.2.2.2.2.2.2.2.2.2.2.2.2.2.2.2.2.2.2.2.2.2.2.2.2.2.2
      clear hI
      simp [Region.binds] at hd
      dsimp only at hK ⊢
      have e15 := g15 (by simp [hd])
      subst e15
      obtain ⟨q0, e1, q2⟩ := g19 (by simp [hd])
      subst e1
      go_simp
      exact hK _ _ ⟨_, _, _, _, _, _, _, _, _, _, _, _, _, _, _, _, _, _, _, _, _, _, _, _, _, rfl, hb, g0, g1, g2, g3, g4, g5, g6, g7, g8, g9, g10, g11, g12, g13, g14, g15, g16, g17, g18, fun _ => ⟨q0, rfl, q2⟩, fun _ => ⟨q0, rfl, q2⟩, g21, g22, g23, g24⟩
    · intro L a w' hI hl hd K hK
      refine hI.elim fun u10 hI => hI.elim fun u11 hI => hI.elim fun u12 hI => hI.elim fun u13 hI => hI.elim fun u14 hI => hI.elim fun u15 hI => hI.elim fun u16 hI => hI.elim fun u17 hI => hI.elim fun u18 hI => hI.elim fun u19 hI => hI.elim fun u20 hI => hI.elim fun u21 hI => hI.elim fun u22 hI => hI.elim fun u23 hI => hI.elim fun u24 hI => hI.elim fun u25 hI => hI.elim fun u26 hI => hI.elim fun u27 hI => hI.elim fun u28 hI => hI.elim fun u29 hI => hI.elim fun u30 hI => hI.elim fun u31 hI => hI.elim fun u32 hI => hI.elim fun u33 hI => hI.elim fun u0 hI => ?_
      have ha := hI.1
      subst ha
      have hb := hI.2.1
      have g0 := hI.2.2.1
      have g1 := hI.2.2.2.1
      have g2 := hI.2.2.2.2.1
      have g3 := hI.2.2.2.2.2.1
      have g4 := hI.2.2.2.2.2.2.1
      have g5 := hI.2.2.2.2.2.2.2.1
      have g6 := hI.2.2.2.2.2.2.2.2.1
      have g7 := hI.2.2.2.2.2.2.2.2.2.1
      have g8 := hI.2.2.2.2.2.2.2.2.2.2.1
      have g9 := hI.2.2.2.2.2.2.2.2.2.2.2.1
      have g10 := hI.2.2.2.2.2.2.2.2.2.2.2.2.1
      have g11 := hI.2.2.2.2.2.2.2.2.2.2.2.2.2.1
      have g12 := hI.2.2.2.2.2.2.2.2.2.2.2.2.2.2.1
      have g13 := hI.2.2.2.2.2.2.2.2.2.2.2.2.2.2.2.1
      have g14 := hI.2.2.2.2.2.2.2.2.2.2.2.2.2.2.2.2.1
      have g15 := hI.2.2.2.2.2.2.2.2.2.2.2.2.2.2.2.2.2.1
      have g16 := hI.2.2.2.2.2.2.2.2.2.2.2.2.2.2.2.2.2.2.1
      have g17 := hI.2.2.2.2.2.2.2.2.2.2.2.2.2.2.2.2.2.2.2.1
      have g18 := hI.2.2.2.2.2.2.2.2.2.2.2.2.2.2.2.2.2.2.2.2.1
      have g19 := hI.2.2.2.2.2.2.2.2.2.2.2.2.2.2.2.2.2.2.2.2.2.1
      have g20 := hI.2.2.2.2.2.2.2.2.2.2.2.2.2.2.2.2.2.2.2.2.2.2.1
      have g21 := hI.2.2.2.2.2.2.2.2.2.2.2.2.2.2.2.2.2.2.2.2.2.2.2.1
      have g22 := hI.2.2.2.2.2.2.2.2.2.2.2.2.2.2.2.2.2.2.2.2.2.2.2.2.1
      have g23 := hI.2.2.2.2.2.2.2.2.2.2.2.2.2.2.2.2.2.2.2.2.2.2.2.2.2.1
      have g24 := hI.2.2.2.2.2.2.2.2.2.2.2.2.2.2.2.2.2.2.2.2.2.2.2.2.2.2
      clear hI
      simp [Region.binds] at hd
      dsimp only at hK ⊢
      have e15 := g15 (by simp [hd])
      subst e15
      obtain ⟨q0, e1, q2⟩ := g20 (by simp [hd])
      subst e1
      have c12 := q2.cell 12
      have c13 := q2.cell 13
      have c14 := q2.cell 14
      have c15 := q2.cell 15
      have c16 := q2.cell 16
      have c17 := q2.cell 17
      have c18 := q2.cell 18
      have c19 := q2.cell 19
      have c20 := q2.cell 20
      have c21 := q2.cell 21
      have c22 := q2.cell 22
      have c23 := q2.cell 23
      simp only [List.getElem?_toArray, List.getElem?_cons_zero, List.getElem?_cons_succ] at c12 c13 c14 c15 c16 c17 c18 c19 c20 c21 c22 c23
      go_simp
      exact hK _ _ ⟨_, _, _, _, _, _, _, _, _, _, _, _, _, _, _, _, _, _, _, _, _, _, _, _, _, rfl, hb, g0, g1, g2, g3, g4, g5, g6, g7, g8, g9, g10, g11, g12, g13, g14, g15, g16, g17, g18, g19, fun _ => ⟨q0, rfl, q2⟩, fun _ => rfl, g22, g23, g24⟩
    · intro L a w' hI hl hd K hK
      refine hI.elim fun u10 hI => hI.elim fun u11 hI => hI.elim fun u12 hI => hI.elim fun u13 hI => hI.elim fun u14 hI => hI.elim fun u15 hI => hI.elim fun u16 hI => hI.elim fun u17 hI => hI.elim fun u18 hI => hI.elim fun u19 hI => hI.elim fun u20 hI => hI.elim fun u21 hI => hI.elim fun u22 hI => hI.elim fun u23 hI => hI.elim fun u24 hI => hI.elim fun u25 hI => hI.elim fun u26 hI => hI.elim fun u27 hI => hI.elim fun u28 hI => hI.elim fun u29 hI => hI.elim fun u30 hI => hI.elim fun u31 hI => hI.elim fun u32 hI => hI.elim fun u33 hI => hI.elim fun u0 hI => ?_
      have ha := hI.1
      subst ha
      have hb := hI.2.1
      have g0 := hI.2.2.1
      have g1 := hI.2.2.2.1
      have g2 := hI.2.2.2.2.1
      have g3 := hI.2.2.2.2.2.1
      have g4 := hI.2.2.2.2.2.2.1
      have g5 := hI.2.2.2.2.2.2.2.1
      have g6 := hI.2.2.2.2.2.2.2.2.1
      have g7 := hI.2.2.2.2.2.2.2.2.2.1
      have g8 := hI.2.2.2.2.2.2.2.2.2.2.1
      have g9 := hI.2.2.2.2.2.2.2.2.2.2.2.1
      have g10 := hI.2.2.2.2.2.2.2.2.2.2.2.2.1
      have g11 := hI.2.2.2.2.2.2.2.2.2.2.2.2.2.1
      have g12 := hI.2.2.2.2.2.2.2.2.2.2.2.2.2.2.1
      have g13 := hI.2.2.2.2.2.2.2.2.2.2.2.2.2.2.2.1
      have g14 := hI.2.2.2.2.2.2.2.2.2.2.2.2.2.2.2.2.1
      have g15 := hI.2.2.2.2.2.2.2.2.2.2.2.2.2.2.2.2.2.1
      have g16 := hI.2.2.2.2.2.2.2.2.2.2.2.2.2.2.2.2.2.2.1
      have g17 := hI.2.2.2.2.2.2.2.2.2.2.2.2.2.2.2.2.2.2.2.1
      have g18 := hI.2.2.2.2.2.2.2.2.2.2.2.2.2.2.2.2.2.2.2.2.1
      have g19 := hI.2.2.2.2.2.2.2.2.2.2.2.2.2.2.2.2.2.2.2.2.2.1
      have g20 := hI.2.2.2.2.2.2.2.2.2.2.2.2.2.2.2.2.2.2.2.2.2.2.1
      have g21 := hI.2.2.2.2.2.2.2.2.2.2.2.2.2.2.2.2.2.2.2.2.2.2.2.1
      have g22 := hI.2.2.2.2.2.2.2.2.2.2.2.2.2.2.2.2.2.2.2.2.2.2.2.2.1
      have g23 := hI.2.2.2.2.2.2.2.2.2.2.2.2.2.2.2.2.2.2.2.2.2.2.2.2.2.1
      have g24 := hI.2.2.2.2.2.2.2.2.2.2.2.2.2.2.2.2.2.2.2.2.2.2.2.2.2.2
      clear hI
      simp [Region.binds] at hd
      dsimp only at hK ⊢
      have e15 := g15 (by simp [hd])
      subst e15
      have e18 := g18 (by simp [hd])
      subst e18
      have e21 := g21 (by simp [hd])
      subst e21
      go_wp2_with fail
      refine (HO.out w').mono ?_
      rintro _ w4 ⟨rfl, hb4⟩
      exact hK _ _ ⟨_, _, _, _, _, _, _, _, _, _, _, _, _, _, _, _, _, _, _, _, _, _, _, _, _, rfl, bst hb hb4, fun h => by
            obtain ⟨q, q1, q2⟩ := g0 h
            exact ⟨q, q1, q2.below hb4 q2.lt⟩, fun h => own_below (g1 h) hb4, g2.below hb4, g3, g4, g5, g6, g7, g8, g9, g10, g11, g12, g13, g14, g15, fun h => by
            obtain ⟨q, q1, q2⟩ := g16 h
            exact ⟨q, q1, q2.below hb4 q2.lt⟩, fun h => by
            obtain ⟨q, q1, q2⟩ := g17 h
            exact ⟨q, q1, q2.below hb4 q2.lt⟩, g18, fun h => by
            obtain ⟨q, q1, q2⟩ := g19 h
            exact ⟨q, q1, q2.below hb4 q2.lt⟩, fun h => by
            obtain ⟨q, q1, q2⟩ := g20 h
            exact ⟨q, q1, q2.below hb4 q2.lt⟩, g21, fun _ => rfl, g23, g24⟩
    · intro L a w' hI hl hd K hK
      refine hI.elim fun u10 hI => hI.elim fun u11 hI => hI.elim fun u12 hI => hI.elim fun u13 hI => hI.elim fun u14 hI => hI.elim fun u15 hI => hI.elim fun u16 hI => hI.elim fun u17 hI => hI.elim fun u18 hI => hI.elim fun u19 hI => hI.elim fun u20 hI => hI.elim fun u21 hI => hI.elim fun u22 hI => hI.elim fun u23 hI => hI.elim fun u24 hI => hI.elim fun u25 hI => hI.elim fun u26 hI => hI.elim fun u27 hI => hI.elim fun u28 hI => hI.elim fun u29 hI => hI.elim fun u30 hI => hI.elim fun u31 hI => hI.elim fun u32 hI => hI.elim fun u33 hI => hI.elim fun u0 hI => ?_
      have ha := hI.1
      subst ha
      have hb := hI.2.1
      have g0 := hI.2.2.1
      have g1 := hI.2.2.2.1
      have g2 := hI.2.2.2.2.1
      have g3 := hI.2.2.2.2.2.1
      have g4 := hI.2.2.2.2.2.2.1
      have g5 := hI.2.2.2.2.2.2.2.1
      have g6 := hI.2.2.2.2.2.2.2.2.1
      have g7 := hI.2.2.2.2.2.2.2.2.2.1
      have g8 := hI.2.2.2.2.2.2.2.2.2.2.1
      have g9 := hI.2.2.2.2.2.2.2.2.2.2.2.1
      have g10 := hI.2.2.2.2.2.2.2.2.2.2.2.2.1
      have g11 := hI.2.2.2.2.2.2.2.2.2.2.2.2.2.1
      have g12 := hI.2.2.2.2.2.2.2.2.2.2.2.2.2.2.1
      have g13 := hI.2.2.2.2.2.2.2.2.2.2.2.2.2.2.2.1
      have g14 := hI.2.2.2.2.2.2.2.2.2.2.2.2.2.2.2.2.1
      have g15 := hI.2.2.2.2.2.2.2.2.2.2.2.2.2.2.2.2.2.1
      have g16 := hI.2.2.2.2.2.2.2.2.2.2.2.2.2.2.2.2.2.2.1
      have g17 := hI.2.2.2.2.2.2.2.2.2.2.2.2.2.2.2.2.2.2.2.1
      have g18 := hI.2.2.2.2.2.2.2.2.2.2.2.2.2.2.2.2.2.2.2.2.1
      have g19 := hI.2.2.2.2.2.2.2.2.2.2.2.2.2.2.2.2.2.2.2.2.2.1
      have g20 := hI.2.2.2.2.2.2.2.2.2.2.2.2.2.2.2.2.2.2.2.2.2.2.1
      have g21 := hI.2.2.2.2.2.2.2.2.2.2.2.2.2.2.2.2.2.2.2.2.2.2.2.1
      have g22 := hI.2.2.2.2.2.2.2.2.2.2.2.2.2.2.2.2.2.2.2.2.2.2.2.2.1
      have g23 := hI.2.2.2.2.2.2.2.2.2.2.2.2.2.2.2.2.2.2.2.2.2.2.2.2.2.1
      have g24 := hI.2.2.2.2.2.2.2.2.2.2.2.2.2.2.2.2.2.2.2.2.2.2.2.2.2.2
      clear hI
      simp [Region.binds] at hd
      dsimp only at hK ⊢
      have e15 := g15 (by simp [hd])
      subst e15
      have e22 := g22 (by simp [hd])
      subst e22
      go_simp
      exact hK _ _ ⟨_, _, _, _, _, _, _, _, _, _, _, _, _, _, _, _, _, _, _, _, _, _, _, _, _, rfl, hb, g0, g1, g2, g3, g4, g5, g6, g7, g8, g9, g10, g11, g12, g13, g14, g15, g16, g17, g18, g19, g20, g21, g22, fun _ => rfl, g24⟩
    · intro L a w' hI hl hd K hK
      refine hI.elim fun u10 hI => hI.elim fun u11 hI => hI.elim fun u12 hI => hI.elim fun u13 hI => hI.elim fun u14 hI => hI.elim fun u15 hI => hI.elim fun u16 hI => hI.elim fun u17 hI => hI.elim fun u18 hI => hI.elim fun u19 hI => hI.elim fun u20 hI => hI.elim fun u21 hI => hI.elim fun u22 hI => hI.elim fun u23 hI => hI.elim fun u24 hI => hI.elim fun u25 hI => hI.elim fun u26 hI => hI.elim fun u27 hI => hI.elim fun u28 hI => hI.elim fun u29 hI => hI.elim fun u30 hI => hI.elim fun u31 hI => hI.elim fun u32 hI => hI.elim fun u33 hI => hI.elim fun u0 hI => ?_
      have ha := hI.1
      subst ha
      have hb := hI.2.1
      have g0 := hI.2.2.1
      have g1 := hI.2.2.2.1
      have g2 := hI.2.2.2.2.1
      have g3 := hI.2.2.2.2.2.1
      have g4 := hI.2.2.2.2.2.2.1
      have g5 := hI.2.2.2.2.2.2.2.1
      have g6 := hI.2.2.2.2.2.2.2.2.1
      have g7 := hI.2.2.2.2.2.2.2.2.2.1
      have g8 := hI.2.2.2.2.2.2.2.2.2.2.1
      have g9 := hI.2.2.2.2.2.2.2.2.2.2.2.1
      have g10 := hI.2.2.2.2.2.2.2.2.2.2.2.2.1
      have g11 := hI.2.2.2.2.2.2.2.2.2.2.2.2.2.1
      have g12 := hI.2.2.2.2.2.2.2.2.2.2.2.2.2.2.1
      have g13 := hI.2.2.2.2.2.2.2.2.2.2.2.2.2.2.2.1
      have g14 := hI.2.2.2.2.2.2.2.2.2.2.2.2.2.2.2.2.1
      have g15 := hI.2.2.2.2.2.2.2.2.2.2.2.2.2.2.2.2.2.1
      have g16 := hI.2.2.2.2.2.2.2.2.2.2.2.2.2.2.2.2.2.2.1
      have g17 := hI.2.2.2.2.2.2.2.2.2.2.2.2.2.2.2.2.2.2.2.1
      have g18 := hI.2.2.2.2.2.2.2.2.2.2.2.2.2.2.2.2.2.2.2.2.1
      have g19 := hI.2.2.2.2.2.2.2.2.2.2.2.2.2.2.2.2.2.2.2.2.2.1
      have g20 := hI.2.2.2.2.2.2.2.2.2.2.2.2.2.2.2.2.2.2.2.2.2.2.1
      have g21 := hI.2.2.2.2.2.2.2.2.2.2.2.2.2.2.2.2.2.2.2.2.2.2.2.1
      have g22 := hI.2.2.2.2.2.2.2.2.2.2.2.2.2.2.2.2.2.2.2.2.2.2.2.2.1
      have g23 := hI.2.2.2.2.2.2.2.2.2.2.2.2.2.2.2.2.2.2.2.2.2.2.2.2.2.1
      have g24 := hI.2.2.2.2.2.2.2.2.2.2.2.2.2.2.2.2.2.2.2.2.2.2.2.2.2.2
      clear hI
      simp [Region.binds] at hd
      dsimp only at hK ⊢
      have e23 := g23 (by simp [hd])
      subst e23
      go_simp
      exact hK _ _ ⟨_, _, _, _, _, _, _, _, _, _, _, _, _, _, _, _, _, _, _, _, _, _, _, _, _, rfl, hb, g0, g1, g2, g3, g4, g5, g6, g7, g8, g9, g10, g11, g12, g13, g14, g15, g16, g17, g18, g19, g20, g21, g22, g23, fun _ => rfl⟩
  intro a w3 hI
  refine hI.elim fun u10 hI => hI.elim fun u11 hI => hI.elim fun u12 hI => hI.elim fun u13 hI => hI.elim fun u14 hI => hI.elim fun u15 hI => hI.elim fun u16 hI => hI.elim fun u17 hI => hI.elim fun u18 hI => hI.elim fun u19 hI => hI.elim fun u20 hI => hI.elim fun u21 hI => hI.elim fun u22 hI => hI.elim fun u23 hI => hI.elim fun u24 hI => hI.elim fun u25 hI => hI.elim fun u26 hI => hI.elim fun u27 hI => hI.elim fun u28 hI => hI.elim fun u29 hI => hI.elim fun u30 hI => hI.elim fun u31 hI => hI.elim fun u32 hI => hI.elim fun u33 hI => hI.elim fun u0 hI => ?_
  have ha := hI.1
  subst ha
  have hb := hI.2.1
  have g0 := hI.2.2.1
  have g1 := hI.2.2.2.1
  have g2 := hI.2.2.2.2.1
  have g3 := hI.2.2.2.2.2.1
  have g4 := hI.2.2.2.2.2.2.1
  have g5 := hI.2.2.2.2.2.2.2.1
  have g6 := hI.2.2.2.2.2.2.2.2.1
  have g7 := hI.2.2.2.2.2.2.2.2.2.1
  have g8 := hI.2.2.2.2.2.2.2.2.2.2.1
  have g9 := hI.2.2.2.2.2.2.2.2.2.2.2.1
  have g10 := hI.2.2.2.2.2.2.2.2.2.2.2.2.1
  have g11 := hI.2.2.2.2.2.2.2.2.2.2.2.2.2.1
  have g12 := hI.2.2.2.2.2.2.2.2.2.2.2.2.2.2.1
  have g13 := hI.2.2.2.2.2.2.2.2.2.2.2.2.2.2.2.1
  have g14 := hI.2.2.2.2.2.2.2.2.2.2.2.2.2.2.2.2.1
  have g15 := hI.2.2.2.2.2.2.2.2.2.2.2.2.2.2.2.2.2.1
  have g16 := hI.2.2.2.2.2.2.2.2.2.2.2.2.2.2.2.2.2.2.1
  have g17 := hI.2.2.2.2.2.2.2.2.2.2.2.2.2.2.2.2.2.2.2.1
  have g18 := hI.2.2.2.2.2.2.2.2.2.2.2.2.2.2.2.2.2.2.2.2.1
  have g19 := hI.2.2.2.2.2.2.2.2.2.2.2.2.2.2.2.2.2.2.2.2.2.1
  have g20 := hI.2.2.2.2.2.2.2.2.2.2.2.2.2.2.2.2.2.2.2.2.2.2.1
  have g21 := hI.2.2.2.2.2.2.2.2.2.2.2.2.2.2.2.2.2.2.2.2.2.2.2.1
  have g22 := hI.2.2.2.2.2.2.2.2.2.2.2.2.2.2.2.2.2.2.2.2.2.2.2.2.1
  have g23 := hI.2.2.2.2.2.2.2.2.2.2.2.2.2.2.2.2.2.2.2.2.2.2.2.2.2.1
  have g24 := hI.2.2.2.2.2.2.2.2.2.2.2.2.2.2.2.2.2.2.2.2.2.2.2.2.2.2
  clear hI
  have e24 := g24 rfl
  subst e24
  have HX := Lib.hid (bst HB2.out hb)
  clear g0 g1 g2 g3 g4 g5 g6 g7 g8 g9 g10 g11 g12 g13 g14 g15 g16 g17 g18 g19 g20 g21 g22 g23 g24 hb
  go_wp2
  go_ret
  exact RetBe.mk_ rfl HX.out
end Go.Proofs.Ytcjekbncllccbaa
