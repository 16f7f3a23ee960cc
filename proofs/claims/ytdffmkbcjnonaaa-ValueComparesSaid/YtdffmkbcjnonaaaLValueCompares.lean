/-
  The walk of the law ValueCompares.
-/
import Derived.Test.YtdffmkbcjnonaaaKInv
import Derived.Test.YtdffmkbcjnonaaaValPut
import Derived.Test.YtdffmkbcjnonaaaColumn
import Derived.Lib.QuietBelow
import Derived.BigQuiet
namespace Go.Proofs.Ytdffmkbcjnonaaa
open Go.RowKit Go.Sort
theorem reg_n' {P : Program} {f : FuncId} {args : Array Value} {w : World} {x : Int} (h : ∀ W, Calls P f args W (RetN W x)) : ∀ d os, Calls P f args (grow (redrawn w d) os) fun e w'' => e = .returned (.int .i64 x) ∧ ∃ p : Regrown, w'' = grow (redrawn w p.d) p.os :=
  fun d os => Calls.regrown_of ((h (grow (redrawn w d) os)).mono fun _ _ h => h)
theorem reg_b' {P : Program} {f : FuncId} {args : Array Value} {w : World} {b : Bool} (h : ∀ W, Calls P f args W (RetB1' W b)) : ∀ d os, Calls P f args (grow (redrawn w d) os) fun e w'' => e = .returned (.bool b) ∧ ∃ p : Regrown, w'' = grow (redrawn w p.d) p.os :=
  fun d os => Calls.regrown_of ((h (grow (redrawn w d) os)).mono fun _ _ h => h)
set_option maxRecDepth 100000 in
set_option maxHeartbeats 4000000 in
theorem valueCompares_walk (t : Int) (an : Bool) (ax : Int) (as_ : ByteArray) (bn : Bool) (bx : Int) (bs : ByteArray) (v3 v4 : Value) (z3 z4 : List Int) (w : World)
    (hs3 : Sl w 1 v3 z3.length (ints z3)) (hl3 : z3.length ≤ 9223372036854775807) (hr3 : ∀ x ∈ z3, -9223372036854775808 ≤ x ∧ x ≤ 9223372036854775807)
    (hs4 : Sl w 1 v4 z4.length (ints z4)) (hl4 : z4.length ≤ 9223372036854775807) (hr4 : ∀ x ∈ z4, -9223372036854775808 ≤ x ∧ x ≤ 9223372036854775807) :
    Calls Try.prog 10 #[.int .i64 t, .agg #[.bool an, .int .i64 ax, .string as_], .agg #[.bool bn, .int .i64 bx, .string bs], v3, v4] w (RetB1' w true) := by
  obtain ⟨A3, c3, rfl, _, _⟩ := hs3.form
  obtain ⟨A4, c4, rfl, _, _⟩ := hs4.form
  obtain ⟨W0, hW0⟩ : ∃ W0, W0 = (w.alloc (.cells #[.bool an, .int .i64 ax, .string as_] 30)).alloc (.cells #[.bool bn, .int .i64 bx, .string bs] 30) := ⟨_, rfl⟩
  have hb0 : Below w.heap.size w W0 := by rw [hW0]; exact ((Below.refl _ _).alloc (Nat.le_refl _) _).alloc (by simp) _
  have hz0 : W0.heap.size = w.heap.size + 2 := by rw [hW0]; simp
  have q0 : W0.cell? ⟨w.heap.size, 0, none⟩ = some (.bool an) := by rw [hW0]; simp
  have q1 : W0.cell? ⟨w.heap.size, 1, none⟩ = some (.int .i64 ax) := by rw [hW0]; simp
  have q2 : W0.cell? ⟨w.heap.size, 2, none⟩ = some (.string as_) := by rw [hW0]; simp
  have r0 : W0.cell? ⟨w.heap.size + 1, 0, none⟩ = some (.bool bn) := by rw [hW0]; simp
  have r1 : W0.cell? ⟨w.heap.size + 1, 1, none⟩ = some (.int .i64 bx) := by rw [hW0]; simp
  have r2 : W0.cell? ⟨w.heap.size + 1, 2, none⟩ = some (.string bs) := by rw [hW0]; simp
  have HC := Lib.hid (column_any t 0 true W0)
  have HR3 := Lib.hid hr3
  have HR4 := Lib.hid hr4
  clear hr3 hr4
  go_enter Try.func10, Try.ntmps10
  go_wp2_with fail
  rw [← hW0]
  clear hW0
  refine HC.out.mono ?_
  rintro e w1 ⟨T, K, rfl, hcol, hb1⟩
  obtain ⟨hT1, hT2, _⟩ := hcol
  obtain ⟨W, hW⟩ : ∃ W, W = w1.alloc (.cells #[.string { data := #[120] }, .int .i64 T, .int .i64 K, .bool true] 55) := ⟨_, rfl⟩
  have hb2 : Below W0.heap.size W0 W := by rw [hW]; exact hb1.alloc hb1.size _
  have hbw := bst hb0 hb2
  have hcw : Blk W w1.heap.size 55 #[.string { data := #[120] }, .int .i64 T, .int .i64 K, .bool true] := by rw [hW]; exact Blk.new _ _ _
  have HK3 := Lib.hid (fun (X : World) (h : Below w.heap.size w X) => kvalue_any { data := #[120] } T K true (.slice A3 z3.length c3) z3 X hT1 hT2 (hs3.below h) hl3 HR3.out)
  have HK4 := Lib.hid (fun (X : World) (h : Below w.heap.size w X) => kvalue_any { data := #[120] } T K true (.slice A4 z4.length c4) z4 X hT1 hT2 (hs4.below h) hl4 HR4.out)
  have g0 : W.cell? ⟨w1.heap.size, 0, none⟩ = some (.string { data := #[120] }) := hcw.cell 0
  have g1 : W.cell? ⟨w1.heap.size, 1, none⟩ = some (.int .i64 T) := hcw.cell 1
  have g2 : W.cell? ⟨w1.heap.size, 2, none⟩ = some (.int .i64 K) := hcw.cell 2
  have g3 : W.cell? ⟨w1.heap.size, 3, none⟩ = some (.bool true) := hcw.cell 3
  have hzw : w1.heap.size < W.heap.size := hcw.lt
  go_wp2_with fail
  rw [← hW]
  clear hW
  refine wp_region_inv (by kernel_rfl) (by kernel_rfl) (fun L a w' => ∃ u16 u17 u18 u19 u20 u21 u12 u13 : Value,
      a = ⟨#[.int .i64 t, .agg #[.bool an, .int .i64 ax, .string as_], .agg #[.bool bn, .int .i64 bx, .string bs], .slice A3 z3.length c3, .slice A4 z4.length c4, undef,
        .pointer (some ⟨w.heap.size, 0, none⟩), .pointer (some ⟨w.heap.size + 1, 0, none⟩), undef, undef, .bool false, .pointer (some ⟨w1.heap.size, 0, none⟩), u12, u13, .int .i64 t,
        .agg #[.string { data := #[120] }, .int .i64 T, .int .i64 K, .bool true], u16, u17, u18, u19, u20, u21, undef, undef, undef, undef, undef, undef, undef, undef, undef, undef, undef, undef, undef, undef, undef, undef, undef, undef, undef, undef, undef, undef, undef, undef, undef, undef, undef, undef, undef, undef, undef, undef, undef, undef, undef, undef, undef, undef], []⟩ ∧
      Below W.heap.size W w' ∧
      KF (L 0) (L 1) (L 2) (L 6) (L 8) W.heap.size 30 (OkV T true) (.agg #[.string { data := #[120] }, .int .i64 T, .int .i64 K, .bool true]) (.slice A3 z3.length c3) u16 u17 u18 u12 w' ∧
      KF (L 3) (L 4) (L 5) (L 7) (L 9) W.heap.size 30 (OkV T true) (.agg #[.string { data := #[120] }, .int .i64 T, .int .i64 K, .bool true]) (.slice A4 z4.length c4) u19 u20 u21 u13 w' ∧ sep (L 6) (L 7) u12 u13)
    ?_ ?_ ?_
  · exact ⟨undef, undef, undef, undef, undef, undef, undef, undef, rfl, (Below.refl _ _).drew, KF.start _ _ _ _ _ rfl rfl rfl rfl rfl, KF.start _ _ _ _ _ rfl rfl rfl rfl rfl, nofun⟩
  · refine ⟨?_, ?_, ?_, ?_, ?_, ?_, ?_, ?_, ?_, ?_, trivial⟩
    all_goals
      rintro L a w' ⟨u16, u17, u18, u19, u20, u21, u12, u13, rfl, hb, k1, k2, hsep⟩ hl hd K hK
      have g0' := (hb.cell (p := ⟨w1.heap.size, 0, none⟩) hzw).trans g0
      have g1' := (hb.cell (p := ⟨w1.heap.size, 1, none⟩) hzw).trans g1
      have g2' := (hb.cell (p := ⟨w1.heap.size, 2, none⟩) hzw).trans g2
      have g3' := (hb.cell (p := ⟨w1.heap.size, 3, none⟩) hzw).trans g3
      simp [Region.binds] at hd
    all_goals dsimp only at hK ⊢
    · go_simp
      exact hK _ _ ⟨_, u17, u18, u19, u20, u21, u12, u13, rfl, hb, k1.l, k2, hsep⟩
    · go_simp
      exact hK _ _ ⟨u16, _, u18, u19, u20, u21, u12, u13, rfl, hb, k1.m, k2, hsep⟩
    · have e1 := k1.1 hd.1
      have e2 := k1.2.1 hd.2
      subst e1 e2
      go_wp2_with (go_at_call 36; (with_reducible refine (HK3.out _ (bst hbw hb)).mono ?_); rintro e w3 ⟨b3, n3, s3, rfl, hok3, hbk⟩)
      exact ⟨_, _, .agg #[.bool b3, .int .i64 n3, .string s3], u19, u20, u21, u12, u13, rfl, hb.trans (hbk.mono hb.size), (k1.below hbk).c hl ⟨b3, n3, s3, rfl, hok3⟩, k2.below hbk, hsep⟩
    · go_simp
      exact hK _ _ ⟨u16, u17, u18, _, u20, u21, u12, u13, rfl, hb, k1, k2.l, hsep⟩
    · go_simp
      exact hK _ _ ⟨u16, u17, u18, u19, _, u21, u12, u13, rfl, hb, k1, k2.m, hsep⟩
    · have e1 := k2.1 hd.1
      have e2 := k2.2.1 hd.2.1
      subst e1 e2
      go_wp2_with (go_at_call 36; (with_reducible refine (HK4.out _ (bst hbw hb)).mono ?_); rintro e w3 ⟨b3, n3, s3, rfl, hok3, hbk⟩)
      exact ⟨u16, u17, u18, _, _, .agg #[.bool b3, .int .i64 n3, .string s3], u12, u13, rfl, hb.trans (hbk.mono hb.size), k1.below hbk, (k2.below hbk).c hl ⟨b3, n3, s3, rfl, hok3⟩, hsep⟩
    · go_simp
      exact hK _ _ ⟨u16, u17, u18, u19, u20, u21, _, u13, rfl, hb.alloc hb.size _, k1.a hl hb.size (Blk.new _ _ _), k2.below ((Below.refl _ _).alloc (Nat.le_refl _) _), fun _ h he => k2.new_ne h he.symm⟩
    · go_simp
      exact hK _ _ ⟨u16, u17, u18, u19, u20, u21, u12, _, rfl, hb.alloc hb.size _, k1.below ((Below.refl _ _).alloc (Nat.le_refl _) _), k2.a hl hb.size (Blk.new _ _ _), fun h _ he => k1.new_ne h he⟩
    · obtain ⟨b3, n3, s3, e, hok3⟩ := k1.2.2.1 hd.2.1
      subst e
      obtain ⟨A, x, y, z, e, hN, hB⟩ := k1.ptr hd.1
      subst e
      have c0 : w'.cell? ⟨A, 0, none⟩ = some x := hB.cell 0
      have c1 : w'.cell? ⟨A, 1, none⟩ = some y := hB.cell 1
      have c2 : w'.cell? ⟨A, 2, none⟩ = some z := hB.cell 2
      have f0 := hB.frozen 0
      have f1 := hB.frozen 1
      have f2 := hB.frozen 2
      go_simp
      exact hK _ _ ⟨u16, u17, _, u19, u20, u21, _, u13, rfl, below3 _ _ _ hb hN, k1.s hd.2.1 hd.1 (blk3 _ _ _ hB), k2.far (fun h he => hsep hd.1 h he.symm) (far3 _ _ _), hsep⟩
    · obtain ⟨b3, n3, s3, e, hok3⟩ := k2.2.2.1 hd.2.1
      subst e
      obtain ⟨A, x, y, z, e, hN, hB⟩ := k2.ptr hd.1
      subst e
      have c0 : w'.cell? ⟨A, 0, none⟩ = some x := hB.cell 0
      have c1 : w'.cell? ⟨A, 1, none⟩ = some y := hB.cell 1
      have c2 : w'.cell? ⟨A, 2, none⟩ = some z := hB.cell 2
      have f0 := hB.frozen 0
      have f1 := hB.frozen 1
      have f2 := hB.frozen 2
      go_simp
      exact hK _ _ ⟨u16, u17, u18, u19, u20, _, u12, _, rfl, below3 _ _ _ hb hN, k1.far (fun h he => hsep h hd.1 he) (far3 _ _ _), k2.s hd.2.1 hd.1 (blk3 _ _ _ hB), hsep⟩
  · rintro a w2 ⟨u16, u17, u18, u19, u20, u21, u12, u13, rfl, hb, k1, k2, _⟩
    obtain ⟨A, bA, nA, sA, rfl, hNA, hokA, hBA⟩ := k1.fin
    obtain ⟨B, bB, nB, sB, rfl, hNB, hokB, hBB⟩ := k2.fin
    dsimp only
    have hbf := hb2.trans (hb.mono hb2.size)
    have e0 := cell_regrown ((hbf.cell (p := ⟨w.heap.size, 0, none⟩) (by simp; omega)).trans q0)
    have e1 := cell_regrown ((hbf.cell (p := ⟨w.heap.size, 1, none⟩) (by simp; omega)).trans q1)
    have e2 := cell_regrown ((hbf.cell (p := ⟨w.heap.size, 2, none⟩) (by simp; omega)).trans q2)
    have e3 := cell_regrown ((hbf.cell (p := ⟨w.heap.size + 1, 0, none⟩) (by simp; omega)).trans r0)
    have e4 := cell_regrown ((hbf.cell (p := ⟨w.heap.size + 1, 1, none⟩) (by simp; omega)).trans r1)
    have e5 := cell_regrown ((hbf.cell (p := ⟨w.heap.size + 1, 2, none⟩) (by simp; omega)).trans r2)
    have e6 := cell_regrown ((hb.cell (p := ⟨w1.heap.size, 1, none⟩) hzw).trans g1)
    have d0 := cell_regrown (show w2.cell? ⟨A, 0, none⟩ = some (.bool bA) from hBA.cell 0)
    have d1 := cell_regrown (show w2.cell? ⟨A, 1, none⟩ = some (.int .i64 nA) from hBA.cell 1)
    have d2 := cell_regrown (show w2.cell? ⟨A, 2, none⟩ = some (.string sA) from hBA.cell 2)
    have d3 := cell_regrown (show w2.cell? ⟨B, 0, none⟩ = some (.bool bB) from hBB.cell 0)
    have d4 := cell_regrown (show w2.cell? ⟨B, 1, none⟩ = some (.int .i64 nB) from hBB.cell 1)
    have d5 := cell_regrown (show w2.cell? ⟨B, 2, none⟩ = some (.string sB) from hBB.cell 2)
    have HB := Lib.hid (bst hbw hb)
    have A1 := Lib.hid (reg_b' (w := w2) (fun X => awake6_any X))
    have A2 := Lib.hid (reg_n' (w := w2) (fun X => compare_any t an ax as_ bn bx bs X))
    have A3 := Lib.hid (reg_n' (w := w2) (fun X => rcompare_any t an ax as_ bn bx bs X))
    have A4 := Lib.hid (reg_n' (w := w2) (fun X => compare_any T bA nA sA bB nB sB X))
    have A5 := Lib.hid (reg_n' (w := w2) (fun X => rcompare_any T bA nA sA bB nB sB X))
    have A6 := Lib.hid (reg_n' (w := w2) (fun X => compare_any T an ax as_ bn bx bs X))
    have A7 := Lib.hid (reg_n' (w := w2) (fun X => rcompare_any T an ax as_ bn bx bs X))
    clear hb hb0 hb1 hb2 hbf q0 q1 q2 r0 r1 r2 g0 g1 g2 g3 HK3 HK4 HC HR3 HR4 k1 k2 hBA hBB
    go_wp2_with fail
    refine wp_region_quiet_below (by kernel_rfl) (by kernel_rfl) ?_
    repeat (go_big_quiet_step ((first | (with_reducible exact A1.out _ _) | (with_reducible exact A2.out _ _) | (with_reducible exact A3.out _ _) | (with_reducible exact A4.out _ _) | (with_reducible exact A5.out _ _) | (with_reducible exact A6.out _ _) | (with_reducible exact A7.out _ _))))
    refine wpQuiet_nil ?_
    intro _ hw'
    obtain ⟨⟨dq, osq⟩, hw''⟩ := hw'
    subst hw''
    go_wp2
    go_ret
    exact ⟨by simp, bst HB.out (below_regrown w2 dq osq)⟩
end Go.Proofs.Ytdffmkbcjnonaaa
