/-
  The walk of the law ValueIsOrdered.
-/
import Derived.Test.YtdffmkbcjnonaaaKInv
import Derived.Test.YtdffmkbcjnonaaaValPut
import Derived.Test.YtdffmkbcjnonaaaColumn
import Derived.Test.YtdffmkbcjnonaaaOrdLaw
import Derived.Lib.QuietBelow
import Derived.BigQuiet
import Derived.Laws.StructEq
namespace Go.Proofs.Ytdffmkbcjnonaaa
open Go.RowKit Go.Sort
theorem reg_n3 {P : Program} {f : FuncId} {args : Array Value} {w : World} {x : Int} (h : ∀ W, Calls P f args W (RetN W x)) : ∀ d os, Calls P f args (grow (redrawn w d) os) fun e w'' => e = .returned (.int .i64 x) ∧ ∃ p : Regrown, w'' = grow (redrawn w p.d) p.os :=
  fun d os => Calls.regrown_of ((h (grow (redrawn w d) os)).mono fun _ _ h => h)
set_option maxRecDepth 100000 in
set_option maxHeartbeats 8000000 in
theorem valueIsOrdered_walk (t : Int) (v1 v2 v3 : Value) (z1 z2 z3 : List Int) (w : World)
    (hs1 : Sl w 1 v1 z1.length (ints z1)) (hl1 : z1.length ≤ 9223372036854775807) (hr1 : ∀ x ∈ z1, -9223372036854775808 ≤ x ∧ x ≤ 9223372036854775807)
    (hs2 : Sl w 1 v2 z2.length (ints z2)) (hl2 : z2.length ≤ 9223372036854775807) (hr2 : ∀ x ∈ z2, -9223372036854775808 ≤ x ∧ x ≤ 9223372036854775807)
    (hs3 : Sl w 1 v3 z3.length (ints z3)) (hl3 : z3.length ≤ 9223372036854775807) (hr3 : ∀ x ∈ z3, -9223372036854775808 ≤ x ∧ x ≤ 9223372036854775807) :
    Calls Try.prog 11 #[.int .i64 t, v1, v2, v3] w (RetB1' w true) := by
  obtain ⟨A1, c1, rfl, _, _⟩ := hs1.form
  obtain ⟨A2, c2, rfl, _, _⟩ := hs2.form
  obtain ⟨A3, c3, rfl, _, _⟩ := hs3.form
  have HC := Lib.hid (column_any t 2 true w)
  have HR1 := Lib.hid hr1
  have HR2 := Lib.hid hr2
  have HR3 := Lib.hid hr3
  clear hr1 hr2 hr3
  go_enter Try.func11, Try.ntmps11
  go_wp2_with fail
  refine HC.out.mono ?_
  rintro e w1 ⟨T, K, rfl, hcol, hb1⟩
  obtain ⟨hT1, hT2, _⟩ := hcol
  obtain ⟨W, hW⟩ : ∃ W, W = w1.alloc (.cells #[.string { data := #[120] }, .int .i64 T, .int .i64 K, .bool true] 55) := ⟨_, rfl⟩
  have hbw : Below w.heap.size w W := by rw [hW]; exact hb1.alloc hb1.size _
  have hcw : Blk W w1.heap.size 55 #[.string { data := #[120] }, .int .i64 T, .int .i64 K, .bool true] := by rw [hW]; exact Blk.new _ _ _
  have HK1 := Lib.hid (fun (X : World) (h : Below w.heap.size w X) => kvalue_any { data := #[120] } T K true (.slice A1 z1.length c1) z1 X hT1 hT2 (hs1.below h) hl1 HR1.out)
  have HK2 := Lib.hid (fun (X : World) (h : Below w.heap.size w X) => kvalue_any { data := #[120] } T K true (.slice A2 z2.length c2) z2 X hT1 hT2 (hs2.below h) hl2 HR2.out)
  have HK3 := Lib.hid (fun (X : World) (h : Below w.heap.size w X) => kvalue_any { data := #[120] } T K true (.slice A3 z3.length c3) z3 X hT1 hT2 (hs3.below h) hl3 HR3.out)
  have g0 : W.cell? ⟨w1.heap.size, 0, none⟩ = some (.string { data := #[120] }) := hcw.cell 0
  have g1 : W.cell? ⟨w1.heap.size, 1, none⟩ = some (.int .i64 T) := hcw.cell 1
  have g2 : W.cell? ⟨w1.heap.size, 2, none⟩ = some (.int .i64 K) := hcw.cell 2
  have g3 : W.cell? ⟨w1.heap.size, 3, none⟩ = some (.bool true) := hcw.cell 3
  have hzw : w1.heap.size < W.heap.size := hcw.lt
  go_wp2_with fail
  rw [← hW]
  clear hW
  refine wp_region_inv (by kernel_rfl) (by kernel_rfl) (fun L a w' => ∃ u18 u19 u20 u21 u22 u23 u24 u25 u26 u10 u11 u12 : Value,
      a = ⟨#[.int .i64 t, .slice A1 z1.length c1, .slice A2 z2.length c2, .slice A3 z3.length c3, undef, undef, undef, undef, .bool false, .pointer (some ⟨w1.heap.size, 0, none⟩), u10, u11, u12, undef, undef, undef, .int .i64 t, .agg #[.string { data := #[120] }, .int .i64 T, .int .i64 K, .bool true], u18, u19, u20, u21, u22, u23, u24, u25, u26, undef, undef, undef, undef, undef, undef, undef, undef, undef, undef, undef, undef, undef, undef, undef, undef, undef, undef, undef, undef, undef, undef, undef, undef, undef, undef, undef, undef, undef, undef, undef, undef, undef, undef, undef, undef, undef, undef, undef, undef, undef, undef, undef, undef, undef, undef, undef, undef, undef, undef, undef, undef, undef, undef, undef, undef], []⟩ ∧
      Below W.heap.size W w' ∧
      KF (L 0) (L 1) (L 2) (L 9) (L 12) W.heap.size 30 (OkV T true) (.agg #[.string { data := #[120] }, .int .i64 T, .int .i64 K, .bool true]) (.slice A1 z1.length c1) u18 u19 u20 u10 w' ∧
      KF (L 3) (L 4) (L 5) (L 10) (L 13) W.heap.size 30 (OkV T true) (.agg #[.string { data := #[120] }, .int .i64 T, .int .i64 K, .bool true]) (.slice A2 z2.length c2) u21 u22 u23 u11 w' ∧
      KF (L 6) (L 7) (L 8) (L 11) (L 14) W.heap.size 30 (OkV T true) (.agg #[.string { data := #[120] }, .int .i64 T, .int .i64 K, .bool true]) (.slice A3 z3.length c3) u24 u25 u26 u12 w' ∧
      sep (L 9) (L 10) u10 u11 ∧ sep (L 9) (L 11) u10 u12 ∧ sep (L 10) (L 11) u11 u12)
    ?_ ?_ ?_
  · exact ⟨undef, undef, undef, undef, undef, undef, undef, undef, undef, undef, undef, undef, rfl, (Below.refl _ _).drew, KF.start _ _ _ _ _ rfl rfl rfl rfl rfl, KF.start _ _ _ _ _ rfl rfl rfl rfl rfl, KF.start _ _ _ _ _ rfl rfl rfl rfl rfl, nofun, nofun, nofun⟩
  · refine ⟨?_, ?_, ?_, ?_, ?_, ?_, ?_, ?_, ?_, ?_, ?_, ?_, ?_, ?_, ?_, trivial⟩
    all_goals
      rintro L a w' ⟨u18, u19, u20, u21, u22, u23, u24, u25, u26, u10, u11, u12, rfl, hb, k1, k2, k3, s01, s02, s12⟩ hl hd K hK
      have g0' := (hb.cell (p := ⟨w1.heap.size, 0, none⟩) hzw).trans g0
      have g1' := (hb.cell (p := ⟨w1.heap.size, 1, none⟩) hzw).trans g1
      have g2' := (hb.cell (p := ⟨w1.heap.size, 2, none⟩) hzw).trans g2
      have g3' := (hb.cell (p := ⟨w1.heap.size, 3, none⟩) hzw).trans g3
      simp [Region.binds] at hd
    all_goals dsimp only at hK ⊢
    · go_simp
      exact hK _ _ ⟨_, u19, u20, u21, u22, u23, u24, u25, u26, u10, u11, u12, rfl, hb, k1.l, k2, k3, s01, s02, s12⟩
    · go_simp
      exact hK _ _ ⟨u18, _, u20, u21, u22, u23, u24, u25, u26, u10, u11, u12, rfl, hb, k1.m, k2, k3, s01, s02, s12⟩
    · have e1 := k1.1 hd.1
      have e2 := k1.2.1 hd.2
      subst e1 e2
      go_wp2_with (go_at_call 36; (with_reducible refine (HK1.out _ (bst hbw hb)).mono ?_); rintro e w3 ⟨b3, n3, s3, rfl, hok3, hbk⟩)
      exact ⟨_, _, .agg #[.bool b3, .int .i64 n3, .string s3], u21, u22, u23, u24, u25, u26, u10, u11, u12, rfl, hb.trans (hbk.mono hb.size), (k1.below hbk).c hl ⟨b3, n3, s3, rfl, hok3⟩, k2.below hbk, k3.below hbk, s01, s02, s12⟩
    · go_simp
      exact hK _ _ ⟨u18, u19, u20, _, u22, u23, u24, u25, u26, u10, u11, u12, rfl, hb, k1, k2.l, k3, s01, s02, s12⟩
    · go_simp
      exact hK _ _ ⟨u18, u19, u20, u21, _, u23, u24, u25, u26, u10, u11, u12, rfl, hb, k1, k2.m, k3, s01, s02, s12⟩
    · have e1 := k2.1 hd.1
      have e2 := k2.2.1 hd.2.1
      subst e1 e2
      go_wp2_with (go_at_call 36; (with_reducible refine (HK2.out _ (bst hbw hb)).mono ?_); rintro e w3 ⟨b3, n3, s3, rfl, hok3, hbk⟩)
      exact ⟨u18, u19, u20, _, _, .agg #[.bool b3, .int .i64 n3, .string s3], u24, u25, u26, u10, u11, u12, rfl, hb.trans (hbk.mono hb.size), k1.below hbk, (k2.below hbk).c hl ⟨b3, n3, s3, rfl, hok3⟩, k3.below hbk, s01, s02, s12⟩
    · go_simp
      exact hK _ _ ⟨u18, u19, u20, u21, u22, u23, _, u25, u26, u10, u11, u12, rfl, hb, k1, k2, k3.l, s01, s02, s12⟩
    · go_simp
      exact hK _ _ ⟨u18, u19, u20, u21, u22, u23, u24, _, u26, u10, u11, u12, rfl, hb, k1, k2, k3.m, s01, s02, s12⟩
    · have e1 := k3.1 hd.1
      have e2 := k3.2.1 hd.2.1
      subst e1 e2
      go_wp2_with (go_at_call 36; (with_reducible refine (HK3.out _ (bst hbw hb)).mono ?_); rintro e w3 ⟨b3, n3, s3, rfl, hok3, hbk⟩)
      exact ⟨u18, u19, u20, u21, u22, u23, _, _, .agg #[.bool b3, .int .i64 n3, .string s3], u10, u11, u12, rfl, hb.trans (hbk.mono hb.size), k1.below hbk, k2.below hbk, (k3.below hbk).c hl ⟨b3, n3, s3, rfl, hok3⟩, s01, s02, s12⟩
    · go_simp
      exact hK _ _ ⟨u18, u19, u20, u21, u22, u23, u24, u25, u26, _, u11, u12, rfl, hb.alloc hb.size _, k1.a hl hb.size (Blk.new _ _ _), k2.below ((Below.refl _ _).alloc (Nat.le_refl _) _), k3.below ((Below.refl _ _).alloc (Nat.le_refl _) _), fun _ h he => k2.new_ne h he.symm, fun _ h he => k3.new_ne h he.symm, s12⟩
    · go_simp
      exact hK _ _ ⟨u18, u19, u20, u21, u22, u23, u24, u25, u26, u10, _, u12, rfl, hb.alloc hb.size _, k1.below ((Below.refl _ _).alloc (Nat.le_refl _) _), k2.a hl hb.size (Blk.new _ _ _), k3.below ((Below.refl _ _).alloc (Nat.le_refl _) _), fun h _ he => k1.new_ne h he, s02, fun _ h he => k3.new_ne h he.symm⟩
    · go_simp
      exact hK _ _ ⟨u18, u19, u20, u21, u22, u23, u24, u25, u26, u10, u11, _, rfl, hb.alloc hb.size _, k1.below ((Below.refl _ _).alloc (Nat.le_refl _) _), k2.below ((Below.refl _ _).alloc (Nat.le_refl _) _), k3.a hl hb.size (Blk.new _ _ _), s01, fun h _ he => k1.new_ne h he, fun h _ he => k2.new_ne h he⟩
    · obtain ⟨b3, n3, s3, e, hok3⟩ := k1.2.2.1 hd.2.1
      subst e
      obtain ⟨A, x, y, z, e, hN, hB⟩ := k1.ptr hd.1
      subst e
      have c0 : w'.cell? ⟨A, 0, none⟩ = some x := hB.cell 0
      have c1 : w'.cell? ⟨A, 1, none⟩ = some y := hB.cell 1
      have c2 : w'.cell? ⟨A, 2, none⟩ = some z := hB.cell 2
      have f0 := hB.frozen 0
      have f1 := hB.frozen 1
      have f2 := hB.frozen 2
      go_simp
      exact hK _ _ ⟨u18, u19, _, u21, u22, u23, u24, u25, u26, _, u11, u12, rfl, below3 _ _ _ hb hN, k1.s hd.2.1 hd.1 (blk3 _ _ _ hB), k2.far (fun h he => s01 hd.1 h he.symm) (far3 _ _ _), k3.far (fun h he => s02 hd.1 h he.symm) (far3 _ _ _), s01, s02, s12⟩
    · obtain ⟨b3, n3, s3, e, hok3⟩ := k2.2.2.1 hd.2.1
      subst e
      obtain ⟨A, x, y, z, e, hN, hB⟩ := k2.ptr hd.1
      subst e
      have c0 : w'.cell? ⟨A, 0, none⟩ = some x := hB.cell 0
      have c1 : w'.cell? ⟨A, 1, none⟩ = some y := hB.cell 1
      have c2 : w'.cell? ⟨A, 2, none⟩ = some z := hB.cell 2
      have f0 := hB.frozen 0
      have f1 := hB.frozen 1
      have f2 := hB.frozen 2
      go_simp
      exact hK _ _ ⟨u18, u19, u20, u21, u22, _, u24, u25, u26, u10, _, u12, rfl, below3 _ _ _ hb hN, k1.far (fun h he => s01 h hd.1 he) (far3 _ _ _), k2.s hd.2.1 hd.1 (blk3 _ _ _ hB), k3.far (fun h he => s12 hd.1 h he.symm) (far3 _ _ _), s01, s02, s12⟩
    · obtain ⟨b3, n3, s3, e, hok3⟩ := k3.2.2.1 hd.2.1
      subst e
      obtain ⟨A, x, y, z, e, hN, hB⟩ := k3.ptr hd.1
      subst e
      have c0 : w'.cell? ⟨A, 0, none⟩ = some x := hB.cell 0
      have c1 : w'.cell? ⟨A, 1, none⟩ = some y := hB.cell 1
      have c2 : w'.cell? ⟨A, 2, none⟩ = some z := hB.cell 2
      have f0 := hB.frozen 0
      have f1 := hB.frozen 1
      have f2 := hB.frozen 2
      go_simp
      exact hK _ _ ⟨u18, u19, u20, u21, u22, u23, u24, u25, _, u10, u11, _, rfl, below3 _ _ _ hb hN, k1.far (fun h he => s02 h hd.1 he) (far3 _ _ _), k2.far (fun h he => s12 h hd.1 he) (far3 _ _ _), k3.s hd.2.1 hd.1 (blk3 _ _ _ hB), s01, s02, s12⟩
  · rintro a w2 ⟨u18, u19, u20, u21, u22, u23, u24, u25, u26, u10, u11, u12, rfl, hb, k1, k2, k3, _, _, _⟩
    obtain ⟨A, bA, nA, sA, rfl, hNA, hokA, hBA⟩ := k1.fin
    obtain ⟨B, bB, nB, sB, rfl, hNB, hokB, hBB⟩ := k2.fin
    obtain ⟨C, bC, nC, sC, rfl, hNC, hokC, hBC⟩ := k3.fin
    dsimp only
    have b6 := (hb.cell (p := ⟨w1.heap.size, 1, none⟩) hzw).trans g1
    have e6 := cell_regrown b6
    have d0 := cell_regrown (show w2.cell? ⟨A, 0, none⟩ = some (.bool bA) from hBA.cell 0)
    have d1 := cell_regrown (show w2.cell? ⟨A, 1, none⟩ = some (.int .i64 nA) from hBA.cell 1)
    have d2 := cell_regrown (show w2.cell? ⟨A, 2, none⟩ = some (.string sA) from hBA.cell 2)
    have e0 := cell_regrown (show w2.cell? ⟨B, 0, none⟩ = some (.bool bB) from hBB.cell 0)
    have e1 := cell_regrown (show w2.cell? ⟨B, 1, none⟩ = some (.int .i64 nB) from hBB.cell 1)
    have e2 := cell_regrown (show w2.cell? ⟨B, 2, none⟩ = some (.string sB) from hBB.cell 2)
    have f0 := cell_regrown (show w2.cell? ⟨C, 0, none⟩ = some (.bool bC) from hBC.cell 0)
    have f1 := cell_regrown (show w2.cell? ⟨C, 1, none⟩ = some (.int .i64 nC) from hBC.cell 1)
    have f2 := cell_regrown (show w2.cell? ⟨C, 2, none⟩ = some (.string sC) from hBC.cell 2)
    have HB := Lib.hid (bst hbw hb)
    have hz6 := Nat.lt_of_lt_of_le hzw hb.size
    obtain ⟨p, hp⟩ : ∃ p, p = cmpV T bA nA sA bB nB sB := ⟨_, rfl⟩
    obtain ⟨q, hq⟩ : ∃ q, q = cmpV T bB nB sB bC nC sC := ⟨_, rfl⟩
    obtain ⟨r, hr⟩ : ∃ r, r = cmpV T bA nA sA bC nC sC := ⟨_, rfl⟩
    have A1 := Lib.hid (reg_n3 (w := w2) (fun X => by have := compare_any T bA nA sA bB nB sB X; rw [← hp] at this; exact this))
    have A2 := Lib.hid (reg_n3 (w := w2) (fun X => by have := compare_any T bB nB sB bC nC sC X; rw [← hq] at this; exact this))
    have A3 := Lib.hid (reg_n3 (w := w2) (fun X => by have := compare_any T bA nA sA bC nC sC X; rw [← hr] at this; exact this))
    have A4 := Lib.hid (fun X => by have := compare_any T bB nB sB bA nA sA X; rw [cmpV_neg T bA nA sA bB nB sB, ← hp] at this; exact this)
    have HO := ord_cases hokA hokB hokC hp hq hr
    have BA := Lib.hid hBA
    have BB := Lib.hid hBB
    clear hb hb1 g0 g1 g2 g3 HK1 HK2 HK3 HC HR1 HR2 HR3 k1 k2 k3 hBA hBB hBC hp hq hr hokA hokB hokC
    go_wp2_with fail
    refine wp_region_quiet_below (by kernel_rfl) (by kernel_rfl) ?_
    repeat (go_big_quiet_step ((first | (with_reducible exact A1.out _ _) | (with_reducible exact A2.out _ _) | (with_reducible exact A3.out _ _))))
    refine wpQuiet_nil ?_
    intro w3 hw'
    obtain ⟨⟨dq, osq⟩, hw''⟩ := hw'
    have hb3 := below_regrown w2 dq osq
    rw [← hw''] at hb3
    clear hw'' d0 d1 d2 e0 e1 e2 e6 f0 f1 f2 A1 A2 A3
    have BA3 := BA.out.below hb3 BA.out.lt
    have BB3 := BB.out.below hb3 BB.out.lt
    have c6 := (hb3.cell (p := ⟨w1.heap.size, 1, none⟩) hz6).trans b6
    have hz3 := Nat.lt_of_lt_of_le hz6 hb3.size
    have HB3 := Lib.hid (bst HB.out hb3)
    clear BA BB b6 hb3 hzw hz6 hbw hcw HB
    obtain ⟨ho1, ho2⟩ := HO
    rcases ho1 with ⟨hpp, e1 | ⟨e1, e2⟩ | ⟨e1, e2, e3⟩⟩ | ⟨hpp, e1, e2, e3⟩ <;> rcases ho2 with hp | ⟨hp, t1⟩ | ⟨hp, t1, t2⟩ | ⟨hp, t1, t2⟩ | ⟨hp, t1, t2, t3⟩ | ⟨hp, t1, t2, t3, t4⟩
    all_goals first
      | (exfalso; omega)
      | (clear hpp
         subst hp
         go_wp2_with fail
         refine (awake6_any _).mono ?_
         rintro e w4 ⟨rfl, hb4⟩
         have c7 := (hb4.cell (p := ⟨w1.heap.size, 1, none⟩) hz3).trans c6
         have BA4 := BA3.below hb4 BA3.lt
         have BB4 := BB3.below hb4 BB3.lt
         have a0 : w4.cell? ⟨A, 0, none⟩ = some (.bool bA) := BA4.cell 0
         have a1 : w4.cell? ⟨A, 1, none⟩ = some (.int .i64 nA) := BA4.cell 1
         have a2 : w4.cell? ⟨A, 2, none⟩ = some (.string sA) := BA4.cell 2
         have b0 : w4.cell? ⟨B, 0, none⟩ = some (.bool bB) := BB4.cell 0
         have b1 : w4.cell? ⟨B, 1, none⟩ = some (.int .i64 nB) := BB4.cell 1
         have b2 : w4.cell? ⟨B, 2, none⟩ = some (.string sB) := BB4.cell 2
         go_wp2_with fail
         refine (A4.out _).mono ?_
         rintro e w5 ⟨rfl, hb5⟩
         have BA5 := BA4.below hb5 BA4.lt
         have BB5 := BB4.below hb5 BB4.lt
         have a3 : w5.cell? ⟨A, 0, none⟩ = some (.bool bA) := BA5.cell 0
         have a4 : w5.cell? ⟨A, 1, none⟩ = some (.int .i64 nA) := BA5.cell 1
         have a5 : w5.cell? ⟨A, 2, none⟩ = some (.string sA) := BA5.cell 2
         have b3 : w5.cell? ⟨B, 0, none⟩ = some (.bool bB) := BB5.cell 0
         have b4 : w5.cell? ⟨B, 1, none⟩ = some (.int .i64 nB) := BB5.cell 1
         have b5 : w5.cell? ⟨B, 2, none⟩ = some (.string sB) := BB5.cell 2
         go_wp2
         go_ret
         exact ⟨by simp, bst (bst HB3.out hb4) hb5⟩)
end Go.Proofs.Ytdffmkbcjnonaaa
