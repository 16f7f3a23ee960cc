/-
  The walk of the law SnapshotExamples.
-/
import Derived.Test.YtoikgjhekemjdaaApply
import Derived.Test.YtoikgjhekemjdaaSameSn
import Derived.Test.YtoikgjhekemjdaaInv2
namespace Go.Proofs.Ytoikgjhekemjdaa
open Go.RowKit Go.Sort
theorem lent_small (i v : Int) : (lent i v).small := by
  have e0 : ({ data := #[] } : ByteArray).size = 0 := rfl
  unfold Ent.small; simp only [lent, zrk, e0]; omega
theorem ex_apply : applyV ⟨4, 7, 9, [lent 3 5, lent 5 9]⟩ ⟨2, 5, 7, 9, [lent 3 2], [3]⟩ = (0, ⟨5, 7, 9, [lent 3 2, lent 5 9]⟩) := by kernel_rfl
set_option maxRecDepth 100000 in
set_option maxHeartbeats 2000000 in
theorem snapshotExamples_walk (w : World) : Calls Try.prog 3 #[] w (RetBe w true) := by
  go_enter Try.func3, Try.ntmps3
  go_wp2_with fail
  refine (two_any w).mono ?_
  rintro e w1 ⟨v1, rfl, hs1, hb1⟩
  obtain ⟨A1, c1, rfl, _, _⟩ := hs1.form
  go_wp2_with fail
  refine (lentry_any 3 2 w1).mono ?_
  rintro e w2 ⟨rfl, hb2⟩
  have hs2 := hs1.below hb2
  have hB2 := bst hb1 hb2
  clear hs1 hb1 hb2
  obtain ⟨W, hW⟩ : ∃ W, W = (w2.alloc (.cells #[.int .i64 3, .int .i64 9, .int .i64 2, .bool false, .int .i64 0, .string { data := #[] }, .int .i64 0, .bool false, .int .i64 0, .string { data := #[] }, .int .i64 0, .int .i64 0] 34)).alloc (.cells #[.int .i64 3] 3) := ⟨_, rfl⟩
  have hBW : Below w2.heap.size w2 W := by rw [hW]; exact abel2 _ _ _
  have bE : Blk W w2.heap.size 34 #[.int .i64 3, .int .i64 9, .int .i64 2, .bool false, .int .i64 0, .string { data := #[] }, .int .i64 0, .bool false, .int .i64 0, .string { data := #[] }, .int .i64 0, .int .i64 0] := by rw [hW]; exact (Blk.new _ _ _).alloc _
  have bI : Blk W (w2.heap.size + 1) 3 #[.int .i64 3] := by
    have := Blk.new (w2.alloc (.cells #[.int .i64 3, .int .i64 9, .int .i64 2, .bool false, .int .i64 0, .string { data := #[] }, .int .i64 0, .bool false, .int .i64 0, .string { data := #[] }, .int .i64 0, .int .i64 0] 34)) 3 #[.int .i64 3]
    rw [hW]; simpa using this
  have HA := Lib.hid (apply_any 4 7 9 [lent 3 5, lent 5 9] 2 5 7 9 [lent 3 2] [3] (.slice A1 2 c1) (.slice (some ⟨w2.heap.size, 0, none⟩) 1 1) (.slice (some ⟨w2.heap.size + 1, 0, none⟩) 1 1) W (hs2.below hBW) two_small (by simp)
    (bE.sl (n := 1) (size := 12) rfl (by unfold maxLen; omega)) (by intro e he; simp at he; subst he; exact lent_small 3 2) (by simp) (bI.sl (n := 1) (size := 1) rfl (by unfold maxLen; omega)) (by simp))
  rw [ex_apply] at HA
  have HB := Lib.hid (bst hB2 hBW)
  clear hs2 bE bI
  go_wp2_with fail
  rw [← hW]
  clear hW
  refine HA.out.mono ?_
  rintro e w3 ⟨v3, rfl, ho3, hb3⟩
  obtain ⟨A3, c3, rfl, _, _⟩ := (Sl.of_own ho3).form
  go_upto_region 2 with (fail)
  obtain ⟨X, hX⟩ : ∃ X, X = w3.alloc (.cells #[.int .i64 5, .int .i64 7, .int .i64 9, .slice A3 2 c3] 24) := ⟨_, rfl⟩
  have bX : Blk X w3.heap.size 24 #[.int .i64 5, .int .i64 7, .int .i64 9, .slice A3 2 c3] := by rw [hX]; exact Blk.new _ _ _
  have hoX : X.ownsRow W.heap.size 34 12 (.slice A3 2 c3) 2 (ents [lent 3 2, lent 5 9]) := by rw [hX]; exact ho3.alloc _
  have HBX := Lib.hid (show Below w.heap.size w X by rw [hX]; exact (bst HB.out hb3).alloc (bst HB.out hb3).size _)
  rw [← hX]
  clear hX
  refine wp_region_inv (by kernel_rfl) (by kernel_rfl) (fun L a w' => ∃ u0 u12 u13 u14 u15 u16 u17 u18 u19 u20 u21 : Value, a = ⟨#[u0, .pointer (some ⟨w3.heap.size, 0, none⟩), .int .i64 0, .tuple #[.agg #[.int .i64 5, .int .i64 7, .int .i64 9, .slice A3 2 c3], .int .i64 0], .agg #[.int .i64 4, .int .i64 7, .int .i64 9, .slice A1 2 c1], .agg #[.int .i64 3, .int .i64 9, .int .i64 2, .bool false, .int .i64 0, .string { data := #[] }, .int .i64 0, .bool false, .int .i64 0, .string { data := #[] }, .int .i64 0, .int .i64 0], .slice (some ⟨w2.heap.size, 0, none⟩) 1 1, .slice (some ⟨w2.heap.size + 1, 0, none⟩) 1 1, .agg #[.int .i64 2, .int .i64 5, .int .i64 7, .int .i64 9, .slice (some ⟨w2.heap.size, 0, none⟩) 1 1, .slice (some ⟨w2.heap.size + 1, 0, none⟩) 1 1], .tuple #[.agg #[.int .i64 5, .int .i64 7, .int .i64 9, .slice A3 2 c3], .int .i64 0], .agg #[.int .i64 5, .int .i64 7, .int .i64 9, .slice A3 2 c3], .int .i64 0, u12, u13, u14, u15, u16, u17, u18, u19, u20, u21], []⟩ ∧
      Below X.heap.size X w' ∧ Got (L 0) u12 (.int .i64 0) ∧ Got (L 1) u13 (.bool true) ∧ Got (L 2) u14 (.bool true) ∧ Got (L 3) u15 (.agg #[.int .i64 5, .int .i64 7, .int .i64 9, .slice A3 2 c3]) ∧ Got (L 4) u16 (.agg #[.int .i64 3, .int .i64 9, .int .i64 2, .bool false, .int .i64 0, .string { data := #[] }, .int .i64 0, .bool false, .int .i64 0, .string { data := #[] }, .int .i64 0, .int .i64 0]) ∧ Got (L 5) u17 (.agg #[.int .i64 5, .int .i64 9, .int .i64 9, .bool false, .int .i64 0, .string { data := #[] }, .int .i64 0, .bool false, .int .i64 0, .string { data := #[] }, .int .i64 0, .int .i64 0]) ∧ GotRow (L 6) X.heap.size u18 2 34 #[.int .i64 3, .int .i64 9, .int .i64 2, .bool false, .int .i64 0, .string { data := #[] }, .int .i64 0, .bool false, .int .i64 0, .string { data := #[] }, .int .i64 0, .int .i64 0, .int .i64 5, .int .i64 9, .int .i64 9, .bool false, .int .i64 0, .string { data := #[] }, .int .i64 0, .bool false, .int .i64 0, .string { data := #[] }, .int .i64 0, .int .i64 0] w' ∧ Got (L 7) u19 (.agg #[.int .i64 5, .int .i64 7, .int .i64 9, u18]) ∧ Got (L 8) u20 (.bool true) ∧ Got (L 9) u21 (.bool true) ∧ Got (L 10) u0 (.bool true) ∧ (L 7 = true → L 6 = true))
    ?_ ?_ ?_
  · exact ⟨_, _, _, _, _, _, _, _, _, _, _, rfl, (Below.refl _ _).drew, nofun, nofun, nofun, nofun, nofun, nofun, nofun, nofun, nofun, nofun, nofun, nofun⟩
  · refine ⟨?_, ?_, ?_, ?_, ?_, ?_, ?_, ?_, ?_, ?_, ?_, trivial⟩
    · rintro L a w' ⟨u0, u12, u13, u14, u15, u16, u17, u18, u19, u20, u21, rfl, hb, g0, g1, g2, g3, g4, g5, g6, g7, g8, g9, g10, g11⟩ hl hd K hK
      dsimp only at hK ⊢
      go_simp
      exact hK _ _ ⟨_, _, _, _, _, _, _, _, _, _, _, rfl, hb, fun _ => rfl, g1, g2, g3, g4, g5, g6, g7, g8, g9, g10, g11⟩
    · rintro L a w' ⟨u0, u12, u13, u14, u15, u16, u17, u18, u19, u20, u21, rfl, hb, g0, g1, g2, g3, g4, g5, g6, g7, g8, g9, g10, g11⟩ hl hd K hK
      simp [Region.binds] at hd
      dsimp only at hK ⊢
      have e0 := g0 (by simp [hd])
      subst e0
      go_simp
      exact hK _ _ ⟨_, _, _, _, _, _, _, _, _, _, _, rfl, hb, g0, fun _ => rfl, g2, g3, g4, g5, g6, g7, g8, g9, g10, g11⟩
    · rintro L a w' ⟨u0, u12, u13, u14, u15, u16, u17, u18, u19, u20, u21, rfl, hb, g0, g1, g2, g3, g4, g5, g6, g7, g8, g9, g10, g11⟩ hl hd K hK
      simp [Region.binds] at hd
      dsimp only at hK ⊢
      have e1 := g1 (by simp [hd])
      subst e1
      go_simp
      exact hK _ _ ⟨_, _, _, _, _, _, _, _, _, _, _, rfl, hb, g0, g1, fun _ => rfl, g3, g4, g5, g6, g7, g8, g9, g10, g11⟩
    · rintro L a w' ⟨u0, u12, u13, u14, u15, u16, u17, u18, u19, u20, u21, rfl, hb, g0, g1, g2, g3, g4, g5, g6, g7, g8, g9, g10, g11⟩ hl hd K hK
      simp [Region.binds] at hd
      dsimp only at hK ⊢
      have e2 := g2 (by simp [hd])
      subst e2
      have bb := bX.below hb bX.lt
      have c0 := bb.cell 0
      have c1 := bb.cell 1
      have c2 := bb.cell 2
      have c3 := bb.cell 3
      simp only [List.getElem?_toArray, List.getElem?_cons_zero, List.getElem?_cons_succ] at c0 c1 c2 c3
      go_simp
      exact hK _ _ ⟨_, _, _, _, _, _, _, _, _, _, _, rfl, hb, g0, g1, g2, fun _ => rfl, g4, g5, g6, g7, g8, g9, g10, g11⟩
    · rintro L a w' ⟨u0, u12, u13, u14, u15, u16, u17, u18, u19, u20, u21, rfl, hb, g0, g1, g2, g3, g4, g5, g6, g7, g8, g9, g10, g11⟩ hl hd K hK
      simp [Region.binds] at hd
      dsimp only at hK ⊢
      have e2 := g2 (by simp [hd])
      subst e2
      have HK := Lib.hid hK
      clear hK
      go_wp2_with fail
      refine (lentry_any 3 2 w').mono ?_
      rintro _ w5 ⟨rfl, hb5⟩
      have hK := HK.out
      exact hK _ _ ⟨_, _, _, _, _, _, _, _, _, _, _, rfl, bst hb hb5, g0, g1, g2, g3, fun _ => rfl, g5, g6.below hb5, g7, g8, g9, g10, g11⟩
    · rintro L a w' ⟨u0, u12, u13, u14, u15, u16, u17, u18, u19, u20, u21, rfl, hb, g0, g1, g2, g3, g4, g5, g6, g7, g8, g9, g10, g11⟩ hl hd K hK
      simp [Region.binds] at hd
      dsimp only at hK ⊢
      have e2 := g2 (by simp [hd])
      subst e2
      have HK := Lib.hid hK
      clear hK
      go_wp2_with fail
      refine (lentry_any 5 9 w').mono ?_
      rintro _ w5 ⟨rfl, hb5⟩
      have hK := HK.out
      exact hK _ _ ⟨_, _, _, _, _, _, _, _, _, _, _, rfl, bst hb hb5, g0, g1, g2, g3, g4, fun _ => rfl, g6.below hb5, g7, g8, g9, g10, g11⟩
    · rintro L a w' ⟨u0, u12, u13, u14, u15, u16, u17, u18, u19, u20, u21, rfl, hb, g0, g1, g2, g3, g4, g5, g6, g7, g8, g9, g10, g11⟩ hl hd K hK
      simp [Region.binds] at hd
      dsimp only at hK ⊢
      have e2 := g2 (by simp [hd])
      subst e2
      have e4 := g4 (by simp [hd])
      subst e4
      have e5 := g5 (by simp [hd])
      subst e5
      go_simp
      exact hK _ _ ⟨_, _, _, _, _, _, _, _, _, _, _, rfl, hb.alloc hb.size _, g0, g1, g2, g3, g4, g5, fun _ => ⟨_, rfl, hb.size, Blk.new _ _ _⟩, fun h => absurd (show L 6 = true from g11 h) (by rw [hl]; simp), g8, g9, g10, fun _ => rfl⟩
    · rintro L a w' ⟨u0, u12, u13, u14, u15, u16, u17, u18, u19, u20, u21, rfl, hb, g0, g1, g2, g3, g4, g5, g6, g7, g8, g9, g10, g11⟩ hl hd K hK
      simp [Region.binds] at hd
      dsimp only at hK ⊢
      have e2 := g2 (by simp [hd])
      subst e2
      obtain ⟨A8, e8, hN8, hB8⟩ := g6 (by simp [hd])
      subst e8
      go_simp
      exact hK _ _ ⟨_, _, _, _, _, _, _, _, _, _, _, rfl, hb, g0, g1, g2, g3, g4, g5, fun _ => ⟨A8, rfl, hN8, hB8⟩, fun _ => rfl, g8, g9, g10, fun _ => by show L 6 = true; simp [hd]⟩
    · rintro L a w' ⟨u0, u12, u13, u14, u15, u16, u17, u18, u19, u20, u21, rfl, hb, g0, g1, g2, g3, g4, g5, g6, g7, g8, g9, g10, g11⟩ hl hd K hK
      simp [Region.binds] at hd
      dsimp only at hK ⊢
      have e2 := g2 (by simp [hd])
      subst e2
      have e3 := g3 (by simp [hd])
      subst e3
      have e7 := g7 (by simp [hd])
      subst e7
      obtain ⟨A8, e8, hN8, hB8⟩ := g6 (g11 (by simp [hd]))
      subst e8
      have HSA := Lib.hid (sameSnap_any 5 7 9 (.slice A3 2 c3) (.slice (some ⟨A8, 0, none⟩) 2 2) [lent 3 2, lent 5 9] w' ((Sl.of_own hoX).below hb) (hB8.sl (n := 2) (size := 12) rfl (by unfold maxLen; omega)) (by simp))
      have HK := Lib.hid hK
      clear hK
      go_wp2_with fail
      refine HSA.out.mono ?_
      rintro _ w5 ⟨rfl, hb5⟩
      have hK := HK.out
      exact hK _ _ ⟨_, _, _, _, _, _, _, _, _, _, _, rfl, bst hb hb5, g0, g1, g2, g3, g4, g5, fun _ => ⟨A8, rfl, hN8, hB8.below hb5 hB8.lt⟩, g7, fun _ => rfl, g9, g10, g11⟩
    · rintro L a w' ⟨u0, u12, u13, u14, u15, u16, u17, u18, u19, u20, u21, rfl, hb, g0, g1, g2, g3, g4, g5, g6, g7, g8, g9, g10, g11⟩ hl hd K hK
      simp [Region.binds] at hd
      dsimp only at hK ⊢
      have e2 := g2 (by simp [hd])
      subst e2
      have e8 := g8 (by simp [hd])
      subst e8
      go_simp
      exact hK _ _ ⟨_, _, _, _, _, _, _, _, _, _, _, rfl, hb, g0, g1, g2, g3, g4, g5, g6, g7, g8, fun _ => rfl, g10, g11⟩
    · rintro L a w' ⟨u0, u12, u13, u14, u15, u16, u17, u18, u19, u20, u21, rfl, hb, g0, g1, g2, g3, g4, g5, g6, g7, g8, g9, g10, g11⟩ hl hd K hK
      simp [Region.binds] at hd
      dsimp only at hK ⊢
      have e9 := g9 (by simp [hd])
      subst e9
      go_simp
      exact hK _ _ ⟨_, _, _, _, _, _, _, _, _, _, _, rfl, hb, g0, g1, g2, g3, g4, g5, g6, g7, g8, g9, fun _ => rfl, g11⟩
  rintro a w9 ⟨u0, u12, u13, u14, u15, u16, u17, u18, u19, u20, u21, rfl, hb, g0, g1, g2, g3, g4, g5, g6, g7, g8, g9, g10, g11⟩
  have e10 := g10 rfl
  subst e10
  have HF := Lib.hid (HBX.out.trans (hb.mono HBX.out.size))
  clear g0 g1 g2 g3 g4 g5 g6 g7 g8 g9 g10 g11 hb
  go_wp2
  go_ret
  exact RetBe.mk_ rfl HF.out
end Go.Proofs.Ytoikgjhekemjdaa
