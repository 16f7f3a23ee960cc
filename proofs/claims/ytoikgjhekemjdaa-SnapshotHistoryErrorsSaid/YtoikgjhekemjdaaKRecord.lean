/-
  The contract of keep.Record.
-/
import Derived.Test.YtoikgjhekemjdaaEntOps
import Derived.Test.YtoikgjhekemjdaaSnapGen
import Derived.Test.YtoikgjhekemjdaaInv2
import Derived.Test.YtoikgjhekemjdaaRecKit
namespace Go.Proofs.Ytoikgjhekemjdaa
open Go.RowKit Go.Sort
set_option maxRecDepth 100000 in
set_option maxHeartbeats 8000000 in
theorem krecord_any (x q n : Int) (l : List Ent) (zs : List Int) (vs vl : Value) (w : World) (hs : Sl w 12 vs l.length (ents l)) (hsm : ∀ e ∈ l, e.small) (hl256 : l.length ≤ 256)
    (hx : 0 ≤ x ∧ x ≤ 2147483647) (hq : 0 ≤ q ∧ q ≤ 1099511627777) (hn : 1 ≤ n ∧ n ≤ 2147483647)
    (hz : Sl w 1 vl zs.length (ints zs)) (hzl : zs.length ≤ 9223372036854775807) (hzr : ∀ x ∈ zs, -9223372036854775808 ≤ x ∧ x ≤ 9223372036854775807) :
    Calls Try.prog 17 #[.agg #[.int .i64 x, .int .i64 q, .int .i64 n, vs], vl] w (RetRec w) := by
  obtain ⟨AS, cS, rfl, hS1, hS2⟩ := hs.form
  obtain ⟨Az, cz, rfl, hz1, hz2⟩ := hz.form
  unfold maxLen at hS2 hz2
  obtain ⟨hx1, hx2⟩ := hx
  obtain ⟨hq1, hq2⟩ := hq
  obtain ⟨hn1, hn2⟩ := hn
  obtain ⟨W, hW⟩ : ∃ W, W = (w.alloc (.cells #[.int .i64 x, .int .i64 q, .int .i64 n, .slice AS l.length cS] 24)).alloc (.cells #[.int .i64 0, .int .i64 0, .int .i64 0, .int .i64 0, .slice none 0 0, .slice none 0 0] 38) := ⟨_, rfl⟩
  have bS : Blk W w.heap.size 24 #[.int .i64 x, .int .i64 q, .int .i64 n, .slice AS l.length cS] := by rw [hW]; exact (Blk.new _ _ _).alloc _
  have bZ : Blk W (w.heap.size + 1) 38 #[.int .i64 0, .int .i64 0, .int .i64 0, .int .i64 0, .slice none 0 0, .slice none 0 0] := by
    have := Blk.new (w.alloc (.cells #[.int .i64 x, .int .i64 q, .int .i64 n, .slice AS l.length cS] 24)) 38 #[.int .i64 0, .int .i64 0, .int .i64 0, .int .i64 0, .slice none 0 0, .slice none 0 0]
    rw [hW]; simpa using this
  have hB : Below w.heap.size w W := by rw [hW]; exact abel2 _ _ _
  have HFR := Lib.hid (from_any _ zs W (hz.below hB) hzl hzr)
  have hWs : w.heap.size + 2 ≤ W.heap.size := by rw [hW]; simp
  have HSW := Lib.hid (hs.below hB)
  clear hs hz hzl hzr
  go_enter Try.func17, Try.ntmps17
  go_wp2_with fail
  rw [← hW]
  clear hW
  refine HFR.out.mono ?_
  rintro _ X ⟨g, rfl, hbX, hsrc⟩
  have bSX := bS.below hbX bS.lt
  have bZX := bZ.below hbX bZ.lt
  have hBX := bst hB hbX
  have hgg := hsrc.ge
  have hgl := hsrc.lt
  have hWX := hbX.size
  have HbS := Lib.hid bS
  have HbZ := Lib.hid bZ
  have HBW := Lib.hid hB
  have HbX := Lib.hid hbX
  clear bS bZ hB hbX HFR
  obtain ⟨rest, hrest⟩ : ∃ rest, zs = rest := ⟨_, rfl⟩
  rw [hrest] at hsrc
  have y1 := nxt_lo 4 rest (by omega)
  have y2 := nxt_hi 4 rest (by omega)
  have y3 := nxt_lo 5 rest.tail (by omega)
  have y4 := nxt_hi 5 rest.tail (by omega)
  obtain ⟨a1, ha1⟩ : ∃ a, nxt 4 rest = a := ⟨_, rfl⟩
  obtain ⟨a2, ha2⟩ : ∃ a, nxt 5 rest.tail = a := ⟨_, rfl⟩
  rw [ha1] at y1 y2
  rw [ha2] at y3 y4
  have HA1 := Lib.hid ha1
  have HA2 := Lib.hid ha2
  have HRS := Lib.hid hrest
  clear ha1 ha2 hrest
  have wr1 : IntKind.i64.wrap (x + 1) = x + 1 := IntWalk.i64_in _ (by omega)
  have wr2 : IntKind.i64.wrap (q + a1) = q + a1 := IntWalk.i64_in _ (by omega)
  have wr3 : IntKind.i64.wrap (n + a2) = n + a2 := IntWalk.i64_in _ (by omega)
  go_upto_region 2 with (fail)
  refine wp_region_inv (by kernel_rfl) (by kernel_rfl) (fun L a w' => ∃ u6 u14 u15 u16 u17 u18 u19 u20 u21 u22 u23 u24 u25 u26 u27 : Value, a = ⟨#[.agg #[.int .i64 x, .int .i64 q, .int .i64 n, .slice AS l.length cS], .slice Az zs.length cz, .pointer (some ⟨w.heap.size, 0, none⟩), undef, .pointer (some ⟨w.heap.size + 1, 0, none⟩), .pointer (some ⟨g, 0, none⟩), u6, undef, undef, undef, undef, undef, .slice Az zs.length cz, .pointer (some ⟨g, 0, none⟩), u14, u15, u16, u17, u18, u19, u20, u21, u22, u23, u24, u25, u26, u27, undef, undef, undef, undef, undef, undef, undef, undef, undef, undef, undef, undef, undef, undef, undef, undef, undef, undef, undef, undef, undef, undef, undef, undef, undef, undef, undef, undef, undef, undef, undef, undef, undef, undef, undef, undef, undef, undef, undef, undef, undef, undef, undef, undef, undef, undef, undef, undef, undef, undef, undef, undef, undef, undef, undef, undef, undef, undef, undef, undef, undef, undef, undef, undef, undef, undef, undef, undef, undef, undef, undef, undef, undef, undef, undef, undef, undef, undef, undef, undef, undef, undef, undef, undef, undef, undef, undef, undef, undef, undef, undef, undef, undef, undef, undef, undef, undef, undef], []⟩ ∧
      Only g X w' ∧ Got (L 0) u14 (.pointer (some ⟨w.heap.size, 0, none⟩)) ∧ Got (L 1) u15 (.int .i64 x) ∧ Got (L 2) u16 (.int .i64 (x + 1)) ∧ Got (L 3) u17 (.pointer (some ⟨w.heap.size, 1, none⟩)) ∧ Got (L 4) u18 (.int .i64 q) ∧ Got (L 5) u19 (.pointer (some ⟨g, 0, none⟩)) ∧ Got (L 6) u20 (.int .i64 a1) ∧ Got (L 7) u21 (.int .i64 (q + a1)) ∧ Got (L 8) u22 (.pointer (some ⟨w.heap.size, 2, none⟩)) ∧ Got (L 9) u23 (.int .i64 n) ∧ Got (L 10) u24 (.pointer (some ⟨g, 0, none⟩)) ∧ Got (L 11) u25 (.int .i64 a2) ∧ Got (L 12) u26 (.int .i64 (n + a2)) ∧ Got (L 13) u27 (.agg #[.int .i64 2, .int .i64 (x + 1), .int .i64 (q + a1), .int .i64 (n + a2), .slice none 0 0, .slice none 0 0]) ∧ (L 14 = true → ∃ N, u6 = .pointer (some ⟨N, 0, none⟩) ∧ X.heap.size ≤ N ∧ Blk w' N 38 (if L 15 = true then #[.int .i64 2, .int .i64 (x + 1), .int .i64 (q + a1), .int .i64 (n + a2), .slice none 0 0, .slice none 0 0] else #[.int .i64 0, .int .i64 0, .int .i64 0, .int .i64 0, .slice none 0 0, .slice none 0 0])) ∧ (L 15 = true → L 14 = true) ∧ (L 6 = false → Src w' W.heap.size 100 g rest) ∧ (L 6 = true → L 11 = false → Src w' W.heap.size 100 g rest.tail) ∧ (L 11 = true → Src w' W.heap.size 100 g rest.tail.tail) ∧ (L 11 = true → L 6 = true))
    ?_ ?_ ?_
  · exact ⟨_, _, _, _, _, _, _, _, _, _, _, _, _, _, _, rfl, (Only.refl g X).drewN 1, nofun, nofun, nofun, nofun, nofun, nofun, nofun, nofun, nofun, nofun, nofun, nofun, nofun, nofun, nofun, nofun, fun _ => hsrc.drewN 1, nofun, nofun, nofun⟩
  · refine ⟨?_, ?_, ?_, ?_, ?_, ?_, ?_, ?_, ?_, ?_, ?_, ?_, ?_, ?_, ?_, ?_, trivial⟩
    · rintro L a w' ⟨u6, u14, u15, u16, u17, u18, u19, u20, u21, u22, u23, u24, u25, u26, u27, rfl, hb, g0, g1, g2, g3, g4, g5, g6, g7, g8, g9, g10, g11, g12, g13, g14, g15, g16, g17, g18, g19⟩ hl hd K hK
      dsimp only at hK ⊢
      go_simp
      exact hK _ _ ⟨_, _, _, _, _, _, _, _, _, _, _, _, _, _, _, rfl, hb, fun _ => rfl, g1, g2, g3, g4, g5, g6, g7, g8, g9, g10, g11, g12, g13, g14, g15, g16, g17, g18, g19⟩
    · rintro L a w' ⟨u6, u14, u15, u16, u17, u18, u19, u20, u21, u22, u23, u24, u25, u26, u27, rfl, hb, g0, g1, g2, g3, g4, g5, g6, g7, g8, g9, g10, g11, g12, g13, g14, g15, g16, g17, g18, g19⟩ hl hd K hK
      simp [Region.binds] at hd
      dsimp only at hK ⊢
      have e0 := g0 (by simp [hd])
      subst e0
      have bb := (show Blk w' w.heap.size 24 #[.int .i64 x, .int .i64 q, .int .i64 n, .slice AS l.length cS] from bSX.grown hb (by intro e; injection e with e; omega))
      have cc := bb.cell 0
      simp only [List.getElem?_toArray, List.getElem?_cons_zero] at cc
      go_simp
      exact hK _ _ ⟨_, _, _, _, _, _, _, _, _, _, _, _, _, _, _, rfl, hb, g0, fun _ => rfl, g2, g3, g4, g5, g6, g7, g8, g9, g10, g11, g12, g13, g14, g15, g16, g17, g18, g19⟩
    · rintro L a w' ⟨u6, u14, u15, u16, u17, u18, u19, u20, u21, u22, u23, u24, u25, u26, u27, rfl, hb, g0, g1, g2, g3, g4, g5, g6, g7, g8, g9, g10, g11, g12, g13, g14, g15, g16, g17, g18, g19⟩ hl hd K hK
      simp [Region.binds] at hd
      dsimp only at hK ⊢
      have e1 := g1 (by simp [hd])
      subst e1
      go_simp
      exact hK _ _ ⟨_, _, _, _, _, _, _, _, _, _, _, _, _, _, _, rfl, hb, g0, g1, fun _ => rfl, g3, g4, g5, g6, g7, g8, g9, g10, g11, g12, g13, g14, g15, g16, g17, g18, g19⟩
    · rintro L a w' ⟨u6, u14, u15, u16, u17, u18, u19, u20, u21, u22, u23, u24, u25, u26, u27, rfl, hb, g0, g1, g2, g3, g4, g5, g6, g7, g8, g9, g10, g11, g12, g13, g14, g15, g16, g17, g18, g19⟩ hl hd K hK
      dsimp only at hK ⊢
      go_simp
      exact hK _ _ ⟨_, _, _, _, _, _, _, _, _, _, _, _, _, _, _, rfl, hb, g0, g1, g2, fun _ => rfl, g4, g5, g6, g7, g8, g9, g10, g11, g12, g13, g14, g15, g16, g17, g18, g19⟩
    · rintro L a w' ⟨u6, u14, u15, u16, u17, u18, u19, u20, u21, u22, u23, u24, u25, u26, u27, rfl, hb, g0, g1, g2, g3, g4, g5, g6, g7, g8, g9, g10, g11, g12, g13, g14, g15, g16, g17, g18, g19⟩ hl hd K hK
      simp [Region.binds] at hd
      dsimp only at hK ⊢
      have e3 := g3 (by simp [hd])
      subst e3
      have bb := (show Blk w' w.heap.size 24 #[.int .i64 x, .int .i64 q, .int .i64 n, .slice AS l.length cS] from bSX.grown hb (by intro e; injection e with e; omega))
      have cc := bb.cell 1
      simp only [List.getElem?_toArray, List.getElem?_cons_zero, List.getElem?_cons_succ] at cc
      go_simp
      exact hK _ _ ⟨_, _, _, _, _, _, _, _, _, _, _, _, _, _, _, rfl, hb, g0, g1, g2, g3, fun _ => rfl, g5, g6, g7, g8, g9, g10, g11, g12, g13, g14, g15, g16, g17, g18, g19⟩
    · rintro L a w' ⟨u6, u14, u15, u16, u17, u18, u19, u20, u21, u22, u23, u24, u25, u26, u27, rfl, hb, g0, g1, g2, g3, g4, g5, g6, g7, g8, g9, g10, g11, g12, g13, g14, g15, g16, g17, g18, g19⟩ hl hd K hK
      dsimp only at hK ⊢
      go_simp
      exact hK _ _ ⟨_, _, _, _, _, _, _, _, _, _, _, _, _, _, _, rfl, hb, g0, g1, g2, g3, g4, fun _ => rfl, g6, g7, g8, g9, g10, g11, g12, g13, g14, g15, g16, g17, g18, g19⟩
    · rintro L a w' ⟨u6, u14, u15, u16, u17, u18, u19, u20, u21, u22, u23, u24, u25, u26, u27, rfl, hb, g0, g1, g2, g3, g4, g5, g6, g7, g8, g9, g10, g11, g12, g13, g14, g15, g16, g17, g18, g19⟩ hl hd K hK
      simp [Region.binds] at hd
      dsimp only at hK ⊢
      have e5 := g5 (by simp [hd])
      subst e5
      have h11 : L 11 = false := by
        cases h : L 11 with
        | false => rfl
        | true => have := g19 h; rw [hl] at this; cases this
      have kS := g16 hl
      have HK := Lib.hid hK
      clear hK
      go_wp2_with fail
      refine (next_any _ g 4 rest w' kS (by omega) (by omega)).mono ?_
      rintro _ w5 ⟨rfl, ho5, hs5⟩
      have hK := HK.out
      rw [HA1.out]
      exact hK _ _ ⟨_, _, _, _, _, _, _, _, _, _, _, _, _, _, _, rfl, hb.trans ho5, g0, g1, g2, g3, g4, g5, fun _ => rfl, g7, g8, g9, g10, g11, g12, g13, fun h => by obtain ⟨N, e1, e2, e3⟩ := g14 h; exact ⟨N, e1, e2, e3.grown ho5 (by intro e; injection e with e; omega)⟩, g15, nofun, fun _ _ => hs5, fun h => absurd (show L 11 = true from h) (by rw [h11]; simp), fun _ => rfl⟩
    · rintro L a w' ⟨u6, u14, u15, u16, u17, u18, u19, u20, u21, u22, u23, u24, u25, u26, u27, rfl, hb, g0, g1, g2, g3, g4, g5, g6, g7, g8, g9, g10, g11, g12, g13, g14, g15, g16, g17, g18, g19⟩ hl hd K hK
      simp [Region.binds] at hd
      dsimp only at hK ⊢
      have e4 := g4 (by simp [hd])
      subst e4
      have e6 := g6 (by simp [hd])
      subst e6
      go_simp
      exact hK _ _ ⟨_, _, _, _, _, _, _, _, _, _, _, _, _, _, _, rfl, hb, g0, g1, g2, g3, g4, g5, g6, fun _ => rfl, g8, g9, g10, g11, g12, g13, g14, g15, g16, g17, g18, g19⟩
    · rintro L a w' ⟨u6, u14, u15, u16, u17, u18, u19, u20, u21, u22, u23, u24, u25, u26, u27, rfl, hb, g0, g1, g2, g3, g4, g5, g6, g7, g8, g9, g10, g11, g12, g13, g14, g15, g16, g17, g18, g19⟩ hl hd K hK
      dsimp only at hK ⊢
      go_simp
      exact hK _ _ ⟨_, _, _, _, _, _, _, _, _, _, _, _, _, _, _, rfl, hb, g0, g1, g2, g3, g4, g5, g6, g7, fun _ => rfl, g9, g10, g11, g12, g13, g14, g15, g16, g17, g18, g19⟩
    · rintro L a w' ⟨u6, u14, u15, u16, u17, u18, u19, u20, u21, u22, u23, u24, u25, u26, u27, rfl, hb, g0, g1, g2, g3, g4, g5, g6, g7, g8, g9, g10, g11, g12, g13, g14, g15, g16, g17, g18, g19⟩ hl hd K hK
      simp [Region.binds] at hd
      dsimp only at hK ⊢
      have e8 := g8 (by simp [hd])
      subst e8
      have bb := (show Blk w' w.heap.size 24 #[.int .i64 x, .int .i64 q, .int .i64 n, .slice AS l.length cS] from bSX.grown hb (by intro e; injection e with e; omega))
      have cc := bb.cell 2
      simp only [List.getElem?_toArray, List.getElem?_cons_zero, List.getElem?_cons_succ] at cc
      go_simp
      exact hK _ _ ⟨_, _, _, _, _, _, _, _, _, _, _, _, _, _, _, rfl, hb, g0, g1, g2, g3, g4, g5, g6, g7, g8, fun _ => rfl, g10, g11, g12, g13, g14, g15, g16, g17, g18, g19⟩
    · rintro L a w' ⟨u6, u14, u15, u16, u17, u18, u19, u20, u21, u22, u23, u24, u25, u26, u27, rfl, hb, g0, g1, g2, g3, g4, g5, g6, g7, g8, g9, g10, g11, g12, g13, g14, g15, g16, g17, g18, g19⟩ hl hd K hK
      dsimp only at hK ⊢
      go_simp
      exact hK _ _ ⟨_, _, _, _, _, _, _, _, _, _, _, _, _, _, _, rfl, hb, g0, g1, g2, g3, g4, g5, g6, g7, g8, g9, fun _ => rfl, g11, g12, g13, g14, g15, g16, g17, g18, g19⟩
    · rintro L a w' ⟨u6, u14, u15, u16, u17, u18, u19, u20, u21, u22, u23, u24, u25, u26, u27, rfl, hb, g0, g1, g2, g3, g4, g5, g6, g7, g8, g9, g10, g11, g12, g13, g14, g15, g16, g17, g18, g19⟩ hl hd K hK
      simp [Region.binds] at hd
      dsimp only at hK ⊢
      have e10 := g10 (by simp [hd])
      subst e10
      have h6 : L 6 = true := by simp [hd]
      have kS := g17 h6 hl
      have HK := Lib.hid hK
      clear hK
      go_wp2_with fail
      refine (next_any _ g 5 rest.tail w' kS (by omega) (by omega)).mono ?_
      rintro _ w5 ⟨rfl, ho5, hs5⟩
      have hK := HK.out
      rw [HA2.out]
      exact hK _ _ ⟨_, _, _, _, _, _, _, _, _, _, _, _, _, _, _, rfl, hb.trans ho5, g0, g1, g2, g3, g4, g5, g6, g7, g8, g9, g10, fun _ => rfl, g12, g13, fun h => by obtain ⟨N, e1, e2, e3⟩ := g14 h; exact ⟨N, e1, e2, e3.grown ho5 (by intro e; injection e with e; omega)⟩, g15, fun h => absurd (show L 6 = false from h) (by rw [h6]; simp), nofun, fun _ => hs5, fun _ => h6⟩
    · rintro L a w' ⟨u6, u14, u15, u16, u17, u18, u19, u20, u21, u22, u23, u24, u25, u26, u27, rfl, hb, g0, g1, g2, g3, g4, g5, g6, g7, g8, g9, g10, g11, g12, g13, g14, g15, g16, g17, g18, g19⟩ hl hd K hK
      simp [Region.binds] at hd
      dsimp only at hK ⊢
      have e9 := g9 (by simp [hd])
      subst e9
      have e11 := g11 (by simp [hd])
      subst e11
      go_simp
      exact hK _ _ ⟨_, _, _, _, _, _, _, _, _, _, _, _, _, _, _, rfl, hb, g0, g1, g2, g3, g4, g5, g6, g7, g8, g9, g10, g11, fun _ => rfl, g13, g14, g15, g16, g17, g18, g19⟩
    · rintro L a w' ⟨u6, u14, u15, u16, u17, u18, u19, u20, u21, u22, u23, u24, u25, u26, u27, rfl, hb, g0, g1, g2, g3, g4, g5, g6, g7, g8, g9, g10, g11, g12, g13, g14, g15, g16, g17, g18, g19⟩ hl hd K hK
      simp [Region.binds] at hd
      dsimp only at hK ⊢
      have e2 := g2 (by simp [hd])
      subst e2
      have e7 := g7 (by simp [hd])
      subst e7
      have e12 := g12 (by simp [hd])
      subst e12
      go_simp
      exact hK _ _ ⟨_, _, _, _, _, _, _, _, _, _, _, _, _, _, _, rfl, hb, g0, g1, g2, g3, g4, g5, g6, g7, g8, g9, g10, g11, g12, fun _ => rfl, g14, g15, g16, g17, g18, g19⟩
    · rintro L a w' ⟨u6, u14, u15, u16, u17, u18, u19, u20, u21, u22, u23, u24, u25, u26, u27, rfl, hb, g0, g1, g2, g3, g4, g5, g6, g7, g8, g9, g10, g11, g12, g13, g14, g15, g16, g17, g18, g19⟩ hl hd K hK
      dsimp only at hK ⊢
      have h15 : L 15 = false := by
        cases h : L 15 with
        | false => rfl
        | true => have := g15 h; rw [hl] at this; cases this
      go_simp
      exact hK _ _ ⟨_, _, _, _, _, _, _, _, _, _, _, _, _, _, _, rfl, hb.alloc _, g0, g1, g2, g3, g4, g5, g6, g7, g8, g9, g10, g11, g12, g13, fun _ => ⟨w'.heap.size, rfl, hb.size, by show Blk _ _ _ (if L 15 = true then _ else _); rw [if_neg (by rw [h15]; simp)]; exact Blk.new _ _ _⟩, fun _ => rfl, fun h => (g16 h).alloc _, fun h h2 => (g17 h h2).alloc _, fun h => (g18 h).alloc _, g19⟩
    · rintro L a w' ⟨u6, u14, u15, u16, u17, u18, u19, u20, u21, u22, u23, u24, u25, u26, u27, rfl, hb, g0, g1, g2, g3, g4, g5, g6, g7, g8, g9, g10, g11, g12, g13, g14, g15, g16, g17, g18, g19⟩ hl hd K hK
      simp [Region.binds] at hd
      dsimp only at hK ⊢
      have e13 := g13 (by simp [hd])
      subst e13
      have h14 : L 14 = true := by simp [hd]
      obtain ⟨N, e1, e2, e3⟩ := g14 h14
      subst e1
      rw [if_neg (by rw [hl]; simp)] at e3
      have f0 := e3.frozen 0
      have f1 := e3.frozen 1
      have f2 := e3.frozen 2
      have f3 := e3.frozen 3
      have f4 := e3.frozen 4
      have f5 := e3.frozen 5
      have c0 := e3.cell 0
      have c1 := e3.cell 1
      have c2 := e3.cell 2
      have c3 := e3.cell 3
      have c4 := e3.cell 4
      have c5 := e3.cell 5
      simp only [List.getElem?_toArray, List.getElem?_cons_zero, List.getElem?_cons_succ] at c0 c1 c2 c3 c4 c5
      have hlt := e3.lt
      go_simp
      have kg := grown6 w' N (.int .i64 2) (.int .i64 (x + 1)) (.int .i64 (q + a1)) (.int .i64 (n + a2)) (.slice none 0 0) (.slice none 0 0)
      have kb := blk6 (.int .i64 2) (.int .i64 (x + 1)) (.int .i64 (q + a1)) (.int .i64 (n + a2)) (.slice none 0 0) (.slice none 0 0) e3
      have hNg : g ≠ N := by omega
      have hNW : W.heap.size ≤ N := by omega
      exact hK _ _ ⟨_, _, _, _, _, _, _, _, _, _, _, _, _, _, _, rfl, hb.row kg e2, g0, g1, g2, g3, g4, g5, g6, g7, g8, g9, g10, g11, g12, g13, fun _ => ⟨N, rfl, e2, kb⟩, fun _ => h14, fun h => (g16 h).row kg hNg hNW, fun h h2 => (g17 h h2).row kg hNg hNW, fun h => (g18 h).row kg hNg hNW, g19⟩
  rintro a X2 ⟨u6, u14, u15, u16, u17, u18, u19, u20, u21, u22, u23, u24, u25, u26, u27, rfl, hb, g0, g1, g2, g3, g4, g5, g6, g7, g8, g9, g10, g11, g12, g13, g14, g15, g16, g17, g18, g19⟩
  have e0 := g0 rfl
  subst e0
  have e1 := g1 rfl
  subst e1
  have e2 := g2 rfl
  subst e2
  have e3 := g3 rfl
  subst e3
  have e4 := g4 rfl
  subst e4
  have e5 := g5 rfl
  subst e5
  have e6 := g6 rfl
  subst e6
  have e7 := g7 rfl
  subst e7
  have e8 := g8 rfl
  subst e8
  have e9 := g9 rfl
  subst e9
  have e10 := g10 rfl
  subst e10
  have e11 := g11 rfl
  subst e11
  have e12 := g12 rfl
  subst e12
  have e13 := g13 rfl
  subst e13
  obtain ⟨N, e14, hN, bN⟩ := g14 rfl
  subst e14
  rw [if_pos rfl] at bN
  have hs2 := g18 rfl
  have hb2 : Below W.heap.size W X2 := HbX.out.trans (hb.below (b := W.heap.size) hgg hWX)
  have hNW : W.heap.size ≤ N := by omega
  have hNg : g ≠ N := by omega
  clear g14 g15 g16 g17 g18 g19 bSX bZX hBX hsrc hb wr1 wr2 wr3 y1 y2 y3 y4
  clear g0 g1 g2 g3 g4 g5 g6 g7 g8 g9 g10 g11 g12 g13
  have bS2 := HbS.out.below hb2 HbS.out.lt
  have BN0 := Lib.hid bN
  have SR0 := Lib.hid hs2
  have HB0 := Lib.hid hb2
  clear bN hs2 hb2
  have s0 := bS2.cell 0
  have s1 := bS2.cell 1
  have s2 := bS2.cell 2
  have s3 := bS2.cell 3
  simp only [List.getElem?_toArray, List.getElem?_cons_zero, List.getElem?_cons_succ] at s0 s1 s2 s3
  clear bS2
  go_wp2
  clear s0 s1 s2 s3
  go_loopw [31] (fun i wr => ∃ (k : Nat) (add : List Ent) (rem : List Int) (va vr : Value) (rs : List Int), i = .int .i64 k ∧ k ≤ l.length ∧ add.length ≤ k ∧ rem.length ≤ k ∧ Hid (∀ e ∈ add, e.small) ∧ Blk wr N 38 #[.int .i64 2, .int .i64 (x + 1), .int .i64 (q + a1), .int .i64 (n + a2), va, vr] ∧ wr.ownsRow W.heap.size 34 12 va add.length (ents add) ∧ wr.ownsRow W.heap.size 3 1 vr rem.length (ints rem) ∧ Src wr W.heap.size 100 g rs ∧ Below W.heap.size W wr) (fun i _ => l.length - (intOf i).toNat)
  case atStart => exact ⟨0, [], [], _, _, _, rfl, Nat.zero_le _, Nat.le_refl _, Nat.le_refl _, (fun e he => by cases he), BN0.out, World.ownsRow_nil _ _ _ _, World.ownsRow_nil _ _ _ _, SR0.out, HB0.out⟩
  case round =>
    obtain ⟨k, add, rem, va, vr, rs, rfl, hk, hal, hrl, hsa, bN, oA, oR, sR, hB⟩ := hrel
    obtain ⟨A4, c4, rfl, ha1, ha2⟩ := (Sl.of_own oA).form
    obtain ⟨A5, c5, rfl, hr1, hr2⟩ := (Sl.of_own oR).form
    unfold maxLen at ha2 hr2
    have hBs := hB.size
    by_cases hlt : k < l.length
    · obtain ⟨ad, e, pp, rfl, he, hp, hE⟩ := (HSW.out.below hB).ent_load rfl hlt
      have hesm := hsm e (List.mem_of_getElem? he)
      obtain ⟨i1, ro1, li1, ⟨b1, n1, s1, q1⟩, ⟨b2, n2, s2, q2⟩, de1⟩ := e
      have HES := Lib.hid hesm
      obtain ⟨hplt, c0, c1, c2, c3, c4', c5', c6, c7, c8, c9, c10, c11⟩ := hE
      clear he hesm
      obtain ⟨Wb, hWb⟩ : ∃ Wb, Wb = wr.alloc (.cells #[.int .i64 i1, .int .i64 ro1, .int .i64 li1, .bool b1, .int .i64 n1, .string s1, .int .i64 q1, .bool b2, .int .i64 n2, .string s2, .int .i64 q2, .int .i64 de1] 34) := ⟨_, rfl⟩
      have hab : Below wr.heap.size wr Wb := by rw [hWb]; exact abel _ _
      have BN0 := Lib.hid bN
      have OA0 := Lib.hid oA
      have OR0 := Lib.hid oR
      have SR0 := Lib.hid sR
      have HB0 := Lib.hid hB
      have BE1 := Lib.hid (show Blk Wb wr.heap.size 34 #[.int .i64 i1, .int .i64 ro1, .int .i64 li1, .bool b1, .int .i64 n1, .string s1, .int .i64 q1, .bool b2, .int .i64 n2, .string s2, .int .i64 q2, .int .i64 de1] by rw [hWb]; exact Blk.new _ _ _)
      have hgw := sR.lt
      have hNlt := bN.lt
      have hbg : g ≠ wr.heap.size := by omega
      have hbN : wr.heap.size ≠ N := by omega
      clear bN oA oR sR hB
      have BN1 := Lib.hid (show Blk Wb N 38 #[.int .i64 2, .int .i64 (x + 1), .int .i64 (q + a1), .int .i64 (n + a2), (.slice A4 add.length c4), (.slice A5 rem.length c5)] from BN0.out.below hab BN0.out.lt)
      have OA1 := Lib.hid (own_below OA0.out hab)
      have OR1 := Lib.hid (own_below OR0.out hab)
      have SR1 := Lib.hid (SR0.out.below hab)
      have HB1 := Lib.hid (HB0.out.trans (hab.mono HB0.out.size))
      clear hab
      go_upto_region 6 with (fail)
      rw [← hWb]
      clear hWb
      go_wp2_with fail
      refine (next_any _ g 3 rs Wb SR1.out (by omega) (by omega)).mono ?_
      rintro _ w2 ⟨rfl, ho2, hs2⟩
      have zl := nxt_lo 3 rs (by omega)
      have zh := nxt_hi 3 rs (by omega)
      obtain ⟨z, hz⟩ : ∃ a, nxt 3 rs = a := ⟨_, rfl⟩
      rw [hz] at zl zh ⊢
      clear hz
      have BN2 := Lib.hid (show Blk w2 N 38 #[.int .i64 2, .int .i64 (x + 1), .int .i64 (q + a1), .int .i64 (n + a2), (.slice A4 add.length c4), (.slice A5 rem.length c5)] from BN1.out.grown ho2 (by intro e; injection e with e; exact hNg e))
      have OA2 := Lib.hid (own_only OA1.out SR1.out (by decide) ho2)
      have OR2 := Lib.hid (own_only OR1.out SR1.out (by decide) ho2)
      have SR2 := Lib.hid hs2
      have HB2 := Lib.hid (below_only HB1.out ho2 hgg HB1.out.size)
      have BE2 := Lib.hid (BE1.out.grown ho2 (by intro e; injection e with e; exact hbg e))
      clear ho2 hs2
      have hw2 := HB2.out.size
      by_cases hz0 : z = 0
      case neg =>
        have t1 : (z == 0) = false := by simpa using hz0
        clear hz0
        go_wp2
        go_roundw
        case rel => exact ⟨k + 1, add, rem, _, _, _, by go_num, by omega, by omega, by omega, hsa.out, BN2.out, OA2.out, OR2.out, SR2.out, HB2.out⟩
        case measure => simp [intOf]; omega
      have t1 : (z == 0) = true := by simpa using hz0
      clear hz0
      have m0 := BN2.out.cell 0
      have m1 := BN2.out.cell 1
      have m2 := BN2.out.cell 2
      have m3 := BN2.out.cell 3
      have m4 := BN2.out.cell 4
      have m5 := BN2.out.cell 5
      simp only [List.getElem?_toArray, List.getElem?_cons_zero, List.getElem?_cons_succ] at m0 m1 m2 m3 m4 m5
      have d0 := BE2.out.cell 0
      simp only [List.getElem?_toArray, List.getElem?_cons_zero] at d0
      go_wp2_with (at_builtin; go_must (refine app1 _ _ OR2.out (Below.refl W.heap.size w2) (Nat.le_refl _) hw2 under_i64 info_i64 rfl (by decide) rfl (oneInt _ _) (by omega) (by omega) rfl rfl rfl rfl ?_))
      intro g3 cap3 w3 oR3 hb3 hg3 hor3
      have BN3 := Lib.hid (BN2.out.grown hg3 (fun e => own_blk_ne OR2.out BN2.out (by decide) e))
      have BE3 := Lib.hid (BE2.out.grown hg3 (fun e => own_blk_ne OR2.out BE2.out (by decide) e))
      have OA3 := Lib.hid (own_grown OA2.out hg3 (fun b hb2 e => own_ne OA2.out OR2.out (by decide) b hb2 e))
      have SR3 := Lib.hid (SR2.out.grown hg3 (SR2.out.own_ne OR2.out (by decide)) (fun b hb2 => (OR2.out.lt b hb2).1))
      have HB3 := Lib.hid (HB2.out.trans hb3)
      have hg3N : g3 ≠ N := fun e => own_blk_ne oR3 BN3.out (by decide) (by rw [← e]; rfl)
      have OR3 := Lib.hid oR3
      clear m0 m1 m2 m3 m4 m5 d0 oR3 hb3 hg3 hor3
      have m5 := BN3.out.cell 5
      simp only [List.getElem?_toArray, List.getElem?_cons_zero, List.getElem?_cons_succ] at m5
      have f5 := BN3.out.frozen 5
      have hN3 := BN3.out.lt
      go_wp2_with fail
      obtain ⟨w4, hw4⟩ : ∃ w4, w4 = w3.setCell ⟨N, 5, none⟩ (.slice (some ⟨g3, 0, none⟩) (rem.length + 1) cap3) := ⟨_, rfl⟩
      have kg : w3.grownBy w4 (some N) := by rw [hw4]; exact grownBy_set w3 ⟨N, 5, none⟩ _
      have BN4 := Lib.hid (show Blk w4 N 38 #[.int .i64 2, .int .i64 (x + 1), .int .i64 (q + a1), .int .i64 (n + a2), (.slice A4 add.length c4), (.slice (some ⟨g3, 0, none⟩) (rem.length + 1) cap3)] by
        have := BN3.out.set_ 5 (.slice (some ⟨g3, 0, none⟩) (rem.length + 1) cap3)
        simp only [List.setIfInBounds_toArray, List.set_cons_zero, List.set_cons_succ] at this
        rw [hw4]; exact this)
      have BE4 := Lib.hid (BE3.out.row kg hbN)
      have OA4 := Lib.hid (own_row OA3.out kg (fun b hb2 e => own_blk_ne OA3.out BN3.out (by decide) (by rw [hb2, e])))
      have OR4 := Lib.hid (own_row OR3.out kg (fun b hb2 e => own_blk_ne OR3.out BN3.out (by decide) (by rw [hb2, e])))
      have SR4 := Lib.hid (SR3.out.row kg hNg hNW)
      have HB4 := Lib.hid (below_row HB3.out kg hNW HB3.out.size)
      rw [← hw4]
      clear hw4 kg m5 f5 hN3
      go_wp2_with fail
      refine (next_any _ g 2 rs.tail w4 SR4.out (by omega) (by omega)).mono ?_
      rintro _ w5 ⟨rfl, ho5, hs5⟩
      have z2l := nxt_lo 2 rs.tail (by omega)
      have z2h := nxt_hi 2 rs.tail (by omega)
      obtain ⟨z2, hz2⟩ : ∃ a, nxt 2 rs.tail = a := ⟨_, rfl⟩
      rw [hz2] at z2l z2h ⊢
      clear hz2
      have BN5 := Lib.hid (show Blk w5 N 38 #[.int .i64 2, .int .i64 (x + 1), .int .i64 (q + a1), .int .i64 (n + a2), (.slice A4 add.length c4), (.slice (some ⟨g3, 0, none⟩) (rem.length + 1) cap3)] from BN4.out.grown ho5 (by intro e; injection e with e; exact hNg e))
      have OA5 := Lib.hid (own_only OA4.out SR4.out (by decide) ho5)
      have OR5 := Lib.hid (own_only OR4.out SR4.out (by decide) ho5)
      have SR5 := Lib.hid hs5
      have HB5 := Lib.hid (below_only HB4.out ho5 hgg HB4.out.size)
      have BE5 := Lib.hid (BE4.out.grown ho5 (by intro e; injection e with e; exact hbg e))
      clear ho5 hs5
      have hw5 := HB5.out.size
      have OR5b := Lib.hid (own_ints1 OR5.out)
      by_cases hz0 : z2 = 0
      case neg =>
        have t2 : (z2 == 0) = false := by simpa using hz0
        clear hz0
        go_wp2
        go_roundw
        case rel => exact ⟨k + 1, add, rem ++ [i1], _, _, _, by go_num, by omega, by omega, by simp; omega, hsa.out, BN5.out, OA5.out, OR5b.out, SR5.out, HB5.out⟩
        case measure => simp [intOf]; omega
      have t2 : (z2 == 0) = true := by simpa using hz0
      clear hz0
      go_wp2_with fail
      refine (next_any _ g 20 rs.tail.tail w5 SR5.out (by omega) (by omega)).mono ?_
      rintro _ w6 ⟨rfl, ho6, hs6⟩
      have z3l := nxt_lo 20 rs.tail.tail (by omega)
      have z3h := nxt_hi 20 rs.tail.tail (by omega)
      obtain ⟨z3, hz3⟩ : ∃ a, nxt 20 rs.tail.tail = a := ⟨_, rfl⟩
      rw [hz3] at z3l z3h ⊢
      clear hz3
      have BN6 := Lib.hid (show Blk w6 N 38 #[.int .i64 2, .int .i64 (x + 1), .int .i64 (q + a1), .int .i64 (n + a2), (.slice A4 add.length c4), (.slice (some ⟨g3, 0, none⟩) (rem.length + 1) cap3)] from BN5.out.grown ho6 (by intro e; injection e with e; exact hNg e))
      have OA6 := Lib.hid (own_only OA5.out SR5.out (by decide) ho6)
      have OR6 := Lib.hid (own_only OR5.out SR5.out (by decide) ho6)
      have SR6 := Lib.hid hs6
      have HB6 := Lib.hid (below_only HB5.out ho6 hgg HB5.out.size)
      have BE6 := Lib.hid (BE5.out.grown ho6 (by intro e; injection e with e; exact hbg e))
      clear ho6 hs6
      have OR6b := Lib.hid (own_ints1 OR6.out)
      have hw6 := HB6.out.size
      have wz : IntKind.i64.wrap (1 + z3) = 1 + z3 := IntWalk.i64_in _ (by omega)
      have m11 := BE6.out.cell 11
      simp only [List.getElem?_toArray, List.getElem?_cons_zero, List.getElem?_cons_succ] at m11
      have f11 := BE6.out.frozen 11
      have hE6 := BE6.out.lt
      go_upto_region 10 with (fail)
      obtain ⟨w7, hw7⟩ : ∃ w7, w7 = w6.setCell ⟨wr.heap.size, 11, none⟩ (.int .i64 (1 + z3)) := ⟨_, rfl⟩
      have kg : w6.grownBy w7 (some wr.heap.size) := by rw [hw7]; exact grownBy_set w6 ⟨wr.heap.size, 11, none⟩ _
      have BE7 := Lib.hid (show Blk w7 wr.heap.size 34 #[.int .i64 i1, .int .i64 ro1, .int .i64 li1, .bool b1, .int .i64 n1, .string s1, .int .i64 q1, .bool b2, .int .i64 n2, .string s2, .int .i64 q2, .int .i64 (1 + z3)] by
        have := BE6.out.set_ 11 (.int .i64 (1 + z3))
        simp only [List.setIfInBounds_toArray, List.set_cons_zero, List.set_cons_succ] at this
        rw [hw7]; exact this)
      have BN7 := Lib.hid (BN6.out.row kg (Ne.symm hbN))
      have OA7 := Lib.hid (own_row OA6.out kg (fun b hb2 e => by have := (OA0.out.lt b hb2).2; omega))
      have OR7 := Lib.hid (own_row OR6b.out kg (fun b hb2 e => own_blk_ne OR6b.out BE6.out (by decide) (by rw [hb2, e])))
      have SR7 := Lib.hid (SR6.out.row kg hbg hBs)
      have HB7 := Lib.hid (below_row HB6.out kg hBs HB6.out.size)
      rw [← hw7]
      clear hw7 kg m11 f11 hE6 wz
      have m0 := BN7.out.cell 0
      have m1 := BN7.out.cell 1
      have m2 := BN7.out.cell 2
      have m3 := BN7.out.cell 3
      have m4 := BN7.out.cell 4
      have m5 := BN7.out.cell 5
      simp only [List.getElem?_toArray, List.getElem?_cons_zero, List.getElem?_cons_succ] at m0 m1 m2 m3 m4 m5
      have d0 := BE7.out.cell 0
      have d1 := BE7.out.cell 1
      have d2 := BE7.out.cell 2
      have d3 := BE7.out.cell 3
      have d4 := BE7.out.cell 4
      have d5 := BE7.out.cell 5
      have d6 := BE7.out.cell 6
      have d7 := BE7.out.cell 7
      have d8 := BE7.out.cell 8
      have d9 := BE7.out.cell 9
      have d10 := BE7.out.cell 10
      have d11 := BE7.out.cell 11
      simp only [List.getElem?_toArray, List.getElem?_cons_zero, List.getElem?_cons_succ] at d0 d1 d2 d3 d4 d5 d6 d7 d8 d9 d10 d11
      have hw7 := HB7.out.size
      go_wp2_with (at_builtin; go_must (refine app1 _ _ OA7.out (Below.refl W.heap.size w7) (Nat.le_refl _) hw7 under_entry info_entry rfl (by decide) rfl (one12 _ _ _ _ _ _ _ _ _ _ _ _) (by omega) (by omega) rfl rfl rfl rfl ?_))
      intro g8 cap8 w8 oA8 hb8 hg8 hor8
      have BN8 := Lib.hid (BN7.out.grown hg8 (fun e => own_blk_ne OA7.out BN7.out (by decide) e))
      have OR8 := Lib.hid (own_grown OR7.out hg8 (fun b hb2 e => own_ne OR7.out OA7.out (by decide) b hb2 e))
      have SR8 := Lib.hid (SR7.out.grown hg8 (SR7.out.own_ne OA7.out (by decide)) (fun b hb2 => (OA7.out.lt b hb2).1))
      have HB8 := Lib.hid (HB7.out.trans hb8)
      have hg8N : g8 ≠ N := fun e => own_blk_ne oA8 BN8.out (by decide) (by rw [← e]; rfl)
      have OA8 := Lib.hid (own_ents12 oA8)
      clear m0 m1 m2 m3 m4 m5 d0 d1 d2 d3 d4 d5 d6 d7 d8 d9 d10 d11 oA8 hb8 hg8 hor8
      have m4 := BN8.out.cell 4
      simp only [List.getElem?_toArray, List.getElem?_cons_zero, List.getElem?_cons_succ] at m4
      have f4 := BN8.out.frozen 4
      have hN8 := BN8.out.lt
      go_wp2
      go_roundw
      case rel =>
        have kg := grownBy_set w8 ⟨N, 4, none⟩ (.slice (some ⟨g8, 0, none⟩) (add.length + 1) cap8)
        have kb := BN8.out.set_ 4 (.slice (some ⟨g8, 0, none⟩) (add.length + 1) cap8)
        simp only [List.setIfInBounds_toArray, List.set_cons_zero, List.set_cons_succ] at kb
        exact ⟨k + 1, add ++ [⟨i1, ro1, li1, ⟨b1, n1, s1, q1⟩, ⟨b2, n2, s2, q2⟩, 1 + z3⟩], rem ++ [i1], _, _, _, by go_num, by omega, by simp; omega, by simp; omega, snoc_small hsa.out (show Ent.small ⟨i1, ro1, li1, ⟨b1, n1, s1, q1⟩, ⟨b2, n2, s2, q2⟩, 1 + z3⟩ from HES.out), kb, own_row OA8.out kg (fun b hb2 e => own_blk_ne OA8.out BN8.out (by decide) (by rw [hb2, e])), own_row OR8.out kg (fun b hb2 e => own_blk_ne OR8.out BN8.out (by decide) (by rw [hb2, e])), SR8.out.row kg hNg hNW, below_row HB8.out kg hNW HB8.out.size⟩
      case measure => simp [intOf]; omega
    · have bS3 := HbS.out.below hB HbS.out.lt
      have BN0 := Lib.hid bN
      have OA0 := Lib.hid oA
      have OR0 := Lib.hid oR
      have SR0 := Lib.hid sR
      have HB0 := Lib.hid hB
      have s0 := bS3.cell 0
      have s1 := bS3.cell 1
      have s2 := bS3.cell 2
      have s3 := bS3.cell 3
      simp only [List.getElem?_toArray, List.getElem?_cons_zero, List.getElem?_cons_succ] at s0 s1 s2 s3
      clear bN oA oR sR hB bS3
      obtain ⟨wo, rfl⟩ : ∃ wo : World, wo = wr := ⟨_, rfl⟩
      go_wp2_with fail
      clear s0 s1 s2 s3
      refine (next_any _ g 3 rs wo SR0.out (by omega) (by omega)).mono ?_
      rintro _ w2 ⟨rfl, ho2, hs2⟩
      have kkl := nxt_lo 3 rs (by omega)
      have kkh := nxt_hi 3 rs (by omega)
      obtain ⟨kk, hkk⟩ : ∃ a, nxt 3 rs = a := ⟨_, rfl⟩
      rw [hkk] at kkl kkh ⊢
      clear hkk
      have BN2 := Lib.hid (show Blk w2 N 38 #[.int .i64 2, .int .i64 (x + 1), .int .i64 (q + a1), .int .i64 (n + a2), (.slice A4 add.length c4), (.slice A5 rem.length c5)] from BN0.out.grown ho2 (by intro e; injection e with e; exact hNg e))
      have OA2 := Lib.hid (own_only OA0.out SR0.out (by decide) ho2)
      have OR2 := Lib.hid (own_only OR0.out SR0.out (by decide) ho2)
      have SR2 := Lib.hid hs2
      have HB2 := Lib.hid (below_only HB0.out ho2 hgg HB0.out.size)
      clear ho2 hs2
      go_wp2
      go_loopw [10, 9] (fun kv id wr => ∃ (j : Nat) (i : Int) (add : List Ent) (rem : List Int) (va vr : Value) (rs : List Int), kv = .int .i64 j ∧ j ≤ 3 ∧ id = .int .i64 i ∧ n ≤ i ∧ i + j ≤ n + 3 ∧ add.length + j ≤ 260 ∧ rem.length ≤ 256 ∧ Hid (∀ e ∈ add, e.small) ∧ Blk wr N 38 #[.int .i64 2, .int .i64 (x + 1), .int .i64 (q + a1), .int .i64 (n + a2), va, vr] ∧ wr.ownsRow W.heap.size 34 12 va add.length (ents add) ∧ wr.ownsRow W.heap.size 3 1 vr rem.length (ints rem) ∧ Src wr W.heap.size 100 g rs ∧ Below W.heap.size W wr) (fun kv _ _ => (intOf kv).toNat)
      case atStart =>
        obtain ⟨j, rfl⟩ := Int.eq_ofNat_of_zero_le kkl
        exact ⟨j, n, add, rem, _, _, _, rfl, by omega, rfl, Int.le_refl _, by omega, by omega, by omega, hsa, BN2.out, OA2.out, OR2.out, SR2.out, HB2.out⟩
      case round =>
        clear hk hal hrl hsa ha1 ha2 hr1 hr2 hBs hlt BN0 OA0 OR0 SR0 HB0 BN2 OA2 OR2 SR2 HB2 kkl kkh
        obtain ⟨j, i, add, rem, va, vr, rs, rfl, hj3, rfl, hin, hij, hal, hrl, hsa, bN, oA, oR, sR, hB⟩ := hrel
        obtain ⟨A4, c4, rfl, ha1, ha2⟩ := (Sl.of_own oA).form
        obtain ⟨A5, c5, rfl, hr1, hr2⟩ := (Sl.of_own oR).form
        unfold maxLen at ha2 hr2
        have hBs := hB.size
        have BN0 := Lib.hid bN
        have OA0 := Lib.hid oA
        have OR0 := Lib.hid oR
        have SR0 := Lib.hid sR
        have HB0 := Lib.hid hB
        have hNlt := bN.lt
        clear bN oA oR sR hB
        have m0 := BN0.out.cell 0
        have m1 := BN0.out.cell 1
        have m2 := BN0.out.cell 2
        have m3 := BN0.out.cell 3
        have m4 := BN0.out.cell 4
        have m5 := BN0.out.cell 5
        simp only [List.getElem?_toArray, List.getElem?_cons_zero, List.getElem?_cons_succ] at m0 m1 m2 m3 m4 m5
        by_cases hgo : 0 < j ∧ i < n + a2
        · have t1 : decide ((0 : Int) < (j : Int)) = true := decide_eq_true (by omega)
          have t2 : decide (i < n + a2) = true := decide_eq_true hgo.2
          have hj0 := hgo.1
          clear hgo
          go_wp2_with fail
          clear m0 m1 m2 m3 m4 m5
          refine (raw_any _ g rs wr SR0.out).mono ?_
          rintro _ w1 ⟨rfl, ho1, hs1⟩
          have r1b := (SR0.out).raw_bd
          obtain ⟨r1, hr1⟩ : ∃ a, raw (rs) = a := ⟨_, rfl⟩
          rw [hr1] at r1b ⊢
          clear hr1
          have BN1 := Lib.hid (show Blk w1 N 38 #[.int .i64 2, .int .i64 (x + 1), .int .i64 (q + a1), .int .i64 (n + a2), (.slice A4 add.length c4), (.slice A5 rem.length c5)] from BN0.out.grown ho1 (by intro e; injection e with e; exact hNg e))
          have OA1 := Lib.hid (own_only OA0.out SR0.out (by decide) ho1)
          have OR1 := Lib.hid (own_only OR0.out SR0.out (by decide) ho1)
          have SR1 := Lib.hid hs1
          have HB1 := Lib.hid (below_only HB0.out ho1 hgg HB0.out.size)
          clear ho1 hs1
          go_wp2_with fail
          refine (raw_any _ g rs.tail w1 SR1.out).mono ?_
          rintro _ w2 ⟨rfl, ho2, hs2⟩
          have r2b := (SR1.out).raw_bd
          obtain ⟨r2, hr2⟩ : ∃ a, raw (rs.tail) = a := ⟨_, rfl⟩
          rw [hr2] at r2b ⊢
          clear hr2
          have BN2 := Lib.hid (show Blk w2 N 38 #[.int .i64 2, .int .i64 (x + 1), .int .i64 (q + a1), .int .i64 (n + a2), (.slice A4 add.length c4), (.slice A5 rem.length c5)] from BN1.out.grown ho2 (by intro e; injection e with e; exact hNg e))
          have OA2 := Lib.hid (own_only OA1.out SR1.out (by decide) ho2)
          have OR2 := Lib.hid (own_only OR1.out SR1.out (by decide) ho2)
          have SR2 := Lib.hid hs2
          have HB2 := Lib.hid (below_only HB1.out ho2 hgg HB1.out.size)
          clear ho2 hs2
          go_wp2_with fail
          refine (raw_any _ g rs.tail.tail w2 SR2.out).mono ?_
          rintro _ w3 ⟨rfl, ho3, hs3⟩
          have r3b := (SR2.out).raw_bd
          obtain ⟨r3, hr3⟩ : ∃ a, raw (rs.tail.tail) = a := ⟨_, rfl⟩
          rw [hr3] at r3b ⊢
          clear hr3
          have BN3 := Lib.hid (show Blk w3 N 38 #[.int .i64 2, .int .i64 (x + 1), .int .i64 (q + a1), .int .i64 (n + a2), (.slice A4 add.length c4), (.slice A5 rem.length c5)] from BN2.out.grown ho3 (by intro e; injection e with e; exact hNg e))
          have OA3 := Lib.hid (own_only OA2.out SR2.out (by decide) ho3)
          have OR3 := Lib.hid (own_only OR2.out SR2.out (by decide) ho3)
          have SR3 := Lib.hid hs3
          have HB3 := Lib.hid (below_only HB2.out ho3 hgg HB2.out.size)
          clear ho3 hs3
          go_wp2_with fail
          refine (raw_any _ g rs.tail.tail.tail w3 SR3.out).mono ?_
          rintro _ w4 ⟨rfl, ho4, hs4⟩
          have r4b := (SR3.out).raw_bd
          obtain ⟨r4, hr4⟩ : ∃ a, raw (rs.tail.tail.tail) = a := ⟨_, rfl⟩
          rw [hr4] at r4b ⊢
          clear hr4
          have BN4 := Lib.hid (show Blk w4 N 38 #[.int .i64 2, .int .i64 (x + 1), .int .i64 (q + a1), .int .i64 (n + a2), (.slice A4 add.length c4), (.slice A5 rem.length c5)] from BN3.out.grown ho4 (by intro e; injection e with e; exact hNg e))
          have OA4 := Lib.hid (own_only OA3.out SR3.out (by decide) ho4)
          have OR4 := Lib.hid (own_only OR3.out SR3.out (by decide) ho4)
          have SR4 := Lib.hid hs4
          have HB4 := Lib.hid (below_only HB3.out ho4 hgg HB3.out.size)
          clear ho4 hs4
          go_wp2_with fail
          refine (raw_any _ g rs.tail.tail.tail.tail w4 SR4.out).mono ?_
          rintro _ w5 ⟨rfl, ho5, hs5⟩
          have r5b := (SR4.out).raw_bd
          obtain ⟨r5, hr5⟩ : ∃ a, raw (rs.tail.tail.tail.tail) = a := ⟨_, rfl⟩
          rw [hr5] at r5b ⊢
          clear hr5
          have BN5 := Lib.hid (show Blk w5 N 38 #[.int .i64 2, .int .i64 (x + 1), .int .i64 (q + a1), .int .i64 (n + a2), (.slice A4 add.length c4), (.slice A5 rem.length c5)] from BN4.out.grown ho5 (by intro e; injection e with e; exact hNg e))
          have OA5 := Lib.hid (own_only OA4.out SR4.out (by decide) ho5)
          have OR5 := Lib.hid (own_only OR4.out SR4.out (by decide) ho5)
          have SR5 := Lib.hid hs5
          have HB5 := Lib.hid (below_only HB4.out ho5 hgg HB4.out.size)
          clear ho5 hs5
          obtain ⟨w6, hw6⟩ : ∃ w6, w6 = w5.alloc (.cells #[.int .i64 1, .int .i64 r1, .int .i64 r2, .int .i64 r3, .int .i64 r4, .int .i64 r5] 3) := ⟨_, rfl⟩
          have ha6 : Below w5.heap.size w5 w6 := by rw [hw6]; exact abel _ _
          have bI6 : Blk w6 w5.heap.size 3 #[.int .i64 1, .int .i64 r1, .int .i64 r2, .int .i64 r3, .int .i64 r4, .int .i64 r5] := by rw [hw6]; exact Blk.new _ _ _
          have BN6 := Lib.hid (show Blk w6 N 38 #[.int .i64 2, .int .i64 (x + 1), .int .i64 (q + a1), .int .i64 (n + a2), (.slice A4 add.length c4), (.slice A5 rem.length c5)] from BN5.out.below ha6 BN5.out.lt)
          have OA6 := Lib.hid (own_below OA5.out ha6)
          have OR6 := Lib.hid (own_below OR5.out ha6)
          have SR6 := Lib.hid (SR5.out.below ha6)
          have HB6 := Lib.hid (HB5.out.trans (ha6.mono HB5.out.size))
          have HKE := Lib.hid (kentries_any (.slice (some ⟨w5.heap.size, 0, none⟩) 6 6) [1, r1, r2, r3, r4, r5] 2 w6 (bI6.sl (n := 6) (size := 1) rfl (by unfold maxLen; omega)) (by simp) (by intro x hx; simp only [List.mem_cons, List.not_mem_nil, or_false] at hx; rcases hx with rfl | rfl | rfl | rfl | rfl | rfl <;> omega) (by omega) (by omega))
          have hws5 := HB5.out.size
          have hws6 := HB6.out.size
          clear ha6 bI6 r1b r2b r3b r4b r5b
          go_wp2_with fail
          rw [← hw6]
          clear hw6
          refine HKE.out.mono ?_
          rintro _ w7 ⟨ve, le, rfl, hle, hgen, oE, hb7⟩
          have BN7 := Lib.hid (show Blk w7 N 38 #[.int .i64 2, .int .i64 (x + 1), .int .i64 (q + a1), .int .i64 (n + a2), (.slice A4 add.length c4), (.slice A5 rem.length c5)] from BN6.out.below hb7 BN6.out.lt)
          have OA7 := Lib.hid (own_below OA6.out hb7)
          have OR7 := Lib.hid (own_below OR6.out hb7)
          have SR7 := Lib.hid (SR6.out.below hb7)
          have HB7 := Lib.hid (HB6.out.trans (hb7.mono HB6.out.size))
          have hb7s := hb7.size
          have hsmE : ∀ e ∈ le, e.small := fun e he => Ent.gen_small (hgen.mem e he).1
          clear hb7 hgen HKE
          rcases le with _ | ⟨e, tl⟩
          · obtain ⟨A9, c9, rfl, _, _⟩ := (Sl.of_own oE).form
            clear oE
            go_wp2
            go_roundw
            case rel => exact ⟨j - 1, i + 1, add, rem, _, _, _, by go_num, by omega, by go_num, by omega, by omega, by omega, hrl, hsa, BN7.out, OA7.out, OR7.out, SR7.out, HB7.out⟩
            case measure => simp [intOf]; omega
          obtain ⟨ge, ce, cur, rfl, hge⟩ : ∃ ge ce cur, ve = .slice (some ⟨ge, 0, none⟩) (tl.length + 1) ce ∧ w6.heap.size ≤ ge ∧ tl.length + 1 ≤ ce ∧ cur = (0 : Nat) := by
            rcases oE.2 with ⟨_, h0⟩ | ⟨g1, cap1, cur1, e1, h1, _, h2, _⟩
            · simp at h0
            · exact ⟨g1, cap1, 0, by simpa using e1, h1, by simpa using h2, rfl⟩
          obtain ⟨hge, hce, _⟩ := hge
          obtain ⟨i1, ro1, li1, ⟨b1, n1, s1, q1⟩, ⟨b2, n2, s2, q2⟩, de1⟩ := e
          have HSE := Lib.hid (hsmE _ (List.mem_cons_self))
          clear hsmE
          have hgeN : ge ≠ N := by have := BN6.out.lt; omega
          have hgeg : g ≠ ge := by have := SR6.out.lt; omega
          have cE := (own_cell oE (j := 0) (by omega))
          obtain ⟨hce0, hcf0⟩ := cE
          have c0 : w7.cell? ⟨ge, 0, none⟩ = some (.int .i64 i1) := by
            have := oE.cells (g := ge) rfl 0 (.int .i64 i1) rfl
            rwa [Addr.add_lit] at this
          have hgelt := (oE.lt ge rfl).2
          have OE7 := Lib.hid oE
          clear hce0 oE
          go_upto_region 19 with (fail)
          obtain ⟨Y, hY⟩ : ∃ Y, Y = w7.setCell ⟨ge, 0, none⟩ (.int .i64 i) := ⟨_, rfl⟩
          have kg : w7.grownBy Y (some ge) := by rw [hY]; exact grownBy_set w7 ⟨ge, 0, none⟩ _
          have OEY : Y.ownsRow w6.heap.size 34 12 (.slice (some ⟨ge, 0, none⟩) (tl.length + 1) ce) (tl.length + 1) (ents (⟨i, ro1, li1, ⟨b1, n1, s1, q1⟩, ⟨b2, n2, s2, q2⟩, de1⟩ :: tl)) := by
            rw [hY]
            exact (OE7.out.stored 0 (.int .i64 i)).1
          have hgeA : ∀ b, (Value.slice A4 add.length c4).ownBlock = some b → b ≠ ge := fun b hb e => by have := (OA6.out.lt b hb).2; omega
          have hgeR : ∀ b, (Value.slice A5 rem.length c5).ownBlock = some b → b ≠ ge := fun b hb e => by have := (OR6.out.lt b hb).2; omega
          have BNY := BN7.out.row kg (Ne.symm hgeN)
          have OAY := own_row OA7.out kg hgeA
          have ORY := own_row OR7.out kg hgeR
          have SRY := SR7.out.row kg hgeg (by omega)
          have HBY := Lib.hid (below_row HB7.out kg (by omega) HB7.out.size)
          rw [← hY]
          clear hY kg c0 hcf0
          refine wp_region_inv (by kernel_rfl) (by kernel_rfl) (fun L a w' => ∃ u92 u93 u94 u95 u96 u97 u98 u99 : Value, a = ⟨#[.agg #[.int .i64 x, .int .i64 q, .int .i64 n, .slice AS l.length cS], .slice Az zs.length cz, .pointer (some ⟨w.heap.size, 0, none⟩), undef, .pointer (some ⟨w.heap.size + 1, 0, none⟩), .pointer (some ⟨g, 0, none⟩), .pointer (some ⟨N, 0, none⟩), undef, u8, .int .i64 i, .int .i64 j, .slice (some ⟨ge, 0, none⟩) (tl.length + 1) ce, .slice Az zs.length cz, .pointer (some ⟨g, 0, none⟩), .pointer (some ⟨w.heap.size, 0, none⟩), .int .i64 x, .int .i64 (x + 1), .pointer (some ⟨w.heap.size, 1, none⟩), .int .i64 q, .pointer (some ⟨g, 0, none⟩), .int .i64 a1, .int .i64 (q + a1), .pointer (some ⟨w.heap.size, 2, none⟩), .int .i64 n, .pointer (some ⟨g, 0, none⟩), .int .i64 a2, .int .i64 (n + a2), .agg #[.int .i64 2, .int .i64 (x + 1), .int .i64 (q + a1), .int .i64 (n + a2), .slice none 0 0, .slice none 0 0], .pointer (some ⟨w.heap.size, 3, none⟩), .slice AS l.length cS, .int .i64 l.length, .int .i64 k, .bool false, u33, u34, u35, u36, u37, u38, u39, u40, u41, u42, u43, u44, u45, u46, u47, u48, u49, u50, u51, u52, u53, u54, u55, u56, u57, u58, .pointer (some ⟨w.heap.size, 2, none⟩), .int .i64 n, .pointer (some ⟨g, 0, none⟩), .int .i64 kk, .int .i64 j, .bool true, .bool true, .int .i64 i, .pointer (some ⟨N, 3, none⟩), .int .i64 (n + a2), .bool true, .bool true, u71, u72, .pointer (some ⟨g, 0, none⟩), .int .i64 r1, .pointer (some ⟨g, 0, none⟩), .int .i64 r2, .pointer (some ⟨g, 0, none⟩), .int .i64 r3, .pointer (some ⟨g, 0, none⟩), .int .i64 r4, .pointer (some ⟨g, 0, none⟩), .int .i64 r5, .slice (some ⟨w5.heap.size, 0, none⟩) 6 6, .slice (some ⟨ge, 0, none⟩) (tl.length + 1) ce, .slice (some ⟨ge, 0, none⟩) (tl.length + 1) ce, .int .i64 ((tl.length : Int) + 1), .bool true, .slice (some ⟨ge, 0, none⟩) (tl.length + 1) ce, .int .i64 i, .pointer (some ⟨ge, 0, none⟩), .pointer (some ⟨ge, 0, none⟩), u92, u93, u94, u95, u96, u97, u98, u99, u100, u101, undef, undef, undef, undef, undef, undef, undef, undef, undef, undef, undef, undef, undef, undef, undef, undef, undef, undef, undef, undef, undef, undef, undef, undef], []⟩ ∧
              Below W.heap.size Y w' ∧ Got (L 0) u92 (.pointer (some ⟨N, 4, none⟩)) ∧ Got (L 1) u93 (.slice A4 add.length c4) ∧ Got (L 2) u94 (.slice (some ⟨ge, 0, none⟩) (tl.length + 1) ce) ∧ Got (L 3) u95 (.pointer (some ⟨ge, 0, none⟩)) ∧ Got (L 4) u96 (.agg #[.int .i64 i, .int .i64 ro1, .int .i64 li1, .bool b1, .int .i64 n1, .string s1, .int .i64 q1, .bool b2, .int .i64 n2, .string s2, .int .i64 q2, .int .i64 de1]) ∧ GotRow (L 5) Y.heap.size u97 1 34 #[.int .i64 i, .int .i64 ro1, .int .i64 li1, .bool b1, .int .i64 n1, .string s1, .int .i64 q1, .bool b2, .int .i64 n2, .string s2, .int .i64 q2, .int .i64 de1] w' ∧ (L 6 = true → ∃ g9 c9, u98 = .slice (some ⟨g9, 0, none⟩) (add.length + 1) c9 ∧ w'.ownsRow W.heap.size 34 12 u98 (add.length + 1) (ents add ++ (#[.int .i64 i, .int .i64 ro1, .int .i64 li1, .bool b1, .int .i64 n1, .string s1, .int .i64 q1, .bool b2, .int .i64 n2, .string s2, .int .i64 q2, .int .i64 de1] : Array Value).toList)) ∧ Got (L 7) u99 (.pointer (some ⟨N, 4, none⟩)) ∧ (L 6 = false → w'.ownsRow W.heap.size 34 12 (.slice A4 add.length c4) add.length (ents add)) ∧ (L 8 = false → Blk w' N 38 #[.int .i64 2, .int .i64 (x + 1), .int .i64 (q + a1), .int .i64 (n + a2), (.slice A4 add.length c4), (.slice A5 rem.length c5)]) ∧ (L 8 = true → Blk w' N 38 #[.int .i64 2, .int .i64 (x + 1), .int .i64 (q + a1), .int .i64 (n + a2), u98, (.slice A5 rem.length c5)]) ∧ (L 8 = true → L 6 = true) ∧ w'.ownsRow W.heap.size 3 1 (.slice A5 rem.length c5) rem.length (ints rem) ∧ Src w' W.heap.size 100 g rs.tail.tail.tail.tail.tail ∧ w'.ownsRow w6.heap.size 34 12 (.slice (some ⟨ge, 0, none⟩) (tl.length + 1) ce) (tl.length + 1) (ents (⟨i, ro1, li1, ⟨b1, n1, s1, q1⟩, ⟨b2, n2, s2, q2⟩, de1⟩ :: tl)) ∧ (L 6 = true → L 1 = true ∧ L 5 = true))
            ?_ ?_ ?_
          · exact ⟨_, _, _, _, _, _, _, _, rfl, (Below.refl _ _).drew, nofun, nofun, nofun, nofun, nofun, nofun, nofun, nofun, fun _ => OAY, fun _ => BNY, nofun, nofun, ORY, SRY.drewN 1, OEY, nofun⟩
          · refine ⟨?_, ?_, ?_, ?_, ?_, ?_, ?_, ?_, ?_, trivial⟩
            · rintro L a w' ⟨u92, u93, u94, u95, u96, u97, u98, u99, rfl, hb, g0, g1, g2, g3, g4, g5, g6, g7, g8, g9, g10, g11, g12, g13, g14, g15⟩ hl hd K hK
              dsimp only at hK ⊢
              go_simp
              exact hK _ _ ⟨_, _, _, _, _, _, _, _, rfl, hb, fun _ => rfl, g1, g2, g3, g4, g5, g6, g7, g8, g9, g10, g11, g12, g13, g14, g15⟩
            · rintro L a w' ⟨u92, u93, u94, u95, u96, u97, u98, u99, rfl, hb, g0, g1, g2, g3, g4, g5, g6, g7, g8, g9, g10, g11, g12, g13, g14, g15⟩ hl hd K hK
              simp [Region.binds] at hd
              dsimp only at hK ⊢
              have e0 := g0 (by simp [hd])
              subst e0
              have h8 : L 8 = false := by
                cases h : L 8 with
                | false => rfl
                | true => have := (g15 (g11 h)).1; rw [hl] at this; cases this
              have cc := (g9 h8).cell 4
              simp only [List.getElem?_toArray, List.getElem?_cons_zero, List.getElem?_cons_succ] at cc
              go_simp
              exact hK _ _ ⟨_, _, _, _, _, _, _, _, rfl, hb, g0, fun _ => rfl, g2, g3, g4, g5, g6, g7, g8, g9, g10, g11, g12, g13, g14, fun h => ⟨rfl, (g15 h).2⟩⟩
            · rintro L a w' ⟨u92, u93, u94, u95, u96, u97, u98, u99, rfl, hb, g0, g1, g2, g3, g4, g5, g6, g7, g8, g9, g10, g11, g12, g13, g14, g15⟩ hl hd K hK
              dsimp only at hK ⊢
              go_simp
              exact hK _ _ ⟨_, _, _, _, _, _, _, _, rfl, hb, g0, g1, fun _ => rfl, g3, g4, g5, g6, g7, g8, g9, g10, g11, g12, g13, g14, g15⟩
            · rintro L a w' ⟨u92, u93, u94, u95, u96, u97, u98, u99, rfl, hb, g0, g1, g2, g3, g4, g5, g6, g7, g8, g9, g10, g11, g12, g13, g14, g15⟩ hl hd K hK
              simp [Region.binds] at hd
              dsimp only at hK ⊢
              have e2 := g2 (by simp [hd])
              subst e2
              go_simp
              exact hK _ _ ⟨_, _, _, _, _, _, _, _, rfl, hb, g0, g1, g2, fun _ => rfl, g4, g5, g6, g7, g8, g9, g10, g11, g12, g13, g14, g15⟩
            · rintro L a w' ⟨u92, u93, u94, u95, u96, u97, u98, u99, rfl, hb, g0, g1, g2, g3, g4, g5, g6, g7, g8, g9, g10, g11, g12, g13, g14, g15⟩ hl hd K hK
              simp [Region.binds] at hd
              dsimp only at hK ⊢
              have e3 := g3 (by simp [hd])
              subst e3
              have d0 : w'.cell? ⟨ge, 0, none⟩ = some (.int .i64 i) := by have := g14.cells (g := ge) rfl 0 _ rfl; rw [Addr.add_lit, Nat.zero_add] at this; exact this
              have d1 : w'.cell? ⟨ge, 1, none⟩ = some (.int .i64 ro1) := by have := g14.cells (g := ge) rfl 1 _ rfl; rw [Addr.add_lit, Nat.zero_add] at this; exact this
              have d2 : w'.cell? ⟨ge, 2, none⟩ = some (.int .i64 li1) := by have := g14.cells (g := ge) rfl 2 _ rfl; rw [Addr.add_lit, Nat.zero_add] at this; exact this
              have d3 : w'.cell? ⟨ge, 3, none⟩ = some (.bool b1) := by have := g14.cells (g := ge) rfl 3 _ rfl; rw [Addr.add_lit, Nat.zero_add] at this; exact this
              have d4 : w'.cell? ⟨ge, 4, none⟩ = some (.int .i64 n1) := by have := g14.cells (g := ge) rfl 4 _ rfl; rw [Addr.add_lit, Nat.zero_add] at this; exact this
              have d5 : w'.cell? ⟨ge, 5, none⟩ = some (.string s1) := by have := g14.cells (g := ge) rfl 5 _ rfl; rw [Addr.add_lit, Nat.zero_add] at this; exact this
              have d6 : w'.cell? ⟨ge, 6, none⟩ = some (.int .i64 q1) := by have := g14.cells (g := ge) rfl 6 _ rfl; rw [Addr.add_lit, Nat.zero_add] at this; exact this
              have d7 : w'.cell? ⟨ge, 7, none⟩ = some (.bool b2) := by have := g14.cells (g := ge) rfl 7 _ rfl; rw [Addr.add_lit, Nat.zero_add] at this; exact this
              have d8 : w'.cell? ⟨ge, 8, none⟩ = some (.int .i64 n2) := by have := g14.cells (g := ge) rfl 8 _ rfl; rw [Addr.add_lit, Nat.zero_add] at this; exact this
              have d9 : w'.cell? ⟨ge, 9, none⟩ = some (.string s2) := by have := g14.cells (g := ge) rfl 9 _ rfl; rw [Addr.add_lit, Nat.zero_add] at this; exact this
              have d10 : w'.cell? ⟨ge, 10, none⟩ = some (.int .i64 q2) := by have := g14.cells (g := ge) rfl 10 _ rfl; rw [Addr.add_lit, Nat.zero_add] at this; exact this
              have d11 : w'.cell? ⟨ge, 11, none⟩ = some (.int .i64 de1) := by have := g14.cells (g := ge) rfl 11 _ rfl; rw [Addr.add_lit, Nat.zero_add] at this; exact this
              go_simp
              exact hK _ _ ⟨_, _, _, _, _, _, _, _, rfl, hb, g0, g1, g2, g3, fun _ => rfl, g5, g6, g7, g8, g9, g10, g11, g12, g13, g14, g15⟩
            · rintro L a w' ⟨u92, u93, u94, u95, u96, u97, u98, u99, rfl, hb, g0, g1, g2, g3, g4, g5, g6, g7, g8, g9, g10, g11, g12, g13, g14, g15⟩ hl hd K hK
              simp [Region.binds] at hd
              dsimp only at hK ⊢
              have e4 := g4 (by simp [hd])
              subst e4
              go_simp
              exact hK _ _ ⟨_, _, _, _, _, _, _, _, rfl, hb.alloc (Nat.le_trans HBY.out.size hb.size) _, g0, g1, g2, g3, g4, fun _ => ⟨_, rfl, hb.size, Blk.new _ _ _⟩, fun h => by obtain ⟨x1, x2, x3, x4⟩ := g6 h; exact ⟨x1, x2, x3, x4.alloc _⟩, g7, fun h => (g8 h).alloc _, fun h => (g9 h).alloc _, fun h => (g10 h).alloc _, g11, g12.alloc _, g13.alloc _, g14.alloc _, fun h => ⟨(g15 h).1, rfl⟩⟩
            · rintro L a w' ⟨u92, u93, u94, u95, u96, u97, u98, u99, rfl, hb, g0, g1, g2, g3, g4, g5, g6, g7, g8, g9, g10, g11, g12, g13, g14, g15⟩ hl hd K hK
              simp [Region.binds] at hd
              dsimp only at hK ⊢
              have e1 := g1 (by simp [hd])
              subst e1
              have h8 : L 8 = false := by
                cases h : L 8 with
                | false => rfl
                | true => have := g11 h; rw [hl] at this; cases this
              have h1 : L 1 = true := by simp [hd]
              have h5 : L 5 = true := by simp [hd]
              obtain ⟨A6, e6, hN6, hB6⟩ := g5 h5
              subst e6
              have oo := g8 hl
              have hws9 : W.heap.size ≤ w'.heap.size := Nat.le_trans HBY.out.size hb.size
              refine wp_app (P := Try.prog) (m := 1) (.tmp 93) (.tmp 97) oo (hB6.sl (n := 1) (size := 12) rfl (by unfold maxLen; omega)) hws9 under_entry info_entry rfl (by decide) (one12 _ _ _ _ _ _ _ _ _ _ _ _) (by omega) (by omega) rfl rfl rfl ?_
              intro v9 w9 ho9 hg9 _
              obtain ⟨g10x, c10x, ev9⟩ : ∃ g9 c9, v9 = .slice (some ⟨g9, 0, none⟩) (add.length + 1) c9 := by
                rcases ho9.2 with ⟨_, h0⟩ | ⟨g1, cap1, cur1, e1, _⟩
                · omega
                · exact ⟨g1, cap1, e1⟩
              exact hK _ _ ⟨_, _, _, _, _, _, _, _, rfl, hb.grown hg9 hws9 (fun k hk => (oo.lt k hk).1), g0, g1, g2, g3, g4, fun _ => ⟨A6, rfl, hN6, hB6.grown hg9 (fun e => by have := (OAY.lt A6 e).2; omega)⟩, fun _ => ⟨g10x, c10x, ev9, ho9⟩, g7, nofun, fun h => (g9 h).grown hg9 (own_blk_ne oo (g9 h) (by decide)), fun h => absurd (show L 8 = true from h) (by rw [h8]; simp), fun _ => rfl, own_grown g12 hg9 (fun b hb2 e => own_ne g12 oo (by decide) b hb2 e), g13.grown hg9 (g13.own_ne oo (by decide)) (fun b hb2 => (oo.lt b hb2).1), own_grown g14 hg9 (fun b hb2 e => hgeA b e (by have hb3 : some ge = some b := hb2; injection hb3 with hb3; exact hb3.symm)), fun _ => ⟨h1, h5⟩⟩
            · rintro L a w' ⟨u92, u93, u94, u95, u96, u97, u98, u99, rfl, hb, g0, g1, g2, g3, g4, g5, g6, g7, g8, g9, g10, g11, g12, g13, g14, g15⟩ hl hd K hK
              dsimp only at hK ⊢
              go_simp
              exact hK _ _ ⟨_, _, _, _, _, _, _, _, rfl, hb, g0, g1, g2, g3, g4, g5, g6, fun _ => rfl, g8, g9, g10, g11, g12, g13, g14, g15⟩
            · rintro L a w' ⟨u92, u93, u94, u95, u96, u97, u98, u99, rfl, hb, g0, g1, g2, g3, g4, g5, g6, g7, g8, g9, g10, g11, g12, g13, g14, g15⟩ hl hd K hK
              simp [Region.binds] at hd
              dsimp only at hK ⊢
              have e7 := g7 (by simp [hd])
              subst e7
              have h6 : L 6 = true := by simp [hd]
              obtain ⟨g11x, c11x, e6, o6⟩ := g6 h6
              subst e6
              have bb := g9 hl
              have cc := bb.cell 4
              simp only [List.getElem?_toArray, List.getElem?_cons_zero, List.getElem?_cons_succ] at cc
              have ff := bb.frozen 4
              have hlt := bb.lt
              go_simp
              have kg := grownBy_set w' ⟨N, 4, none⟩ (.slice (some ⟨g11x, 0, none⟩) (add.length + 1) c11x)
              have kb := bb.set_ 4 (.slice (some ⟨g11x, 0, none⟩) (add.length + 1) c11x)
              simp only [List.setIfInBounds_toArray, List.set_cons_zero, List.set_cons_succ] at kb
              exact hK _ _ ⟨_, _, _, _, _, _, _, _, rfl, below_row hb kg hNW (Nat.le_trans HBY.out.size hb.size), g0, g1, g2, g3, g4, fun h => by obtain ⟨A6, e6, hN6, hB6⟩ := g5 h; exact ⟨A6, e6, hN6, hB6.row kg (show A6 ≠ N by have := BNY.lt; omega)⟩, fun _ => ⟨g11x, c11x, rfl, own_row o6 kg (fun b hb2 e => own_blk_ne o6 bb (by decide) (by rw [hb2, e]))⟩, g7, fun h => absurd (show L 6 = false from h) (by rw [h6]; simp), nofun, fun _ => kb, fun _ => h6, own_row g12 kg (fun b hb2 e => own_blk_ne g12 bb (by decide) (by rw [hb2, e])), g13.row kg hNg hNW, own_row g14 kg (fun b hb2 e => own_blk_ne g14 bb (by decide) (by rw [hb2, e])), g15⟩
          rintro a w9 ⟨u92, u93, u94, u95, u96, u97, u98, u99, rfl, hb, g0, g1, g2, g3, g4, g5, g6, g7, g8, g9, g10, g11, g12, g13, g14, g15⟩
          have e0 := g0 rfl
          subst e0
          have e1 := g1 rfl
          subst e1
          have e2 := g2 rfl
          subst e2
          have e3 := g3 rfl
          subst e3
          have e4 := g4 rfl
          subst e4
          have e7 := g7 rfl
          subst e7
          obtain ⟨A6, e6, _, _⟩ := g5 rfl
          subst e6
          obtain ⟨g9, c9, e6, o6⟩ := g6 rfl
          subst e6
          have BN9 := Lib.hid (g10 rfl)
          have OA9 := Lib.hid (own_ents12 o6)
          have OR9 := Lib.hid g12
          have SR9 := Lib.hid g13
          have HB9 := Lib.hid (HBY.out.trans hb)
          clear o6 hb OEY BNY OAY ORY SRY
          go_wp2
          go_roundw
          case rel => exact ⟨j - 1, i + 1, add ++ [⟨i, ro1, li1, ⟨b1, n1, s1, q1⟩, ⟨b2, n2, s2, q2⟩, de1⟩], rem, _, _, _, by go_num, by omega, by go_num, by omega, by omega, by simp; omega, hrl, snoc_small hsa.out (show Ent.small ⟨i, ro1, li1, ⟨b1, n1, s1, q1⟩, ⟨b2, n2, s2, q2⟩, de1⟩ from HSE.out), BN9.out, OA9.out, OR9.out, SR9.out, HB9.out⟩
          case measure => simp [intOf]; omega
        · have t3 : (0 < j ∧ ¬i < n + a2) ∨ j = 0 := by omega
          rcases t3 with ⟨hj0, hj1⟩ | hj0
          · have t1 : decide ((0 : Int) < (j : Int)) = true := decide_eq_true (by omega)
            have t2 : decide (i < n + a2) = false := decide_eq_false hj1
            clear hgo hj1
            go_wp2_with fail
            refine (next_any _ g 12 rs wr SR0.out (by omega) (by omega)).mono ?_
            rintro _ w2 ⟨rfl, ho2, hs2⟩
            have swl := nxt_lo 12 rs (by omega)
            have swh := nxt_hi 12 rs (by omega)
            obtain ⟨sw, hsw⟩ : ∃ a, nxt 12 rs = a := ⟨_, rfl⟩
            rw [hsw] at swl swh ⊢
            clear hsw
            have BN2 := Lib.hid (show Blk w2 N 38 #[.int .i64 2, .int .i64 (x + 1), .int .i64 (q + a1), .int .i64 (n + a2), (.slice A4 add.length c4), (.slice A5 rem.length c5)] from BN0.out.grown ho2 (by intro e; injection e with e; exact hNg e))
            have OA2 := Lib.hid (own_only OA0.out SR0.out (by decide) ho2)
            have OR2 := Lib.hid (own_only OR0.out SR0.out (by decide) ho2)
            have SR2 := Lib.hid hs2
            have HB2 := Lib.hid (below_only HB0.out ho2 hgg HB0.out.size)
            clear ho2 hs2
            clear m0 m1 m2 m3 m4 m5 BN0 OA0 OR0 SR0 HB0
            by_cases hsw0 : sw = 0
            · have t5 : (sw == 0) = true := by simpa using hsw0
              clear hsw0
              go_upto_region 23 with (fail)
              have yl := nxt_lo 3 rs.tail (by omega)
              have yh := nxt_hi 3 rs.tail (by omega)
              obtain ⟨y, hy⟩ : ∃ a, nxt 3 (rs.tail) = a := ⟨_, rfl⟩
              rw [hy] at yl yh
              have HY := Lib.hid hy
              clear hy
              have wy1 : IntKind.i64.wrap (y - 1) = y - 1 := IntWalk.i64_in _ (by omega)
              have wy2 : IntKind.i64.wrap (x + 1 + (y - 1)) = x + 1 + (y - 1) := IntWalk.i64_in _ (by omega)
              have hws2 := HB2.out.size
              refine wp_region_inv (by kernel_rfl) (by kernel_rfl) (fun L a w' => ∃ u106 u107 u108 u109 u110 u111 u112 : Value, a = ⟨#[.agg #[.int .i64 x, .int .i64 q, .int .i64 n, .slice AS l.length cS], .slice Az zs.length cz, .pointer (some ⟨w.heap.size, 0, none⟩), undef, .pointer (some ⟨w.heap.size + 1, 0, none⟩), .pointer (some ⟨g, 0, none⟩), .pointer (some ⟨N, 0, none⟩), undef, u8, .int .i64 i, .int .i64 j, u11, .slice Az zs.length cz, .pointer (some ⟨g, 0, none⟩), .pointer (some ⟨w.heap.size, 0, none⟩), .int .i64 x, .int .i64 (x + 1), .pointer (some ⟨w.heap.size, 1, none⟩), .int .i64 q, .pointer (some ⟨g, 0, none⟩), .int .i64 a1, .int .i64 (q + a1), .pointer (some ⟨w.heap.size, 2, none⟩), .int .i64 n, .pointer (some ⟨g, 0, none⟩), .int .i64 a2, .int .i64 (n + a2), .agg #[.int .i64 2, .int .i64 (x + 1), .int .i64 (q + a1), .int .i64 (n + a2), .slice none 0 0, .slice none 0 0], .pointer (some ⟨w.heap.size, 3, none⟩), .slice AS l.length cS, .int .i64 l.length, .int .i64 k, .bool false, u33, u34, u35, u36, u37, u38, u39, u40, u41, u42, u43, u44, u45, u46, u47, u48, u49, u50, u51, u52, u53, u54, u55, u56, u57, u58, .pointer (some ⟨w.heap.size, 2, none⟩), .int .i64 n, .pointer (some ⟨g, 0, none⟩), .int .i64 kk, .int .i64 j, .bool true, .bool true, .int .i64 i, .pointer (some ⟨N, 3, none⟩), .int .i64 (n + a2), .bool false, .bool false, u71, u72, u73, u74, u75, u76, u77, u78, u79, u80, u81, u82, u83, u84, u85, u86, u87, u88, u89, u90, u91, u92, u93, u94, u95, u96, u97, u98, u99, u100, u101, .pointer (some ⟨g, 0, none⟩), .int .i64 sw, .bool true, .bool true, u106, u107, u108, u109, u110, u111, u112, undef, undef, undef, undef, undef, undef, undef, undef, undef, undef, undef, undef, undef], []⟩ ∧
                  Below W.heap.size w2 w' ∧ Got (L 0) u106 (.pointer (some ⟨N, 1, none⟩)) ∧ Got (L 1) u107 (.int .i64 (x + 1)) ∧ Got (L 2) u108 (.pointer (some ⟨g, 0, none⟩)) ∧ Got (L 3) u109 (.int .i64 y) ∧ Got (L 4) u110 (.int .i64 (y - 1)) ∧ Got (L 5) u111 (.int .i64 (x + 1 + (y - 1))) ∧ Got (L 6) u112 (.pointer (some ⟨N, 1, none⟩)) ∧ (L 7 = false → Blk w' N 38 #[.int .i64 2, .int .i64 (x + 1), .int .i64 (q + a1), .int .i64 (n + a2), (.slice A4 add.length c4), (.slice A5 rem.length c5)]) ∧ (L 7 = true → Blk w' N 38 #[.int .i64 2, .int .i64 (x + 1 + (y - 1)), .int .i64 (q + a1), .int .i64 (n + a2), (.slice A4 add.length c4), (.slice A5 rem.length c5)]) ∧ w'.ownsRow W.heap.size 34 12 (.slice A4 add.length c4) add.length (ents add) ∧ w'.ownsRow W.heap.size 3 1 (.slice A5 rem.length c5) rem.length (ints rem) ∧ (L 3 = false → Src w' W.heap.size 100 g rs.tail) ∧ (L 3 = true → Src w' W.heap.size 100 g rs.tail.tail) ∧ (L 7 = true → L 1 = true) ∧ (L 5 = true → L 1 = true))
                ?_ ?_ ?_
              · exact ⟨_, _, _, _, _, _, _, rfl, (Below.refl _ _).drew, nofun, nofun, nofun, nofun, nofun, nofun, nofun, fun _ => BN2.out, nofun, OA2.out, OR2.out, fun _ => SR2.out.drewN 1, nofun, nofun, nofun⟩
              · refine ⟨?_, ?_, ?_, ?_, ?_, ?_, ?_, ?_, trivial⟩
                · rintro L a w' ⟨u106, u107, u108, u109, u110, u111, u112, rfl, hb, g0, g1, g2, g3, g4, g5, g6, g7, g8, g9, g10, g11, g12, g13, g14⟩ hl hd K hK
                  dsimp only at hK ⊢
                  go_simp
                  exact hK _ _ ⟨_, _, _, _, _, _, _, rfl, hb, fun _ => rfl, g1, g2, g3, g4, g5, g6, g7, g8, g9, g10, g11, g12, g13, g14⟩
                · rintro L a w' ⟨u106, u107, u108, u109, u110, u111, u112, rfl, hb, g0, g1, g2, g3, g4, g5, g6, g7, g8, g9, g10, g11, g12, g13, g14⟩ hl hd K hK
                  simp [Region.binds] at hd
                  dsimp only at hK ⊢
                  have e0 := g0 (by simp [hd])
                  subst e0
                  have h7 : L 7 = false := by
                    cases h : L 7 with
                    | false => rfl
                    | true => have := g13 h; rw [hl] at this; cases this
                  have cc := (g7 h7).cell 1
                  simp only [List.getElem?_toArray, List.getElem?_cons_zero, List.getElem?_cons_succ] at cc
                  go_simp
                  exact hK _ _ ⟨_, _, _, _, _, _, _, rfl, hb, g0, fun _ => rfl, g2, g3, g4, g5, g6, g7, g8, g9, g10, g11, g12, fun _ => rfl, fun _ => rfl⟩
                · rintro L a w' ⟨u106, u107, u108, u109, u110, u111, u112, rfl, hb, g0, g1, g2, g3, g4, g5, g6, g7, g8, g9, g10, g11, g12, g13, g14⟩ hl hd K hK
                  dsimp only at hK ⊢
                  go_simp
                  exact hK _ _ ⟨_, _, _, _, _, _, _, rfl, hb, g0, g1, fun _ => rfl, g3, g4, g5, g6, g7, g8, g9, g10, g11, g12, g13, g14⟩
                · rintro L a w' ⟨u106, u107, u108, u109, u110, u111, u112, rfl, hb, g0, g1, g2, g3, g4, g5, g6, g7, g8, g9, g10, g11, g12, g13, g14⟩ hl hd K hK
                  simp [Region.binds] at hd
                  dsimp only at hK ⊢
                  have e2 := g2 (by simp [hd])
                  subst e2
                  have kS := g11 hl
                  have HK := Lib.hid hK
                  clear hK
                  go_wp2_with fail
                  refine (next_any _ g 3 rs.tail w' kS (by omega) (by omega)).mono ?_
                  rintro _ w5 ⟨rfl, ho5, hs5⟩
                  have hK := HK.out
                  rw [HY.out]
                  exact hK _ _ ⟨_, _, _, _, _, _, _, rfl, below_only hb ho5 hgg (Nat.le_trans hws2 hb.size), g0, g1, g2, fun _ => rfl, g4, g5, g6, fun h => (g7 h).grown ho5 (by intro e; injection e with e; exact hNg e), fun h => (g8 h).grown ho5 (by intro e; injection e with e; exact hNg e), own_only g9 kS (by decide) ho5, own_only g10 kS (by decide) ho5, nofun, fun _ => hs5, g13, g14⟩
                · rintro L a w' ⟨u106, u107, u108, u109, u110, u111, u112, rfl, hb, g0, g1, g2, g3, g4, g5, g6, g7, g8, g9, g10, g11, g12, g13, g14⟩ hl hd K hK
                  simp [Region.binds] at hd
                  dsimp only at hK ⊢
                  have e3 := g3 (by simp [hd])
                  subst e3
                  go_simp
                  exact hK _ _ ⟨_, _, _, _, _, _, _, rfl, hb, g0, g1, g2, g3, fun _ => rfl, g5, g6, g7, g8, g9, g10, g11, g12, g13, g14⟩
                · rintro L a w' ⟨u106, u107, u108, u109, u110, u111, u112, rfl, hb, g0, g1, g2, g3, g4, g5, g6, g7, g8, g9, g10, g11, g12, g13, g14⟩ hl hd K hK
                  simp [Region.binds] at hd
                  dsimp only at hK ⊢
                  have e1 := g1 (by simp [hd])
                  subst e1
                  have e4 := g4 (by simp [hd])
                  subst e4
                  go_simp
                  exact hK _ _ ⟨_, _, _, _, _, _, _, rfl, hb, g0, g1, g2, g3, g4, fun _ => rfl, g6, g7, g8, g9, g10, g11, g12, g13, fun _ => (by show L 1 = true; simp [hd])⟩
                · rintro L a w' ⟨u106, u107, u108, u109, u110, u111, u112, rfl, hb, g0, g1, g2, g3, g4, g5, g6, g7, g8, g9, g10, g11, g12, g13, g14⟩ hl hd K hK
                  dsimp only at hK ⊢
                  go_simp
                  exact hK _ _ ⟨_, _, _, _, _, _, _, rfl, hb, g0, g1, g2, g3, g4, g5, fun _ => rfl, g7, g8, g9, g10, g11, g12, g13, g14⟩
                · rintro L a w' ⟨u106, u107, u108, u109, u110, u111, u112, rfl, hb, g0, g1, g2, g3, g4, g5, g6, g7, g8, g9, g10, g11, g12, g13, g14⟩ hl hd K hK
                  simp [Region.binds] at hd
                  dsimp only at hK ⊢
                  have e5 := g5 (by simp [hd])
                  subst e5
                  have e6 := g6 (by simp [hd])
                  subst e6
                  have bb := g7 hl
                  have cc := bb.cell 1
                  simp only [List.getElem?_toArray, List.getElem?_cons_zero, List.getElem?_cons_succ] at cc
                  have ff := bb.frozen 1
                  have hlt := bb.lt
                  have h1 : L 1 = true := g14 (by simp [hd])
                  go_simp
                  have kg := grownBy_set w' ⟨N, 1, none⟩ (.int .i64 (x + 1 + (y - 1)))
                  have kb := bb.set_ 1 (.int .i64 (x + 1 + (y - 1)))
                  simp only [List.setIfInBounds_toArray, List.set_cons_zero, List.set_cons_succ] at kb
                  exact hK _ _ ⟨_, _, _, _, _, _, _, rfl, below_row hb kg hNW (Nat.le_trans hws2 hb.size), g0, g1, g2, g3, g4, g5, g6, nofun, fun _ => kb, own_row g9 kg (fun b hb2 e => own_blk_ne g9 bb (by decide) (by rw [hb2, e])), own_row g10 kg (fun b hb2 e => own_blk_ne g10 bb (by decide) (by rw [hb2, e])), fun h => (g11 h).row kg hNg hNW, fun h => (g12 h).row kg hNg hNW, fun _ => h1, g14⟩
              rintro a w9 ⟨u106, u107, u108, u109, u110, u111, u112, rfl, hb, g0, g1, g2, g3, g4, g5, g6, g7, g8, g9, g10, g11, g12, g13, g14⟩
              have e0 := g0 rfl
              subst e0
              have e1 := g1 rfl
              subst e1
              have e2 := g2 rfl
              subst e2
              have e3 := g3 rfl
              subst e3
              have e4 := g4 rfl
              subst e4
              have e5 := g5 rfl
              subst e5
              have e6 := g6 rfl
              subst e6
              have BN9 := Lib.hid (g8 rfl)
              have OA9 := Lib.hid g9
              have OR9 := Lib.hid g10
              have HB9 := Lib.hid (HB2.out.trans hb)
              clear hb wy1 wy2
              clear g0 g1 g2 g3 g4 g5 g6 g7 g8 g9 g10 g11 g12 g13 g14
              have m0 := BN9.out.cell 0
              have m1 := BN9.out.cell 1
              have m2 := BN9.out.cell 2
              have m3 := BN9.out.cell 3
              have m4 := BN9.out.cell 4
              have m5 := BN9.out.cell 5
              simp only [List.getElem?_toArray, List.getElem?_cons_zero, List.getElem?_cons_succ] at m0 m1 m2 m3 m4 m5
              have bz := HbZ.out.below HB9.out HbZ.out.lt
              have z0 := bz.cell 0
              have z1 := bz.cell 1
              have z2 := bz.cell 2
              have z3 := bz.cell 3
              have z4 := bz.cell 4
              have z5 := bz.cell 5
              simp only [List.getElem?_toArray, List.getElem?_cons_zero, List.getElem?_cons_succ] at z0 z1 z2 z3 z4 z5
              have f0 := bz.frozen 0
              have f1 := bz.frozen 1
              have f2 := bz.frozen 2
              have f3 := bz.frozen 3
              have f4 := bz.frozen 4
              have f5 := bz.frozen 5
              have hltz := bz.lt
              have HZ9 := Lib.hid bz
              clear bz
              go_wp2
              have kg := grown6 w9 (w.heap.size + 1) (.int .i64 2) (.int .i64 (x + 1 + (y - 1))) (.int .i64 (q + a1)) (.int .i64 (n + a2)) (.slice A4 add.length c4) (.slice A5 rem.length c5)
              have kb := blk6 (.int .i64 2) (.int .i64 (x + 1 + (y - 1))) (.int .i64 (q + a1)) (.int .i64 (n + a2)) (.slice A4 add.length c4) (.slice A5 rem.length c5) HZ9.out
              have ka := own_row (OA9.out) kg (fun b hb e => by have := ((OA9.out).lt b hb).1; omega)
              have kr := own_row (OR9.out) kg (fun b hb e => by have := ((OR9.out).lt b hb).1; omega)
              have kw := below_row (HBW.out.trans (HB9.out.mono HBW.out.size)) kg (by omega) (by have := HB9.out.size; omega)
              obtain ⟨V, hV⟩ : ∃ V, V = (((((w9.setCell ⟨w.heap.size + 1, 0, none⟩ (.int .i64 2)).setCell ⟨w.heap.size + 1, 1, none⟩ (.int .i64 (x + 1 + (y - 1)))).setCell ⟨w.heap.size + 1, 2, none⟩ (.int .i64 (q + a1))).setCell ⟨w.heap.size + 1, 3, none⟩ (.int .i64 (n + a2))).setCell ⟨w.heap.size + 1, 4, none⟩ (.slice A4 add.length c4)).setCell ⟨w.heap.size + 1, 5, none⟩ (.slice A5 rem.length c5) := ⟨_, rfl⟩
              rw [← hV] at kb ka kr kw ⊢
              have d0 := kb.cell 0
              have d1 := kb.cell 1
              have d2 := kb.cell 2
              have d3 := kb.cell 3
              have d4 := kb.cell 4
              have d5 := kb.cell 5
              simp only [List.getElem?_toArray, List.getElem?_cons_zero, List.getElem?_cons_succ] at d0 d1 d2 d3 d4 d5
              exact bodyPost_ret (v := .agg #[.int .i64 2, .int .i64 (x + 1 + (y - 1)), .int .i64 (q + a1), .int .i64 (n + a2), (.slice A4 add.length c4), (.slice A5 rem.length c5)]) (by simp [results, Try.results17, go_sem, d0, d1, d2, d3, d4, d5]) rfl ⟨2, (x + 1 + (y - 1)), q + a1, (n + a2), add, rem, _, _, rfl, own_mono ka (by omega), own_mono kr (by omega), hsa.out, (by first | omega | (simp; omega)), (by first | omega | (simp; omega)), kw⟩
            by_cases hsw1 : sw = 1
            · have t5 : (sw == 0) = false := by simpa using hsw0
              have t6 : (sw == 1) = true := by simpa using hsw1
              clear hsw0 hsw1
              have m0 := BN2.out.cell 0
              have m1 := BN2.out.cell 1
              have m2 := BN2.out.cell 2
              have m3 := BN2.out.cell 3
              have m4 := BN2.out.cell 4
              have m5 := BN2.out.cell 5
              simp only [List.getElem?_toArray, List.getElem?_cons_zero, List.getElem?_cons_succ] at m0 m1 m2 m3 m4 m5
              have hws2 := HB2.out.size
              go_wp2_with (at_builtin; go_must (refine app1 _ _ OR2.out (Below.refl W.heap.size w2) (Nat.le_refl _) hws2 under_i64 info_i64 rfl (by decide) rfl (oneInt _ _) (by omega) (by omega) rfl rfl rfl rfl ?_))
              intro g3 cap3 w3 oR3 hb3 hg3 hor3
              have BN3 := Lib.hid (BN2.out.grown hg3 (fun e => own_blk_ne OR2.out BN2.out (by decide) e))
              have OA3 := Lib.hid (own_grown OA2.out hg3 (fun b hb2 e => own_ne OA2.out OR2.out (by decide) b hb2 e))
              have HB3 := Lib.hid (HB2.out.trans hb3)
              have OR3 := Lib.hid oR3
              clear m0 m1 m2 m3 m4 m5 oR3 hb3 hg3 hor3
              have m5 := BN3.out.cell 5
              simp only [List.getElem?_toArray, List.getElem?_cons_zero, List.getElem?_cons_succ] at m5
              have f5 := BN3.out.frozen 5
              have hN3 := BN3.out.lt
              go_upto_region 28 with (fail)
              obtain ⟨w4, hw4⟩ : ∃ w4, w4 = w3.setCell ⟨N, 5, none⟩ (.slice (some ⟨g3, 0, none⟩) (rem.length + 1) cap3) := ⟨_, rfl⟩
              have kg : w3.grownBy w4 (some N) := by rw [hw4]; exact grownBy_set w3 ⟨N, 5, none⟩ _
              have BN4 := Lib.hid (show Blk w4 N 38 #[.int .i64 2, .int .i64 (x + 1), .int .i64 (q + a1), .int .i64 (n + a2), (.slice A4 add.length c4), (.slice (some ⟨g3, 0, none⟩) (rem.length + 1) cap3)] by
                have := BN3.out.set_ 5 (.slice (some ⟨g3, 0, none⟩) (rem.length + 1) cap3)
                simp only [List.setIfInBounds_toArray, List.set_cons_zero, List.set_cons_succ] at this
                rw [hw4]; exact this)
              have OA4 := Lib.hid (own_row OA3.out kg (fun b hb2 e => own_blk_ne OA3.out BN3.out (by decide) (by rw [hb2, e])))
              have OR4 := Lib.hid (own_row OR3.out kg (fun b hb2 e => own_blk_ne OR3.out BN3.out (by decide) (by rw [hb2, e])))
              have HB4 := Lib.hid (below_row HB3.out kg hNW HB3.out.size)
              rw [← hw4]
              clear hw4 kg m5 f5 hN3
              have m0 := BN4.out.cell 0
              have m1 := BN4.out.cell 1
              have m2 := BN4.out.cell 2
              have m3 := BN4.out.cell 3
              have m4 := BN4.out.cell 4
              have m5 := BN4.out.cell 5
              simp only [List.getElem?_toArray, List.getElem?_cons_zero, List.getElem?_cons_succ] at m0 m1 m2 m3 m4 m5
              have bz := HbZ.out.below HB4.out HbZ.out.lt
              have z0 := bz.cell 0
              have z1 := bz.cell 1
              have z2 := bz.cell 2
              have z3 := bz.cell 3
              have z4 := bz.cell 4
              have z5 := bz.cell 5
              simp only [List.getElem?_toArray, List.getElem?_cons_zero, List.getElem?_cons_succ] at z0 z1 z2 z3 z4 z5
              have f0 := bz.frozen 0
              have f1 := bz.frozen 1
              have f2 := bz.frozen 2
              have f3 := bz.frozen 3
              have f4 := bz.frozen 4
              have f5 := bz.frozen 5
              have hltz := bz.lt
              have HZ9 := Lib.hid bz
              clear bz
              go_wp2
              have kg := grown6 w4 (w.heap.size + 1) (.int .i64 2) (.int .i64 (x + 1)) (.int .i64 (q + a1)) (.int .i64 (n + a2)) (.slice A4 add.length c4) (.slice (some ⟨g3, 0, none⟩) (rem.length + 1) cap3)
              have kb := blk6 (.int .i64 2) (.int .i64 (x + 1)) (.int .i64 (q + a1)) (.int .i64 (n + a2)) (.slice A4 add.length c4) (.slice (some ⟨g3, 0, none⟩) (rem.length + 1) cap3) HZ9.out
              have ka := own_row (OA4.out) kg (fun b hb e => by have := ((OA4.out).lt b hb).1; omega)
              have kr := own_row (own_ints1 OR4.out) kg (fun b hb e => by have := ((own_ints1 OR4.out).lt b hb).1; omega)
              have kw := below_row (HBW.out.trans (HB4.out.mono HBW.out.size)) kg (by omega) (by have := HB4.out.size; omega)
              obtain ⟨V, hV⟩ : ∃ V, V = (((((w4.setCell ⟨w.heap.size + 1, 0, none⟩ (.int .i64 2)).setCell ⟨w.heap.size + 1, 1, none⟩ (.int .i64 (x + 1))).setCell ⟨w.heap.size + 1, 2, none⟩ (.int .i64 (q + a1))).setCell ⟨w.heap.size + 1, 3, none⟩ (.int .i64 (n + a2))).setCell ⟨w.heap.size + 1, 4, none⟩ (.slice A4 add.length c4)).setCell ⟨w.heap.size + 1, 5, none⟩ (.slice (some ⟨g3, 0, none⟩) (rem.length + 1) cap3) := ⟨_, rfl⟩
              rw [← hV] at kb ka kr kw ⊢
              have d0 := kb.cell 0
              have d1 := kb.cell 1
              have d2 := kb.cell 2
              have d3 := kb.cell 3
              have d4 := kb.cell 4
              have d5 := kb.cell 5
              simp only [List.getElem?_toArray, List.getElem?_cons_zero, List.getElem?_cons_succ] at d0 d1 d2 d3 d4 d5
              exact bodyPost_ret (v := .agg #[.int .i64 2, .int .i64 (x + 1), .int .i64 (q + a1), .int .i64 (n + a2), (.slice A4 add.length c4), (.slice (some ⟨g3, 0, none⟩) (rem.length + 1) cap3)]) (by simp [results, Try.results17, go_sem, d0, d1, d2, d3, d4, d5]) rfl ⟨2, (x + 1), q + a1, (n + a2), add, rem ++ [90], _, _, rfl, own_mono ka (by omega), own_mono kr (by omega), hsa.out, (by first | omega | (simp; omega)), (by first | omega | (simp; omega)), kw⟩
            by_cases hsw2 : sw = 2
            · have t5 : (sw == 0) = false := by simpa using hsw0
              have t6 : (sw == 1) = false := by simpa using hsw1
              have t7 : (sw == 2) = true := by simpa using hsw2
              clear hsw0 hsw1 hsw2
              go_wp2_with fail
              refine (next_any _ g 40 rs.tail w2 SR2.out (by omega) (by omega)).mono ?_
              rintro _ w3 ⟨rfl, ho3, hs3⟩
              have yl := nxt_lo 40 rs.tail (by omega)
              have yh := nxt_hi 40 rs.tail (by omega)
              obtain ⟨y, hy⟩ : ∃ a, nxt 40 rs.tail = a := ⟨_, rfl⟩
              rw [hy] at yl yh ⊢
              clear hy
              have BN3 := Lib.hid (show Blk w3 N 38 #[.int .i64 2, .int .i64 (x + 1), .int .i64 (q + a1), .int .i64 (n + a2), (.slice A4 add.length c4), (.slice A5 rem.length c5)] from BN2.out.grown ho3 (by intro e; injection e with e; exact hNg e))
              have OA3 := Lib.hid (own_only OA2.out SR2.out (by decide) ho3)
              have OR3 := Lib.hid (own_only OR2.out SR2.out (by decide) ho3)
              have SR3 := Lib.hid hs3
              have HB3 := Lib.hid (below_only HB2.out ho3 hgg HB2.out.size)
              clear ho3 hs3
              have n3 := BN3.out.cell 3
              simp only [List.getElem?_toArray, List.getElem?_cons_zero, List.getElem?_cons_succ] at n3
              have f3 := BN3.out.frozen 3
              have hN3 := BN3.out.lt
              go_upto_region 28 with (fail)
              obtain ⟨w4, hw4⟩ : ∃ w4, w4 = w3.setCell ⟨N, 3, none⟩ (.int .i64 y) := ⟨_, rfl⟩
              have kg : w3.grownBy w4 (some N) := by rw [hw4]; exact grownBy_set w3 ⟨N, 3, none⟩ _
              have BN4 := Lib.hid (show Blk w4 N 38 #[.int .i64 2, .int .i64 (x + 1), .int .i64 (q + a1), .int .i64 y, (.slice A4 add.length c4), (.slice A5 rem.length c5)] by
                have := BN3.out.set_ 3 (.int .i64 y)
                simp only [List.setIfInBounds_toArray, List.set_cons_zero, List.set_cons_succ] at this
                rw [hw4]; exact this)
              have OA4 := Lib.hid (own_row OA3.out kg (fun b hb2 e => own_blk_ne OA3.out BN3.out (by decide) (by rw [hb2, e])))
              have OR4 := Lib.hid (own_row OR3.out kg (fun b hb2 e => own_blk_ne OR3.out BN3.out (by decide) (by rw [hb2, e])))
              have HB4 := Lib.hid (below_row HB3.out kg hNW HB3.out.size)
              rw [← hw4]
              clear hw4 kg n3 f3 hN3
              have m0 := BN4.out.cell 0
              have m1 := BN4.out.cell 1
              have m2 := BN4.out.cell 2
              have m3 := BN4.out.cell 3
              have m4 := BN4.out.cell 4
              have m5 := BN4.out.cell 5
              simp only [List.getElem?_toArray, List.getElem?_cons_zero, List.getElem?_cons_succ] at m0 m1 m2 m3 m4 m5
              have bz := HbZ.out.below HB4.out HbZ.out.lt
              have z0 := bz.cell 0
              have z1 := bz.cell 1
              have z2 := bz.cell 2
              have z3 := bz.cell 3
              have z4 := bz.cell 4
              have z5 := bz.cell 5
              simp only [List.getElem?_toArray, List.getElem?_cons_zero, List.getElem?_cons_succ] at z0 z1 z2 z3 z4 z5
              have f0 := bz.frozen 0
              have f1 := bz.frozen 1
              have f2 := bz.frozen 2
              have f3 := bz.frozen 3
              have f4 := bz.frozen 4
              have f5 := bz.frozen 5
              have hltz := bz.lt
              have HZ9 := Lib.hid bz
              clear bz
              go_wp2
              have kg := grown6 w4 (w.heap.size + 1) (.int .i64 2) (.int .i64 (x + 1)) (.int .i64 (q + a1)) (.int .i64 y) (.slice A4 add.length c4) (.slice A5 rem.length c5)
              have kb := blk6 (.int .i64 2) (.int .i64 (x + 1)) (.int .i64 (q + a1)) (.int .i64 y) (.slice A4 add.length c4) (.slice A5 rem.length c5) HZ9.out
              have ka := own_row (OA4.out) kg (fun b hb e => by have := ((OA4.out).lt b hb).1; omega)
              have kr := own_row (OR4.out) kg (fun b hb e => by have := ((OR4.out).lt b hb).1; omega)
              have kw := below_row (HBW.out.trans (HB4.out.mono HBW.out.size)) kg (by omega) (by have := HB4.out.size; omega)
              obtain ⟨V, hV⟩ : ∃ V, V = (((((w4.setCell ⟨w.heap.size + 1, 0, none⟩ (.int .i64 2)).setCell ⟨w.heap.size + 1, 1, none⟩ (.int .i64 (x + 1))).setCell ⟨w.heap.size + 1, 2, none⟩ (.int .i64 (q + a1))).setCell ⟨w.heap.size + 1, 3, none⟩ (.int .i64 y)).setCell ⟨w.heap.size + 1, 4, none⟩ (.slice A4 add.length c4)).setCell ⟨w.heap.size + 1, 5, none⟩ (.slice A5 rem.length c5) := ⟨_, rfl⟩
              rw [← hV] at kb ka kr kw ⊢
              have d0 := kb.cell 0
              have d1 := kb.cell 1
              have d2 := kb.cell 2
              have d3 := kb.cell 3
              have d4 := kb.cell 4
              have d5 := kb.cell 5
              simp only [List.getElem?_toArray, List.getElem?_cons_zero, List.getElem?_cons_succ] at d0 d1 d2 d3 d4 d5
              exact bodyPost_ret (v := .agg #[.int .i64 2, .int .i64 (x + 1), .int .i64 (q + a1), .int .i64 y, (.slice A4 add.length c4), (.slice A5 rem.length c5)]) (by simp [results, Try.results17, go_sem, d0, d1, d2, d3, d4, d5]) rfl ⟨2, (x + 1), q + a1, y, add, rem, _, _, rfl, own_mono ka (by omega), own_mono kr (by omega), hsa.out, (by first | omega | (simp; omega)), (by first | omega | (simp; omega)), kw⟩
            have t5 : (sw == 0) = false := by simpa using hsw0
            have t6 : (sw == 1) = false := by simpa using hsw1
            have t7 : (sw == 2) = false := by simpa using hsw2
            clear hsw0 hsw1 hsw2
            have m0 := BN2.out.cell 0
            have m1 := BN2.out.cell 1
            have m2 := BN2.out.cell 2
            have m3 := BN2.out.cell 3
            have m4 := BN2.out.cell 4
            have m5 := BN2.out.cell 5
            simp only [List.getElem?_toArray, List.getElem?_cons_zero, List.getElem?_cons_succ] at m0 m1 m2 m3 m4 m5
            have bz := HbZ.out.below HB2.out HbZ.out.lt
            have z0 := bz.cell 0
            have z1 := bz.cell 1
            have z2 := bz.cell 2
            have z3 := bz.cell 3
            have z4 := bz.cell 4
            have z5 := bz.cell 5
            simp only [List.getElem?_toArray, List.getElem?_cons_zero, List.getElem?_cons_succ] at z0 z1 z2 z3 z4 z5
            have f0 := bz.frozen 0
            have f1 := bz.frozen 1
            have f2 := bz.frozen 2
            have f3 := bz.frozen 3
            have f4 := bz.frozen 4
            have f5 := bz.frozen 5
            have hltz := bz.lt
            have HZ9 := Lib.hid bz
            clear bz
            go_wp2
            have kg := grown6 w2 (w.heap.size + 1) (.int .i64 2) (.int .i64 (x + 1)) (.int .i64 (q + a1)) (.int .i64 (n + a2)) (.slice A4 add.length c4) (.slice A5 rem.length c5)
            have kb := blk6 (.int .i64 2) (.int .i64 (x + 1)) (.int .i64 (q + a1)) (.int .i64 (n + a2)) (.slice A4 add.length c4) (.slice A5 rem.length c5) HZ9.out
            have ka := own_row (OA2.out) kg (fun b hb e => by have := ((OA2.out).lt b hb).1; omega)
            have kr := own_row (OR2.out) kg (fun b hb e => by have := ((OR2.out).lt b hb).1; omega)
            have kw := below_row (HBW.out.trans (HB2.out.mono HBW.out.size)) kg (by omega) (by have := HB2.out.size; omega)
            obtain ⟨V, hV⟩ : ∃ V, V = (((((w2.setCell ⟨w.heap.size + 1, 0, none⟩ (.int .i64 2)).setCell ⟨w.heap.size + 1, 1, none⟩ (.int .i64 (x + 1))).setCell ⟨w.heap.size + 1, 2, none⟩ (.int .i64 (q + a1))).setCell ⟨w.heap.size + 1, 3, none⟩ (.int .i64 (n + a2))).setCell ⟨w.heap.size + 1, 4, none⟩ (.slice A4 add.length c4)).setCell ⟨w.heap.size + 1, 5, none⟩ (.slice A5 rem.length c5) := ⟨_, rfl⟩
            rw [← hV] at kb ka kr kw ⊢
            have d0 := kb.cell 0
            have d1 := kb.cell 1
            have d2 := kb.cell 2
            have d3 := kb.cell 3
            have d4 := kb.cell 4
            have d5 := kb.cell 5
            simp only [List.getElem?_toArray, List.getElem?_cons_zero, List.getElem?_cons_succ] at d0 d1 d2 d3 d4 d5
            exact bodyPost_ret (v := .agg #[.int .i64 2, .int .i64 (x + 1), .int .i64 (q + a1), .int .i64 (n + a2), (.slice A4 add.length c4), (.slice A5 rem.length c5)]) (by simp [results, Try.results17, go_sem, d0, d1, d2, d3, d4, d5]) rfl ⟨2, (x + 1), q + a1, (n + a2), add, rem, _, _, rfl, own_mono ka (by omega), own_mono kr (by omega), hsa.out, (by first | omega | (simp; omega)), (by first | omega | (simp; omega)), kw⟩
          · subst hj0
            clear hgo
            go_wp2_with fail
            refine (next_any _ g 12 rs wr SR0.out (by omega) (by omega)).mono ?_
            rintro _ w2 ⟨rfl, ho2, hs2⟩
            have swl := nxt_lo 12 rs (by omega)
            have swh := nxt_hi 12 rs (by omega)
            obtain ⟨sw, hsw⟩ : ∃ a, nxt 12 rs = a := ⟨_, rfl⟩
            rw [hsw] at swl swh ⊢
            clear hsw
            have BN2 := Lib.hid (show Blk w2 N 38 #[.int .i64 2, .int .i64 (x + 1), .int .i64 (q + a1), .int .i64 (n + a2), (.slice A4 add.length c4), (.slice A5 rem.length c5)] from BN0.out.grown ho2 (by intro e; injection e with e; exact hNg e))
            have OA2 := Lib.hid (own_only OA0.out SR0.out (by decide) ho2)
            have OR2 := Lib.hid (own_only OR0.out SR0.out (by decide) ho2)
            have SR2 := Lib.hid hs2
            have HB2 := Lib.hid (below_only HB0.out ho2 hgg HB0.out.size)
            clear ho2 hs2
            clear m0 m1 m2 m3 m4 m5 BN0 OA0 OR0 SR0 HB0
            by_cases hsw0 : sw = 0
            · have t5 : (sw == 0) = true := by simpa using hsw0
              clear hsw0
              go_upto_region 23 with (fail)
              have yl := nxt_lo 3 rs.tail (by omega)
              have yh := nxt_hi 3 rs.tail (by omega)
              obtain ⟨y, hy⟩ : ∃ a, nxt 3 (rs.tail) = a := ⟨_, rfl⟩
              rw [hy] at yl yh
              have HY := Lib.hid hy
              clear hy
              have wy1 : IntKind.i64.wrap (y - 1) = y - 1 := IntWalk.i64_in _ (by omega)
              have wy2 : IntKind.i64.wrap (x + 1 + (y - 1)) = x + 1 + (y - 1) := IntWalk.i64_in _ (by omega)
              have hws2 := HB2.out.size
              refine wp_region_inv (by kernel_rfl) (by kernel_rfl) (fun L a w' => ∃ u106 u107 u108 u109 u110 u111 u112 : Value, a = ⟨#[.agg #[.int .i64 x, .int .i64 q, .int .i64 n, .slice AS l.length cS], .slice Az zs.length cz, .pointer (some ⟨w.heap.size, 0, none⟩), undef, .pointer (some ⟨w.heap.size + 1, 0, none⟩), .pointer (some ⟨g, 0, none⟩), .pointer (some ⟨N, 0, none⟩), undef, u8, .int .i64 i, .int .i64 0, u11, .slice Az zs.length cz, .pointer (some ⟨g, 0, none⟩), .pointer (some ⟨w.heap.size, 0, none⟩), .int .i64 x, .int .i64 (x + 1), .pointer (some ⟨w.heap.size, 1, none⟩), .int .i64 q, .pointer (some ⟨g, 0, none⟩), .int .i64 a1, .int .i64 (q + a1), .pointer (some ⟨w.heap.size, 2, none⟩), .int .i64 n, .pointer (some ⟨g, 0, none⟩), .int .i64 a2, .int .i64 (n + a2), .agg #[.int .i64 2, .int .i64 (x + 1), .int .i64 (q + a1), .int .i64 (n + a2), .slice none 0 0, .slice none 0 0], .pointer (some ⟨w.heap.size, 3, none⟩), .slice AS l.length cS, .int .i64 l.length, .int .i64 k, .bool false, u33, u34, u35, u36, u37, u38, u39, u40, u41, u42, u43, u44, u45, u46, u47, u48, u49, u50, u51, u52, u53, u54, u55, u56, u57, u58, .pointer (some ⟨w.heap.size, 2, none⟩), .int .i64 n, .pointer (some ⟨g, 0, none⟩), .int .i64 kk, .int .i64 0, .bool false, .bool false, undef, undef, undef, undef, .bool false, u71, u72, u73, u74, u75, u76, u77, u78, u79, u80, u81, u82, u83, u84, u85, u86, u87, u88, u89, u90, u91, u92, u93, u94, u95, u96, u97, u98, u99, u100, u101, .pointer (some ⟨g, 0, none⟩), .int .i64 sw, .bool true, .bool true, u106, u107, u108, u109, u110, u111, u112, undef, undef, undef, undef, undef, undef, undef, undef, undef, undef, undef, undef, undef], []⟩ ∧
                  Below W.heap.size w2 w' ∧ Got (L 0) u106 (.pointer (some ⟨N, 1, none⟩)) ∧ Got (L 1) u107 (.int .i64 (x + 1)) ∧ Got (L 2) u108 (.pointer (some ⟨g, 0, none⟩)) ∧ Got (L 3) u109 (.int .i64 y) ∧ Got (L 4) u110 (.int .i64 (y - 1)) ∧ Got (L 5) u111 (.int .i64 (x + 1 + (y - 1))) ∧ Got (L 6) u112 (.pointer (some ⟨N, 1, none⟩)) ∧ (L 7 = false → Blk w' N 38 #[.int .i64 2, .int .i64 (x + 1), .int .i64 (q + a1), .int .i64 (n + a2), (.slice A4 add.length c4), (.slice A5 rem.length c5)]) ∧ (L 7 = true → Blk w' N 38 #[.int .i64 2, .int .i64 (x + 1 + (y - 1)), .int .i64 (q + a1), .int .i64 (n + a2), (.slice A4 add.length c4), (.slice A5 rem.length c5)]) ∧ w'.ownsRow W.heap.size 34 12 (.slice A4 add.length c4) add.length (ents add) ∧ w'.ownsRow W.heap.size 3 1 (.slice A5 rem.length c5) rem.length (ints rem) ∧ (L 3 = false → Src w' W.heap.size 100 g rs.tail) ∧ (L 3 = true → Src w' W.heap.size 100 g rs.tail.tail) ∧ (L 7 = true → L 1 = true) ∧ (L 5 = true → L 1 = true))
                ?_ ?_ ?_
              · exact ⟨_, _, _, _, _, _, _, rfl, (Below.refl _ _).drew, nofun, nofun, nofun, nofun, nofun, nofun, nofun, fun _ => BN2.out, nofun, OA2.out, OR2.out, fun _ => SR2.out.drewN 1, nofun, nofun, nofun⟩
              · refine ⟨?_, ?_, ?_, ?_, ?_, ?_, ?_, ?_, trivial⟩
                · rintro L a w' ⟨u106, u107, u108, u109, u110, u111, u112, rfl, hb, g0, g1, g2, g3, g4, g5, g6, g7, g8, g9, g10, g11, g12, g13, g14⟩ hl hd K hK
                  dsimp only at hK ⊢
                  go_simp
                  exact hK _ _ ⟨_, _, _, _, _, _, _, rfl, hb, fun _ => rfl, g1, g2, g3, g4, g5, g6, g7, g8, g9, g10, g11, g12, g13, g14⟩
                · rintro L a w' ⟨u106, u107, u108, u109, u110, u111, u112, rfl, hb, g0, g1, g2, g3, g4, g5, g6, g7, g8, g9, g10, g11, g12, g13, g14⟩ hl hd K hK
                  simp [Region.binds] at hd
                  dsimp only at hK ⊢
                  have e0 := g0 (by simp [hd])
                  subst e0
                  have h7 : L 7 = false := by
                    cases h : L 7 with
                    | false => rfl
                    | true => have := g13 h; rw [hl] at this; cases this
                  have cc := (g7 h7).cell 1
                  simp only [List.getElem?_toArray, List.getElem?_cons_zero, List.getElem?_cons_succ] at cc
                  go_simp
                  exact hK _ _ ⟨_, _, _, _, _, _, _, rfl, hb, g0, fun _ => rfl, g2, g3, g4, g5, g6, g7, g8, g9, g10, g11, g12, fun _ => rfl, fun _ => rfl⟩
                · rintro L a w' ⟨u106, u107, u108, u109, u110, u111, u112, rfl, hb, g0, g1, g2, g3, g4, g5, g6, g7, g8, g9, g10, g11, g12, g13, g14⟩ hl hd K hK
                  dsimp only at hK ⊢
                  go_simp
                  exact hK _ _ ⟨_, _, _, _, _, _, _, rfl, hb, g0, g1, fun _ => rfl, g3, g4, g5, g6, g7, g8, g9, g10, g11, g12, g13, g14⟩
                · rintro L a w' ⟨u106, u107, u108, u109, u110, u111, u112, rfl, hb, g0, g1, g2, g3, g4, g5, g6, g7, g8, g9, g10, g11, g12, g13, g14⟩ hl hd K hK
                  simp [Region.binds] at hd
                  dsimp only at hK ⊢
                  have e2 := g2 (by simp [hd])
                  subst e2
                  have kS := g11 hl
                  have HK := Lib.hid hK
                  clear hK
                  go_wp2_with fail
                  refine (next_any _ g 3 rs.tail w' kS (by omega) (by omega)).mono ?_
                  rintro _ w5 ⟨rfl, ho5, hs5⟩
                  have hK := HK.out
                  rw [HY.out]
                  exact hK _ _ ⟨_, _, _, _, _, _, _, rfl, below_only hb ho5 hgg (Nat.le_trans hws2 hb.size), g0, g1, g2, fun _ => rfl, g4, g5, g6, fun h => (g7 h).grown ho5 (by intro e; injection e with e; exact hNg e), fun h => (g8 h).grown ho5 (by intro e; injection e with e; exact hNg e), own_only g9 kS (by decide) ho5, own_only g10 kS (by decide) ho5, nofun, fun _ => hs5, g13, g14⟩
                · rintro L a w' ⟨u106, u107, u108, u109, u110, u111, u112, rfl, hb, g0, g1, g2, g3, g4, g5, g6, g7, g8, g9, g10, g11, g12, g13, g14⟩ hl hd K hK
                  simp [Region.binds] at hd
                  dsimp only at hK ⊢
                  have e3 := g3 (by simp [hd])
                  subst e3
                  go_simp
                  exact hK _ _ ⟨_, _, _, _, _, _, _, rfl, hb, g0, g1, g2, g3, fun _ => rfl, g5, g6, g7, g8, g9, g10, g11, g12, g13, g14⟩
                · rintro L a w' ⟨u106, u107, u108, u109, u110, u111, u112, rfl, hb, g0, g1, g2, g3, g4, g5, g6, g7, g8, g9, g10, g11, g12, g13, g14⟩ hl hd K hK
                  simp [Region.binds] at hd
                  dsimp only at hK ⊢
                  have e1 := g1 (by simp [hd])
                  subst e1
                  have e4 := g4 (by simp [hd])
                  subst e4
                  go_simp
                  exact hK _ _ ⟨_, _, _, _, _, _, _, rfl, hb, g0, g1, g2, g3, g4, fun _ => rfl, g6, g7, g8, g9, g10, g11, g12, g13, fun _ => (by show L 1 = true; simp [hd])⟩
                · rintro L a w' ⟨u106, u107, u108, u109, u110, u111, u112, rfl, hb, g0, g1, g2, g3, g4, g5, g6, g7, g8, g9, g10, g11, g12, g13, g14⟩ hl hd K hK
                  dsimp only at hK ⊢
                  go_simp
                  exact hK _ _ ⟨_, _, _, _, _, _, _, rfl, hb, g0, g1, g2, g3, g4, g5, fun _ => rfl, g7, g8, g9, g10, g11, g12, g13, g14⟩
                · rintro L a w' ⟨u106, u107, u108, u109, u110, u111, u112, rfl, hb, g0, g1, g2, g3, g4, g5, g6, g7, g8, g9, g10, g11, g12, g13, g14⟩ hl hd K hK
                  simp [Region.binds] at hd
                  dsimp only at hK ⊢
                  have e5 := g5 (by simp [hd])
                  subst e5
                  have e6 := g6 (by simp [hd])
                  subst e6
                  have bb := g7 hl
                  have cc := bb.cell 1
                  simp only [List.getElem?_toArray, List.getElem?_cons_zero, List.getElem?_cons_succ] at cc
                  have ff := bb.frozen 1
                  have hlt := bb.lt
                  have h1 : L 1 = true := g14 (by simp [hd])
                  go_simp
                  have kg := grownBy_set w' ⟨N, 1, none⟩ (.int .i64 (x + 1 + (y - 1)))
                  have kb := bb.set_ 1 (.int .i64 (x + 1 + (y - 1)))
                  simp only [List.setIfInBounds_toArray, List.set_cons_zero, List.set_cons_succ] at kb
                  exact hK _ _ ⟨_, _, _, _, _, _, _, rfl, below_row hb kg hNW (Nat.le_trans hws2 hb.size), g0, g1, g2, g3, g4, g5, g6, nofun, fun _ => kb, own_row g9 kg (fun b hb2 e => own_blk_ne g9 bb (by decide) (by rw [hb2, e])), own_row g10 kg (fun b hb2 e => own_blk_ne g10 bb (by decide) (by rw [hb2, e])), fun h => (g11 h).row kg hNg hNW, fun h => (g12 h).row kg hNg hNW, fun _ => h1, g14⟩
              rintro a w9 ⟨u106, u107, u108, u109, u110, u111, u112, rfl, hb, g0, g1, g2, g3, g4, g5, g6, g7, g8, g9, g10, g11, g12, g13, g14⟩
              have e0 := g0 rfl
              subst e0
              have e1 := g1 rfl
              subst e1
              have e2 := g2 rfl
              subst e2
              have e3 := g3 rfl
              subst e3
              have e4 := g4 rfl
              subst e4
              have e5 := g5 rfl
              subst e5
              have e6 := g6 rfl
              subst e6
              have BN9 := Lib.hid (g8 rfl)
              have OA9 := Lib.hid g9
              have OR9 := Lib.hid g10
              have HB9 := Lib.hid (HB2.out.trans hb)
              clear hb wy1 wy2
              clear g0 g1 g2 g3 g4 g5 g6 g7 g8 g9 g10 g11 g12 g13 g14
              have m0 := BN9.out.cell 0
              have m1 := BN9.out.cell 1
              have m2 := BN9.out.cell 2
              have m3 := BN9.out.cell 3
              have m4 := BN9.out.cell 4
              have m5 := BN9.out.cell 5
              simp only [List.getElem?_toArray, List.getElem?_cons_zero, List.getElem?_cons_succ] at m0 m1 m2 m3 m4 m5
              have bz := HbZ.out.below HB9.out HbZ.out.lt
              have z0 := bz.cell 0
              have z1 := bz.cell 1
              have z2 := bz.cell 2
              have z3 := bz.cell 3
              have z4 := bz.cell 4
              have z5 := bz.cell 5
              simp only [List.getElem?_toArray, List.getElem?_cons_zero, List.getElem?_cons_succ] at z0 z1 z2 z3 z4 z5
              have f0 := bz.frozen 0
              have f1 := bz.frozen 1
              have f2 := bz.frozen 2
              have f3 := bz.frozen 3
              have f4 := bz.frozen 4
              have f5 := bz.frozen 5
              have hltz := bz.lt
              have HZ9 := Lib.hid bz
              clear bz
              go_wp2
              have kg := grown6 w9 (w.heap.size + 1) (.int .i64 2) (.int .i64 (x + 1 + (y - 1))) (.int .i64 (q + a1)) (.int .i64 (n + a2)) (.slice A4 add.length c4) (.slice A5 rem.length c5)
              have kb := blk6 (.int .i64 2) (.int .i64 (x + 1 + (y - 1))) (.int .i64 (q + a1)) (.int .i64 (n + a2)) (.slice A4 add.length c4) (.slice A5 rem.length c5) HZ9.out
              have ka := own_row (OA9.out) kg (fun b hb e => by have := ((OA9.out).lt b hb).1; omega)
              have kr := own_row (OR9.out) kg (fun b hb e => by have := ((OR9.out).lt b hb).1; omega)
              have kw := below_row (HBW.out.trans (HB9.out.mono HBW.out.size)) kg (by omega) (by have := HB9.out.size; omega)
              obtain ⟨V, hV⟩ : ∃ V, V = (((((w9.setCell ⟨w.heap.size + 1, 0, none⟩ (.int .i64 2)).setCell ⟨w.heap.size + 1, 1, none⟩ (.int .i64 (x + 1 + (y - 1)))).setCell ⟨w.heap.size + 1, 2, none⟩ (.int .i64 (q + a1))).setCell ⟨w.heap.size + 1, 3, none⟩ (.int .i64 (n + a2))).setCell ⟨w.heap.size + 1, 4, none⟩ (.slice A4 add.length c4)).setCell ⟨w.heap.size + 1, 5, none⟩ (.slice A5 rem.length c5) := ⟨_, rfl⟩
              rw [← hV] at kb ka kr kw ⊢
              have d0 := kb.cell 0
              have d1 := kb.cell 1
              have d2 := kb.cell 2
              have d3 := kb.cell 3
              have d4 := kb.cell 4
              have d5 := kb.cell 5
              simp only [List.getElem?_toArray, List.getElem?_cons_zero, List.getElem?_cons_succ] at d0 d1 d2 d3 d4 d5
              exact bodyPost_ret (v := .agg #[.int .i64 2, .int .i64 (x + 1 + (y - 1)), .int .i64 (q + a1), .int .i64 (n + a2), (.slice A4 add.length c4), (.slice A5 rem.length c5)]) (by simp [results, Try.results17, go_sem, d0, d1, d2, d3, d4, d5]) rfl ⟨2, (x + 1 + (y - 1)), q + a1, (n + a2), add, rem, _, _, rfl, own_mono ka (by omega), own_mono kr (by omega), hsa.out, (by first | omega | (simp; omega)), (by first | omega | (simp; omega)), kw⟩
            by_cases hsw1 : sw = 1
            · have t5 : (sw == 0) = false := by simpa using hsw0
              have t6 : (sw == 1) = true := by simpa using hsw1
              clear hsw0 hsw1
              have m0 := BN2.out.cell 0
              have m1 := BN2.out.cell 1
              have m2 := BN2.out.cell 2
              have m3 := BN2.out.cell 3
              have m4 := BN2.out.cell 4
              have m5 := BN2.out.cell 5
              simp only [List.getElem?_toArray, List.getElem?_cons_zero, List.getElem?_cons_succ] at m0 m1 m2 m3 m4 m5
              have hws2 := HB2.out.size
              go_wp2_with (at_builtin; go_must (refine app1 _ _ OR2.out (Below.refl W.heap.size w2) (Nat.le_refl _) hws2 under_i64 info_i64 rfl (by decide) rfl (oneInt _ _) (by omega) (by omega) rfl rfl rfl rfl ?_))
              intro g3 cap3 w3 oR3 hb3 hg3 hor3
              have BN3 := Lib.hid (BN2.out.grown hg3 (fun e => own_blk_ne OR2.out BN2.out (by decide) e))
              have OA3 := Lib.hid (own_grown OA2.out hg3 (fun b hb2 e => own_ne OA2.out OR2.out (by decide) b hb2 e))
              have HB3 := Lib.hid (HB2.out.trans hb3)
              have OR3 := Lib.hid oR3
              clear m0 m1 m2 m3 m4 m5 oR3 hb3 hg3 hor3
              have m5 := BN3.out.cell 5
              simp only [List.getElem?_toArray, List.getElem?_cons_zero, List.getElem?_cons_succ] at m5
              have f5 := BN3.out.frozen 5
              have hN3 := BN3.out.lt
              go_upto_region 28 with (fail)
              obtain ⟨w4, hw4⟩ : ∃ w4, w4 = w3.setCell ⟨N, 5, none⟩ (.slice (some ⟨g3, 0, none⟩) (rem.length + 1) cap3) := ⟨_, rfl⟩
              have kg : w3.grownBy w4 (some N) := by rw [hw4]; exact grownBy_set w3 ⟨N, 5, none⟩ _
              have BN4 := Lib.hid (show Blk w4 N 38 #[.int .i64 2, .int .i64 (x + 1), .int .i64 (q + a1), .int .i64 (n + a2), (.slice A4 add.length c4), (.slice (some ⟨g3, 0, none⟩) (rem.length + 1) cap3)] by
                have := BN3.out.set_ 5 (.slice (some ⟨g3, 0, none⟩) (rem.length + 1) cap3)
                simp only [List.setIfInBounds_toArray, List.set_cons_zero, List.set_cons_succ] at this
                rw [hw4]; exact this)
              have OA4 := Lib.hid (own_row OA3.out kg (fun b hb2 e => own_blk_ne OA3.out BN3.out (by decide) (by rw [hb2, e])))
              have OR4 := Lib.hid (own_row OR3.out kg (fun b hb2 e => own_blk_ne OR3.out BN3.out (by decide) (by rw [hb2, e])))
              have HB4 := Lib.hid (below_row HB3.out kg hNW HB3.out.size)
              rw [← hw4]
              clear hw4 kg m5 f5 hN3
              have m0 := BN4.out.cell 0
              have m1 := BN4.out.cell 1
              have m2 := BN4.out.cell 2
              have m3 := BN4.out.cell 3
              have m4 := BN4.out.cell 4
              have m5 := BN4.out.cell 5
              simp only [List.getElem?_toArray, List.getElem?_cons_zero, List.getElem?_cons_succ] at m0 m1 m2 m3 m4 m5
              have bz := HbZ.out.below HB4.out HbZ.out.lt
              have z0 := bz.cell 0
              have z1 := bz.cell 1
              have z2 := bz.cell 2
              have z3 := bz.cell 3
              have z4 := bz.cell 4
              have z5 := bz.cell 5
              simp only [List.getElem?_toArray, List.getElem?_cons_zero, List.getElem?_cons_succ] at z0 z1 z2 z3 z4 z5
              have f0 := bz.frozen 0
              have f1 := bz.frozen 1
              have f2 := bz.frozen 2
              have f3 := bz.frozen 3
              have f4 := bz.frozen 4
              have f5 := bz.frozen 5
              have hltz := bz.lt
              have HZ9 := Lib.hid bz
              clear bz
              go_wp2
              have kg := grown6 w4 (w.heap.size + 1) (.int .i64 2) (.int .i64 (x + 1)) (.int .i64 (q + a1)) (.int .i64 (n + a2)) (.slice A4 add.length c4) (.slice (some ⟨g3, 0, none⟩) (rem.length + 1) cap3)
              have kb := blk6 (.int .i64 2) (.int .i64 (x + 1)) (.int .i64 (q + a1)) (.int .i64 (n + a2)) (.slice A4 add.length c4) (.slice (some ⟨g3, 0, none⟩) (rem.length + 1) cap3) HZ9.out
              have ka := own_row (OA4.out) kg (fun b hb e => by have := ((OA4.out).lt b hb).1; omega)
              have kr := own_row (own_ints1 OR4.out) kg (fun b hb e => by have := ((own_ints1 OR4.out).lt b hb).1; omega)
              have kw := below_row (HBW.out.trans (HB4.out.mono HBW.out.size)) kg (by omega) (by have := HB4.out.size; omega)
              obtain ⟨V, hV⟩ : ∃ V, V = (((((w4.setCell ⟨w.heap.size + 1, 0, none⟩ (.int .i64 2)).setCell ⟨w.heap.size + 1, 1, none⟩ (.int .i64 (x + 1))).setCell ⟨w.heap.size + 1, 2, none⟩ (.int .i64 (q + a1))).setCell ⟨w.heap.size + 1, 3, none⟩ (.int .i64 (n + a2))).setCell ⟨w.heap.size + 1, 4, none⟩ (.slice A4 add.length c4)).setCell ⟨w.heap.size + 1, 5, none⟩ (.slice (some ⟨g3, 0, none⟩) (rem.length + 1) cap3) := ⟨_, rfl⟩
              rw [← hV] at kb ka kr kw ⊢
              have d0 := kb.cell 0
              have d1 := kb.cell 1
              have d2 := kb.cell 2
              have d3 := kb.cell 3
              have d4 := kb.cell 4
              have d5 := kb.cell 5
              simp only [List.getElem?_toArray, List.getElem?_cons_zero, List.getElem?_cons_succ] at d0 d1 d2 d3 d4 d5
              exact bodyPost_ret (v := .agg #[.int .i64 2, .int .i64 (x + 1), .int .i64 (q + a1), .int .i64 (n + a2), (.slice A4 add.length c4), (.slice (some ⟨g3, 0, none⟩) (rem.length + 1) cap3)]) (by simp [results, Try.results17, go_sem, d0, d1, d2, d3, d4, d5]) rfl ⟨2, (x + 1), q + a1, (n + a2), add, rem ++ [90], _, _, rfl, own_mono ka (by omega), own_mono kr (by omega), hsa.out, (by first | omega | (simp; omega)), (by first | omega | (simp; omega)), kw⟩
            by_cases hsw2 : sw = 2
            · have t5 : (sw == 0) = false := by simpa using hsw0
              have t6 : (sw == 1) = false := by simpa using hsw1
              have t7 : (sw == 2) = true := by simpa using hsw2
              clear hsw0 hsw1 hsw2
              go_wp2_with fail
              refine (next_any _ g 40 rs.tail w2 SR2.out (by omega) (by omega)).mono ?_
              rintro _ w3 ⟨rfl, ho3, hs3⟩
              have yl := nxt_lo 40 rs.tail (by omega)
              have yh := nxt_hi 40 rs.tail (by omega)
              obtain ⟨y, hy⟩ : ∃ a, nxt 40 rs.tail = a := ⟨_, rfl⟩
              rw [hy] at yl yh ⊢
              clear hy
              have BN3 := Lib.hid (show Blk w3 N 38 #[.int .i64 2, .int .i64 (x + 1), .int .i64 (q + a1), .int .i64 (n + a2), (.slice A4 add.length c4), (.slice A5 rem.length c5)] from BN2.out.grown ho3 (by intro e; injection e with e; exact hNg e))
              have OA3 := Lib.hid (own_only OA2.out SR2.out (by decide) ho3)
              have OR3 := Lib.hid (own_only OR2.out SR2.out (by decide) ho3)
              have SR3 := Lib.hid hs3
              have HB3 := Lib.hid (below_only HB2.out ho3 hgg HB2.out.size)
              clear ho3 hs3
              have n3 := BN3.out.cell 3
              simp only [List.getElem?_toArray, List.getElem?_cons_zero, List.getElem?_cons_succ] at n3
              have f3 := BN3.out.frozen 3
              have hN3 := BN3.out.lt
              go_upto_region 28 with (fail)
              obtain ⟨w4, hw4⟩ : ∃ w4, w4 = w3.setCell ⟨N, 3, none⟩ (.int .i64 y) := ⟨_, rfl⟩
              have kg : w3.grownBy w4 (some N) := by rw [hw4]; exact grownBy_set w3 ⟨N, 3, none⟩ _
              have BN4 := Lib.hid (show Blk w4 N 38 #[.int .i64 2, .int .i64 (x + 1), .int .i64 (q + a1), .int .i64 y, (.slice A4 add.length c4), (.slice A5 rem.length c5)] by
                have := BN3.out.set_ 3 (.int .i64 y)
                simp only [List.setIfInBounds_toArray, List.set_cons_zero, List.set_cons_succ] at this
                rw [hw4]; exact this)
              have OA4 := Lib.hid (own_row OA3.out kg (fun b hb2 e => own_blk_ne OA3.out BN3.out (by decide) (by rw [hb2, e])))
              have OR4 := Lib.hid (own_row OR3.out kg (fun b hb2 e => own_blk_ne OR3.out BN3.out (by decide) (by rw [hb2, e])))
              have HB4 := Lib.hid (below_row HB3.out kg hNW HB3.out.size)
              rw [← hw4]
              clear hw4 kg n3 f3 hN3
              have m0 := BN4.out.cell 0
              have m1 := BN4.out.cell 1
              have m2 := BN4.out.cell 2
              have m3 := BN4.out.cell 3
              have m4 := BN4.out.cell 4
              have m5 := BN4.out.cell 5
              simp only [List.getElem?_toArray, List.getElem?_cons_zero, List.getElem?_cons_succ] at m0 m1 m2 m3 m4 m5
              have bz := HbZ.out.below HB4.out HbZ.out.lt
              have z0 := bz.cell 0
              have z1 := bz.cell 1
              have z2 := bz.cell 2
              have z3 := bz.cell 3
              have z4 := bz.cell 4
              have z5 := bz.cell 5
              simp only [List.getElem?_toArray, List.getElem?_cons_zero, List.getElem?_cons_succ] at z0 z1 z2 z3 z4 z5
              have f0 := bz.frozen 0
              have f1 := bz.frozen 1
              have f2 := bz.frozen 2
              have f3 := bz.frozen 3
              have f4 := bz.frozen 4
              have f5 := bz.frozen 5
              have hltz := bz.lt
              have HZ9 := Lib.hid bz
              clear bz
              go_wp2
              have kg := grown6 w4 (w.heap.size + 1) (.int .i64 2) (.int .i64 (x + 1)) (.int .i64 (q + a1)) (.int .i64 y) (.slice A4 add.length c4) (.slice A5 rem.length c5)
              have kb := blk6 (.int .i64 2) (.int .i64 (x + 1)) (.int .i64 (q + a1)) (.int .i64 y) (.slice A4 add.length c4) (.slice A5 rem.length c5) HZ9.out
              have ka := own_row (OA4.out) kg (fun b hb e => by have := ((OA4.out).lt b hb).1; omega)
              have kr := own_row (OR4.out) kg (fun b hb e => by have := ((OR4.out).lt b hb).1; omega)
              have kw := below_row (HBW.out.trans (HB4.out.mono HBW.out.size)) kg (by omega) (by have := HB4.out.size; omega)
              obtain ⟨V, hV⟩ : ∃ V, V = (((((w4.setCell ⟨w.heap.size + 1, 0, none⟩ (.int .i64 2)).setCell ⟨w.heap.size + 1, 1, none⟩ (.int .i64 (x + 1))).setCell ⟨w.heap.size + 1, 2, none⟩ (.int .i64 (q + a1))).setCell ⟨w.heap.size + 1, 3, none⟩ (.int .i64 y)).setCell ⟨w.heap.size + 1, 4, none⟩ (.slice A4 add.length c4)).setCell ⟨w.heap.size + 1, 5, none⟩ (.slice A5 rem.length c5) := ⟨_, rfl⟩
              rw [← hV] at kb ka kr kw ⊢
              have d0 := kb.cell 0
              have d1 := kb.cell 1
              have d2 := kb.cell 2
              have d3 := kb.cell 3
              have d4 := kb.cell 4
              have d5 := kb.cell 5
              simp only [List.getElem?_toArray, List.getElem?_cons_zero, List.getElem?_cons_succ] at d0 d1 d2 d3 d4 d5
              exact bodyPost_ret (v := .agg #[.int .i64 2, .int .i64 (x + 1), .int .i64 (q + a1), .int .i64 y, (.slice A4 add.length c4), (.slice A5 rem.length c5)]) (by simp [results, Try.results17, go_sem, d0, d1, d2, d3, d4, d5]) rfl ⟨2, (x + 1), q + a1, y, add, rem, _, _, rfl, own_mono ka (by omega), own_mono kr (by omega), hsa.out, (by first | omega | (simp; omega)), (by first | omega | (simp; omega)), kw⟩
            have t5 : (sw == 0) = false := by simpa using hsw0
            have t6 : (sw == 1) = false := by simpa using hsw1
            have t7 : (sw == 2) = false := by simpa using hsw2
            clear hsw0 hsw1 hsw2
            have m0 := BN2.out.cell 0
            have m1 := BN2.out.cell 1
            have m2 := BN2.out.cell 2
            have m3 := BN2.out.cell 3
            have m4 := BN2.out.cell 4
            have m5 := BN2.out.cell 5
            simp only [List.getElem?_toArray, List.getElem?_cons_zero, List.getElem?_cons_succ] at m0 m1 m2 m3 m4 m5
            have bz := HbZ.out.below HB2.out HbZ.out.lt
            have z0 := bz.cell 0
            have z1 := bz.cell 1
            have z2 := bz.cell 2
            have z3 := bz.cell 3
            have z4 := bz.cell 4
            have z5 := bz.cell 5
            simp only [List.getElem?_toArray, List.getElem?_cons_zero, List.getElem?_cons_succ] at z0 z1 z2 z3 z4 z5
            have f0 := bz.frozen 0
            have f1 := bz.frozen 1
            have f2 := bz.frozen 2
            have f3 := bz.frozen 3
            have f4 := bz.frozen 4
            have f5 := bz.frozen 5
            have hltz := bz.lt
            have HZ9 := Lib.hid bz
            clear bz
            go_wp2
            have kg := grown6 w2 (w.heap.size + 1) (.int .i64 2) (.int .i64 (x + 1)) (.int .i64 (q + a1)) (.int .i64 (n + a2)) (.slice A4 add.length c4) (.slice A5 rem.length c5)
            have kb := blk6 (.int .i64 2) (.int .i64 (x + 1)) (.int .i64 (q + a1)) (.int .i64 (n + a2)) (.slice A4 add.length c4) (.slice A5 rem.length c5) HZ9.out
            have ka := own_row (OA2.out) kg (fun b hb e => by have := ((OA2.out).lt b hb).1; omega)
            have kr := own_row (OR2.out) kg (fun b hb e => by have := ((OR2.out).lt b hb).1; omega)
            have kw := below_row (HBW.out.trans (HB2.out.mono HBW.out.size)) kg (by omega) (by have := HB2.out.size; omega)
            obtain ⟨V, hV⟩ : ∃ V, V = (((((w2.setCell ⟨w.heap.size + 1, 0, none⟩ (.int .i64 2)).setCell ⟨w.heap.size + 1, 1, none⟩ (.int .i64 (x + 1))).setCell ⟨w.heap.size + 1, 2, none⟩ (.int .i64 (q + a1))).setCell ⟨w.heap.size + 1, 3, none⟩ (.int .i64 (n + a2))).setCell ⟨w.heap.size + 1, 4, none⟩ (.slice A4 add.length c4)).setCell ⟨w.heap.size + 1, 5, none⟩ (.slice A5 rem.length c5) := ⟨_, rfl⟩
            rw [← hV] at kb ka kr kw ⊢
            have d0 := kb.cell 0
            have d1 := kb.cell 1
            have d2 := kb.cell 2
            have d3 := kb.cell 3
            have d4 := kb.cell 4
            have d5 := kb.cell 5
            simp only [List.getElem?_toArray, List.getElem?_cons_zero, List.getElem?_cons_succ] at d0 d1 d2 d3 d4 d5
            exact bodyPost_ret (v := .agg #[.int .i64 2, .int .i64 (x + 1), .int .i64 (q + a1), .int .i64 (n + a2), (.slice A4 add.length c4), (.slice A5 rem.length c5)]) (by simp [results, Try.results17, go_sem, d0, d1, d2, d3, d4, d5]) rfl ⟨2, (x + 1), q + a1, (n + a2), add, rem, _, _, rfl, own_mono ka (by omega), own_mono kr (by omega), hsa.out, (by first | omega | (simp; omega)), (by first | omega | (simp; omega)), kw⟩
end Go.Proofs.Ytoikgjhekemjdaa
