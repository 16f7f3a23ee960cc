/-
  The contract of micropartref18.History.
-/
import Derived.Test.YtoikgjhekemjdaaHist
import Derived.Test.YtoikgjhekemjdaaRcL
import Derived.Test.YtoikgjhekemjdaaRApply
import Derived.Test.YtoikgjhekemjdaaSnL
import Derived.Test.YtoikgjhekemjdaaInv2
namespace Go.Proofs.Ytoikgjhekemjdaa
open Go.RowKit Go.Sort
set_option maxRecDepth 100000 in
set_option maxHeartbeats 8000000 in
theorem rhist_any (v : Value) (l : List Rcd) (w : World) (hs : SlRc w v l) (hl : l.length ≤ 9223372036854775807) :
    Calls Try.prog 26 #[v] w (RetHist w (histV l)) := by
  obtain ⟨A, c, rfl, hc1, hc2⟩ := hs.form
  unfold maxLen at hc2
  rcases l with _ | ⟨r0, rs⟩
  · go_enter Try.func26, Try.ntmps26
    go_wp2
    exact bodyPost_ret (v := .tuple #[.slice none 0 0, .int .i64 1]) (by simp [results, Try.results26, go_sem]) rfl ⟨_, rfl, OwnSn.nil _ _, Below.refl _ _⟩
  simp only [List.length_cons] at hs hl hc1 ⊢
  obtain ⟨ad, r, va, vr, p0, rfl, hr, hp, hR, hok⟩ := hs.load (k := 0) rfl (by omega)
  simp at hr
  subst hr
  have hp' : p0 = ad := by rw [← hp]; simp [Addr.add]
  subst hp'
  clear hp
  obtain ⟨hplt, c0, c1, c2, c3, c4, c5⟩ := hR
  obtain ⟨hA, hRr, hsmA⟩ := hok
  obtain ⟨AA, cA, rfl, _, _⟩ := hA.form
  obtain ⟨AR, cR, rfl, _, _⟩ := hRr.form
  obtain ⟨kind, ver, seq, nid, add, rem⟩ := r0
  simp only at c0 c1 c2 c3 c4 c5 hA hRr hsmA
  have hal : add.length ≤ 9223372036854775807 := by obtain ⟨_, _, e, h1, h2⟩ := hA.form; unfold maxLen at h2; omega
  have hrl : rem.length ≤ 9223372036854775807 := by obtain ⟨_, _, e, h1, h2⟩ := hRr.form; unfold maxLen at h2; omega
  have HC := Lib.hid (rrecCheck_any kind ver seq nid add rem (.slice AA add.length cA) (.slice AR rem.length cR) w hA hsmA hal hRr hrl)
  obtain ⟨n, hn⟩ : ∃ n, recV ⟨kind, ver, seq, nid, add, rem⟩ = n := ⟨_, rfl⟩
  rw [hn] at HC
  have HN := Lib.hid hn
  clear hn
  have hlen1 : (0 : Int) < (rs.length : Int) + 1 := by omega
  have hl0 : (((rs.length : Int) + 1) == 0) = false := by simp; omega
  go_enter Try.func26, Try.ntmps26
  go_wp2_with fail
  refine HC.out.mono ?_
  rintro _ w1 ⟨rfl, hb1⟩
  have hs1 := hs.below hb1
  have hA1 := hA.below hb1
  have d0 := (hb1.cell (p := p0) hplt).trans c0
  have d1 := (hb1.cell (p := { block := p0.block, off := p0.off + 1 }) hplt).trans c1
  have d2 := (hb1.cell (p := { block := p0.block, off := p0.off + 2 }) hplt).trans c2
  have d3 := (hb1.cell (p := { block := p0.block, off := p0.off + 3 }) hplt).trans c3
  have d4 := (hb1.cell (p := { block := p0.block, off := p0.off + 4 }) hplt).trans c4
  have hplt1 : p0.block < w1.heap.size := Nat.lt_of_lt_of_le hplt hb1.size
  have HB1 := Lib.hid hb1
  clear c0 c1 c2 c3 c4 c5 hb1 HC hs hA hRr
  by_cases hn0 : n = 0
  case neg =>
    have t1 : (n != 0) = true := by simpa using hn0
    have HE := Lib.hid (histV_bad (r := ⟨kind, ver, seq, nid, add, rem⟩) (rs := rs) (.inl (by rw [HN.out]; exact hn0)))
    clear hn0
    go_wp2
    exact bodyPost_ret (v := .tuple #[.slice none 0 0, .int .i64 1]) (by simp [results, Try.results26, go_sem]) rfl ⟨_, by rw [HE.out], by rw [HE.out]; exact OwnSn.nil _ _, HB1.out⟩
  have t1 : (n != 0) = false := by simpa using hn0
  have HN0 := Lib.hid (show recV ⟨kind, ver, seq, nid, add, rem⟩ = 0 by rw [HN.out]; exact hn0)
  clear hn0
  by_cases hk : kind = 1
  case neg =>
    have t2 : (kind != 1) = true := by simpa using hk
    have HE := Lib.hid (histV_bad (r := ⟨kind, ver, seq, nid, add, rem⟩) (rs := rs) (.inr (.inl hk)))
    clear hk
    go_wp2
    exact bodyPost_ret (v := .tuple #[.slice none 0 0, .int .i64 1]) (by simp [results, Try.results26, go_sem]) rfl ⟨_, by rw [HE.out], by rw [HE.out]; exact OwnSn.nil _ _, HB1.out⟩
  have t2 : (kind != 1) = false := by simpa using hk
  have HKD := Lib.hid hk
  clear hk
  obtain ⟨hRH, hRE, _, _⟩ := recV_zero HN0.out
  have hal2 : add.length ≤ 256 := hRH.2.2.1
  clear hRH hRE
  go_upto_region 3 with (fail)
  refine wp_region_inv (by kernel_rfl) (by kernel_rfl) (fun L a w' => ∃ u4 u27 u28 u29 u30 u31 u32 u33 u34 u35 u36 u37 u38 u39 u40 u41 u42 u43 u44 : Value, a = ⟨#[.slice (some p0) (rs.length + 1) c, undef, .slice none 0 0, .int .i64 0, u4, undef, undef, undef, undef, undef, .slice (some p0) (rs.length + 1) c, .int .i64 (rs.length + 1), .bool false, .bool false, .slice (some p0) (rs.length + 1) c, .pointer (some p0), .agg #[.int .i64 kind, .int .i64 ver, .int .i64 seq, .int .i64 nid, .slice AA add.length cA, .slice AR rem.length cR], .int .i64 n, .bool false, .bool false, .bool false, .slice (some p0) (rs.length + 1) c, .pointer (some p0), .pointer (some p0), .int .i64 kind, .bool false, .bool false, u27, u28, u29, u30, u31, u32, u33, u34, u35, u36, u37, u38, u39, u40, u41, u42, u43, u44, undef, undef, undef, undef, undef, undef, undef, undef, undef, undef, undef, undef, undef, undef, undef, undef, undef, undef, undef, undef, undef, undef, undef, undef, undef, undef, undef, undef], []⟩ ∧
      Below w1.heap.size w1 w' ∧ Got (L 0) u27 (.slice (some p0) (rs.length + 1) c) ∧ Got (L 1) u28 (.pointer (some p0)) ∧ Got (L 2) u29 (.pointer (some ⟨p0.block, p0.off + 1, none⟩)) ∧ Got (L 3) u30 (.int .i64 ver) ∧ Got (L 4) u31 (.slice (some p0) (rs.length + 1) c) ∧ Got (L 5) u32 (.pointer (some p0)) ∧ Got (L 6) u33 (.pointer (some ⟨p0.block, p0.off + 2, none⟩)) ∧ Got (L 7) u34 (.int .i64 seq) ∧ Got (L 8) u35 (.slice (some p0) (rs.length + 1) c) ∧ Got (L 9) u36 (.pointer (some p0)) ∧ Got (L 10) u37 (.pointer (some ⟨p0.block, p0.off + 3, none⟩)) ∧ Got (L 11) u38 (.int .i64 nid) ∧ Got (L 12) u39 (.slice (some p0) (rs.length + 1) c) ∧ Got (L 13) u40 (.pointer (some p0)) ∧ Got (L 14) u41 (.pointer (some ⟨p0.block, p0.off + 4, none⟩)) ∧ Got (L 15) u42 (.slice AA add.length cA) ∧ (L 16 = true → w'.ownsRow w1.heap.size 34 12 u43 add.length (ents add)) ∧ Got (L 17) u44 (.agg #[.int .i64 ver, .int .i64 seq, .int .i64 nid, u43]) ∧ (L 17 = true → L 16 = true) ∧ (L 19 = true → L 18 = true ∧ L 17 = true) ∧ (L 18 = true → ∃ N, u4 = .pointer (some ⟨N, 0, none⟩) ∧ w1.heap.size ≤ N ∧ Blk w' N 24 (if L 19 = true then #[.int .i64 ver, .int .i64 seq, .int .i64 nid, u43] else #[.int .i64 0, .int .i64 0, .int .i64 0, .slice none 0 0])))
    ?_ ?_ ?_
  · exact ⟨_, _, _, _, _, _, _, _, _, _, _, _, _, _, _, _, _, _, _, rfl, (Below.refl _ _).drew, nofun, nofun, nofun, nofun, nofun, nofun, nofun, nofun, nofun, nofun, nofun, nofun, nofun, nofun, nofun, nofun, nofun, nofun, nofun, nofun, nofun⟩
  · refine ⟨?_, ?_, ?_, ?_, ?_, ?_, ?_, ?_, ?_, ?_, ?_, ?_, ?_, ?_, ?_, ?_, ?_, ?_, ?_, ?_, trivial⟩
    · rintro L a w' ⟨u4, u27, u28, u29, u30, u31, u32, u33, u34, u35, u36, u37, u38, u39, u40, u41, u42, u43, u44, rfl, hb, g0, g1, g2, g3, g4, g5, g6, g7, g8, g9, g10, g11, g12, g13, g14, g15, g16, g17, g18, g19, g20⟩ hl hd K hK
      dsimp only at hK ⊢
      go_simp
      exact hK _ _ ⟨_, _, _, _, _, _, _, _, _, _, _, _, _, _, _, _, _, _, _, rfl, hb, fun _ => rfl, g1, g2, g3, g4, g5, g6, g7, g8, g9, g10, g11, g12, g13, g14, g15, g16, g17, g18, g19, g20⟩
    · rintro L a w' ⟨u4, u27, u28, u29, u30, u31, u32, u33, u34, u35, u36, u37, u38, u39, u40, u41, u42, u43, u44, rfl, hb, g0, g1, g2, g3, g4, g5, g6, g7, g8, g9, g10, g11, g12, g13, g14, g15, g16, g17, g18, g19, g20⟩ hl hd K hK
      simp [Region.binds] at hd
      dsimp only at hK ⊢
      have e0 := g0 (by simp [hd])
      subst e0
      go_simp
      exact hK _ _ ⟨_, _, _, _, _, _, _, _, _, _, _, _, _, _, _, _, _, _, _, rfl, hb, g0, fun _ => rfl, g2, g3, g4, g5, g6, g7, g8, g9, g10, g11, g12, g13, g14, g15, g16, g17, g18, g19, g20⟩
    · rintro L a w' ⟨u4, u27, u28, u29, u30, u31, u32, u33, u34, u35, u36, u37, u38, u39, u40, u41, u42, u43, u44, rfl, hb, g0, g1, g2, g3, g4, g5, g6, g7, g8, g9, g10, g11, g12, g13, g14, g15, g16, g17, g18, g19, g20⟩ hl hd K hK
      simp [Region.binds] at hd
      dsimp only at hK ⊢
      have e1 := g1 (by simp [hd])
      subst e1
      go_simp
      exact hK _ _ ⟨_, _, _, _, _, _, _, _, _, _, _, _, _, _, _, _, _, _, _, rfl, hb, g0, g1, fun _ => rfl, g3, g4, g5, g6, g7, g8, g9, g10, g11, g12, g13, g14, g15, g16, g17, g18, g19, g20⟩
    · rintro L a w' ⟨u4, u27, u28, u29, u30, u31, u32, u33, u34, u35, u36, u37, u38, u39, u40, u41, u42, u43, u44, rfl, hb, g0, g1, g2, g3, g4, g5, g6, g7, g8, g9, g10, g11, g12, g13, g14, g15, g16, g17, g18, g19, g20⟩ hl hd K hK
      simp [Region.binds] at hd
      dsimp only at hK ⊢
      have e2 := g2 (by simp [hd])
      subst e2
      have cc := (hb.cell (p := { block := p0.block, off := p0.off + 1 }) hplt1).trans d1
      go_simp
      exact hK _ _ ⟨_, _, _, _, _, _, _, _, _, _, _, _, _, _, _, _, _, _, _, rfl, hb, g0, g1, g2, fun _ => rfl, g4, g5, g6, g7, g8, g9, g10, g11, g12, g13, g14, g15, g16, g17, g18, g19, g20⟩
    · rintro L a w' ⟨u4, u27, u28, u29, u30, u31, u32, u33, u34, u35, u36, u37, u38, u39, u40, u41, u42, u43, u44, rfl, hb, g0, g1, g2, g3, g4, g5, g6, g7, g8, g9, g10, g11, g12, g13, g14, g15, g16, g17, g18, g19, g20⟩ hl hd K hK
      dsimp only at hK ⊢
      go_simp
      exact hK _ _ ⟨_, _, _, _, _, _, _, _, _, _, _, _, _, _, _, _, _, _, _, rfl, hb, g0, g1, g2, g3, fun _ => rfl, g5, g6, g7, g8, g9, g10, g11, g12, g13, g14, g15, g16, g17, g18, g19, g20⟩
    · rintro L a w' ⟨u4, u27, u28, u29, u30, u31, u32, u33, u34, u35, u36, u37, u38, u39, u40, u41, u42, u43, u44, rfl, hb, g0, g1, g2, g3, g4, g5, g6, g7, g8, g9, g10, g11, g12, g13, g14, g15, g16, g17, g18, g19, g20⟩ hl hd K hK
      simp [Region.binds] at hd
      dsimp only at hK ⊢
      have e4 := g4 (by simp [hd])
      subst e4
      go_simp
      exact hK _ _ ⟨_, _, _, _, _, _, _, _, _, _, _, _, _, _, _, _, _, _, _, rfl, hb, g0, g1, g2, g3, g4, fun _ => rfl, g6, g7, g8, g9, g10, g11, g12, g13, g14, g15, g16, g17, g18, g19, g20⟩
    · rintro L a w' ⟨u4, u27, u28, u29, u30, u31, u32, u33, u34, u35, u36, u37, u38, u39, u40, u41, u42, u43, u44, rfl, hb, g0, g1, g2, g3, g4, g5, g6, g7, g8, g9, g10, g11, g12, g13, g14, g15, g16, g17, g18, g19, g20⟩ hl hd K hK
      simp [Region.binds] at hd
      dsimp only at hK ⊢
      have e5 := g5 (by simp [hd])
      subst e5
      go_simp
      exact hK _ _ ⟨_, _, _, _, _, _, _, _, _, _, _, _, _, _, _, _, _, _, _, rfl, hb, g0, g1, g2, g3, g4, g5, fun _ => rfl, g7, g8, g9, g10, g11, g12, g13, g14, g15, g16, g17, g18, g19, g20⟩
    · rintro L a w' ⟨u4, u27, u28, u29, u30, u31, u32, u33, u34, u35, u36, u37, u38, u39, u40, u41, u42, u43, u44, rfl, hb, g0, g1, g2, g3, g4, g5, g6, g7, g8, g9, g10, g11, g12, g13, g14, g15, g16, g17, g18, g19, g20⟩ hl hd K hK
      simp [Region.binds] at hd
      dsimp only at hK ⊢
      have e6 := g6 (by simp [hd])
      subst e6
      have cc := (hb.cell (p := { block := p0.block, off := p0.off + 2 }) hplt1).trans d2
      go_simp
      exact hK _ _ ⟨_, _, _, _, _, _, _, _, _, _, _, _, _, _, _, _, _, _, _, rfl, hb, g0, g1, g2, g3, g4, g5, g6, fun _ => rfl, g8, g9, g10, g11, g12, g13, g14, g15, g16, g17, g18, g19, g20⟩
    · rintro L a w' ⟨u4, u27, u28, u29, u30, u31, u32, u33, u34, u35, u36, u37, u38, u39, u40, u41, u42, u43, u44, rfl, hb, g0, g1, g2, g3, g4, g5, g6, g7, g8, g9, g10, g11, g12, g13, g14, g15, g16, g17, g18, g19, g20⟩ hl hd K hK
      dsimp only at hK ⊢
      go_simp
      exact hK _ _ ⟨_, _, _, _, _, _, _, _, _, _, _, _, _, _, _, _, _, _, _, rfl, hb, g0, g1, g2, g3, g4, g5, g6, g7, fun _ => rfl, g9, g10, g11, g12, g13, g14, g15, g16, g17, g18, g19, g20⟩
    · rintro L a w' ⟨u4, u27, u28, u29, u30, u31, u32, u33, u34, u35, u36, u37, u38, u39, u40, u41, u42, u43, u44, rfl, hb, g0, g1, g2, g3, g4, g5, g6, g7, g8, g9, g10, g11, g12, g13, g14, g15, g16, g17, g18, g19, g20⟩ hl hd K hK
      simp [Region.binds] at hd
      dsimp only at hK ⊢
      have e8 := g8 (by simp [hd])
      subst e8
      go_simp
      exact hK _ _ ⟨_, _, _, _, _, _, _, _, _, _, _, _, _, _, _, _, _, _, _, rfl, hb, g0, g1, g2, g3, g4, g5, g6, g7, g8, fun _ => rfl, g10, g11, g12, g13, g14, g15, g16, g17, g18, g19, g20⟩
    · rintro L a w' ⟨u4, u27, u28, u29, u30, u31, u32, u33, u34, u35, u36, u37, u38, u39, u40, u41, u42, u43, u44, rfl, hb, g0, g1, g2, g3, g4, g5, g6, g7, g8, g9, g10, g11, g12, g13, g14, g15, g16, g17, g18, g19, g20⟩ hl hd K hK
      simp [Region.binds] at hd
      dsimp only at hK ⊢
      have e9 := g9 (by simp [hd])
      subst e9
      go_simp
      exact hK _ _ ⟨_, _, _, _, _, _, _, _, _, _, _, _, _, _, _, _, _, _, _, rfl, hb, g0, g1, g2, g3, g4, g5, g6, g7, g8, g9, fun _ => rfl, g11, g12, g13, g14, g15, g16, g17, g18, g19, g20⟩
    · rintro L a w' ⟨u4, u27, u28, u29, u30, u31, u32, u33, u34, u35, u36, u37, u38, u39, u40, u41, u42, u43, u44, rfl, hb, g0, g1, g2, g3, g4, g5, g6, g7, g8, g9, g10, g11, g12, g13, g14, g15, g16, g17, g18, g19, g20⟩ hl hd K hK
      simp [Region.binds] at hd
      dsimp only at hK ⊢
      have e10 := g10 (by simp [hd])
      subst e10
      have cc := (hb.cell (p := { block := p0.block, off := p0.off + 3 }) hplt1).trans d3
      go_simp
      exact hK _ _ ⟨_, _, _, _, _, _, _, _, _, _, _, _, _, _, _, _, _, _, _, rfl, hb, g0, g1, g2, g3, g4, g5, g6, g7, g8, g9, g10, fun _ => rfl, g12, g13, g14, g15, g16, g17, g18, g19, g20⟩
    · rintro L a w' ⟨u4, u27, u28, u29, u30, u31, u32, u33, u34, u35, u36, u37, u38, u39, u40, u41, u42, u43, u44, rfl, hb, g0, g1, g2, g3, g4, g5, g6, g7, g8, g9, g10, g11, g12, g13, g14, g15, g16, g17, g18, g19, g20⟩ hl hd K hK
      dsimp only at hK ⊢
      go_simp
      exact hK _ _ ⟨_, _, _, _, _, _, _, _, _, _, _, _, _, _, _, _, _, _, _, rfl, hb, g0, g1, g2, g3, g4, g5, g6, g7, g8, g9, g10, g11, fun _ => rfl, g13, g14, g15, g16, g17, g18, g19, g20⟩
    · rintro L a w' ⟨u4, u27, u28, u29, u30, u31, u32, u33, u34, u35, u36, u37, u38, u39, u40, u41, u42, u43, u44, rfl, hb, g0, g1, g2, g3, g4, g5, g6, g7, g8, g9, g10, g11, g12, g13, g14, g15, g16, g17, g18, g19, g20⟩ hl hd K hK
      simp [Region.binds] at hd
      dsimp only at hK ⊢
      have e12 := g12 (by simp [hd])
      subst e12
      go_simp
      exact hK _ _ ⟨_, _, _, _, _, _, _, _, _, _, _, _, _, _, _, _, _, _, _, rfl, hb, g0, g1, g2, g3, g4, g5, g6, g7, g8, g9, g10, g11, g12, fun _ => rfl, g14, g15, g16, g17, g18, g19, g20⟩
    · rintro L a w' ⟨u4, u27, u28, u29, u30, u31, u32, u33, u34, u35, u36, u37, u38, u39, u40, u41, u42, u43, u44, rfl, hb, g0, g1, g2, g3, g4, g5, g6, g7, g8, g9, g10, g11, g12, g13, g14, g15, g16, g17, g18, g19, g20⟩ hl hd K hK
      simp [Region.binds] at hd
      dsimp only at hK ⊢
      have e13 := g13 (by simp [hd])
      subst e13
      go_simp
      exact hK _ _ ⟨_, _, _, _, _, _, _, _, _, _, _, _, _, _, _, _, _, _, _, rfl, hb, g0, g1, g2, g3, g4, g5, g6, g7, g8, g9, g10, g11, g12, g13, fun _ => rfl, g15, g16, g17, g18, g19, g20⟩
    · rintro L a w' ⟨u4, u27, u28, u29, u30, u31, u32, u33, u34, u35, u36, u37, u38, u39, u40, u41, u42, u43, u44, rfl, hb, g0, g1, g2, g3, g4, g5, g6, g7, g8, g9, g10, g11, g12, g13, g14, g15, g16, g17, g18, g19, g20⟩ hl hd K hK
      simp [Region.binds] at hd
      dsimp only at hK ⊢
      have e14 := g14 (by simp [hd])
      subst e14
      have cc := (hb.cell (p := { block := p0.block, off := p0.off + 4 }) hplt1).trans d4
      go_simp
      exact hK _ _ ⟨_, _, _, _, _, _, _, _, _, _, _, _, _, _, _, _, _, _, _, rfl, hb, g0, g1, g2, g3, g4, g5, g6, g7, g8, g9, g10, g11, g12, g13, g14, fun _ => rfl, g16, g17, g18, g19, g20⟩
    · rintro L a w' ⟨u4, u27, u28, u29, u30, u31, u32, u33, u34, u35, u36, u37, u38, u39, u40, u41, u42, u43, u44, rfl, hb, g0, g1, g2, g3, g4, g5, g6, g7, g8, g9, g10, g11, g12, g13, g14, g15, g16, g17, g18, g19, g20⟩ hl hd K hK
      simp [Region.binds] at hd
      dsimp only at hK ⊢
      have e15 := g15 (by simp [hd])
      subst e15
      have h19 : L 19 = false := by
        cases h : L 19 with
        | false => rfl
        | true => have := g18 (g19 h).2; rw [hl] at this; cases this
      have h17 : L 17 = false := by
        cases h : L 17 with
        | false => rfl
        | true => have := g18 h; rw [hl] at this; cases this
      refine wp_app (P := Try.prog) (n := 0) (xs := []) (m := add.length) (base := w'.heap.size) (.const (.slice none 0 0)) (.tmp 42) (World.ownsRow_nil _ _ _ _) (hA1.below hb) (Nat.le_refl _) under_entry info_entry rfl (by decide) (one_ents' add) (by omega) (by omega) rfl rfl rfl ?_
      intro v4 w4 ho4 hg4 _
      have hown4 : w4.ownsRow w'.heap.size 34 12 v4 add.length (ents add) := by simpa using ho4
      have hb4 : Below w'.heap.size w' w4 := ⟨hg4.os, hg4.tape, hg4.output, hg4.size, fun i hi => hg4.block i hi (by simp [Value.ownBlock])⟩
      exact hK _ _ ⟨_, _, _, _, _, _, _, _, _, _, _, _, _, _, _, _, _, _, _, rfl, bst hb hb4, g0, g1, g2, g3, g4, g5, g6, g7, g8, g9, g10, g11, g12, g13, g14, g15, fun _ => own_mono hown4 hb.size, fun h => absurd (show L 17 = true from h) (by rw [h17]; simp), fun _ => rfl, g19, fun h => by
            obtain ⟨N, e1, e2, e3⟩ := g20 h
            have e4 := e3.below hb4 e3.lt
            rw [if_neg (by rw [h19]; simp)] at e4
            exact ⟨N, e1, e2, by show Blk _ _ _ (if L 19 = true then _ else _); rw [if_neg (by rw [h19]; simp)]; exact e4⟩⟩
    · rintro L a w' ⟨u4, u27, u28, u29, u30, u31, u32, u33, u34, u35, u36, u37, u38, u39, u40, u41, u42, u43, u44, rfl, hb, g0, g1, g2, g3, g4, g5, g6, g7, g8, g9, g10, g11, g12, g13, g14, g15, g16, g17, g18, g19, g20⟩ hl hd K hK
      simp [Region.binds] at hd
      dsimp only at hK ⊢
      have e3 := g3 (by simp [hd])
      subst e3
      have e7 := g7 (by simp [hd])
      subst e7
      have e11 := g11 (by simp [hd])
      subst e11
      obtain ⟨A4, c4, rfl, _, _⟩ := (Sl.of_own (g16 (by simp [hd]))).form
      go_simp
      exact hK _ _ ⟨_, _, _, _, _, _, _, _, _, _, _, _, _, _, _, _, _, _, _, rfl, hb, g0, g1, g2, g3, g4, g5, g6, g7, g8, g9, g10, g11, g12, g13, g14, g15, g16, fun _ => rfl, fun _ => (by show L 16 = true; simp [hd]), fun h => ⟨(g19 h).1, rfl⟩, g20⟩
    · rintro L a w' ⟨u4, u27, u28, u29, u30, u31, u32, u33, u34, u35, u36, u37, u38, u39, u40, u41, u42, u43, u44, rfl, hb, g0, g1, g2, g3, g4, g5, g6, g7, g8, g9, g10, g11, g12, g13, g14, g15, g16, g17, g18, g19, g20⟩ hl hd K hK
      dsimp only at hK ⊢
      have h19 : L 19 = false := by
        cases h : L 19 with
        | false => rfl
        | true => have := (g19 h).1; rw [hl] at this; cases this
      go_simp
      exact hK _ _ ⟨_, _, _, _, _, _, _, _, _, _, _, _, _, _, _, _, _, _, _, rfl, hb.alloc hb.size _, g0, g1, g2, g3, g4, g5, g6, g7, g8, g9, g10, g11, g12, g13, g14, g15, fun h => (g16 h).alloc _, g17, g18, fun h => absurd (show L 19 = true from h) (by rw [h19]; simp), fun _ => ⟨w'.heap.size, rfl, hb.size, by show Blk _ _ _ (if L 19 = true then _ else _); rw [if_neg (by rw [h19]; simp)]; exact Blk.new _ _ _⟩⟩
    · rintro L a w' ⟨u4, u27, u28, u29, u30, u31, u32, u33, u34, u35, u36, u37, u38, u39, u40, u41, u42, u43, u44, rfl, hb, g0, g1, g2, g3, g4, g5, g6, g7, g8, g9, g10, g11, g12, g13, g14, g15, g16, g17, g18, g19, g20⟩ hl hd K hK
      simp [Region.binds] at hd
      dsimp only at hK ⊢
      have hd1 : L 17 = true := by simp [hd]
      have hd2 : L 18 = true := by simp [hd]
      have e17 := g17 hd1
      subst e17
      obtain ⟨N, e1, e2, e3⟩ := g20 hd2
      subst e1
      rw [if_neg (by rw [hl]; simp)] at e3
      have f0 := e3.frozen 0
      have f1 := e3.frozen 1
      have f2 := e3.frozen 2
      have f3 := e3.frozen 3
      have c0 := e3.cell 0
      have c1 := e3.cell 1
      have c2 := e3.cell 2
      have c3 := e3.cell 3
      simp only [List.getElem?_toArray, List.getElem?_cons_zero, List.getElem?_cons_succ] at c0 c1 c2 c3
      have hlt := e3.lt
      obtain ⟨A4, k4, rfl, _, _⟩ := (Sl.of_own (g16 (g18 hd1))).form
      go_simp
      have kg := grown4 w' N (.int .i64 ver) (.int .i64 seq) (.int .i64 nid) (.slice A4 add.length k4)
      have kb := blk4 (.int .i64 ver) (.int .i64 seq) (.int .i64 nid) (.slice A4 add.length k4) e3
      have ko := g16 (g18 hd1)
      exact hK _ _ ⟨_, _, _, _, _, _, _, _, _, _, _, _, _, _, _, _, _, _, _, rfl, below_row hb kg e2 hb.size, g0, g1, g2, g3, g4, g5, g6, g7, g8, g9, g10, g11, g12, g13, g14, g15, fun _ => own_row ko kg (fun b hb' e => own_blk_ne ko e3 (by decide) (by rw [hb', e])), fun _ => rfl, g18, fun _ => ⟨hd2, hd1⟩, fun _ => ⟨N, rfl, e2, kb⟩⟩
  rintro a w3 ⟨u4, u27, u28, u29, u30, u31, u32, u33, u34, u35, u36, u37, u38, u39, u40, u41, u42, u43, u44, rfl, hb, g0, g1, g2, g3, g4, g5, g6, g7, g8, g9, g10, g11, g12, g13, g14, g15, g16, g17, g18, g19, g20⟩
  have e0 := g0 rfl
  subst e0
  have e1 := g1 rfl
  subst e1
  have e2 := g2 rfl
  subst e2
  have e3 := g3 rfl
  subst e3
  have e4 := g4 rfl
  subst e4
  have e5 := g5 rfl
  subst e5
  have e6 := g6 rfl
  subst e6
  have e7 := g7 rfl
  subst e7
  have e8 := g8 rfl
  subst e8
  have e9 := g9 rfl
  subst e9
  have e10 := g10 rfl
  subst e10
  have e11 := g11 rfl
  subst e11
  have e12 := g12 rfl
  subst e12
  have e13 := g13 rfl
  subst e13
  have e14 := g14 rfl
  subst e14
  have e15 := g15 rfl
  subst e15
  have e17 := g17 rfl
  subst e17
  obtain ⟨N, e1, hN, bN⟩ := g20 rfl
  subst e1
  rw [if_pos rfl] at bN
  obtain ⟨A4, k4, rfl, hk41, hk42⟩ := (Sl.of_own (g16 rfl)).form
  have OA := Lib.hid (g16 rfl)
  have BN := Lib.hid bN
  have HB3 := Lib.hid hb
  have SR3 := Lib.hid (hs1.below hb)
  have SRW := Lib.hid hs1.tail
  clear g0 g1 g2 g3 g4 g5 g6 g7 g8 g9 g10 g11 g12 g13 g14 g15 g16 g17 g18 g19 g20 bN hb d0 d1 d2 d3 d4 hs1 hA1
  obtain ⟨bS, hbS⟩ : ∃ b, (baseOf ⟨kind, ver, seq, nid, add, rem⟩).okB = b := ⟨_, rfl⟩
  have HCK := Lib.hid (rsnapCheck_b' (x := ver) (q := seq) (n := nid) (l := add) (b := bS) hbS (Sl.of_own OA.out) hsmA (by omega))
  have HBS := Lib.hid hbS
  clear hbS
  have n0 := BN.out.cell 0
  have n1 := BN.out.cell 1
  have n2 := BN.out.cell 2
  have n3 := BN.out.cell 3
  simp only [List.getElem?_toArray, List.getElem?_cons_zero, List.getElem?_cons_succ] at n0 n1 n2 n3
  go_wp2_with fail
  refine (HCK.out w3 (Below.refl _ _)).mono ?_
  rintro _ w4 ⟨rfl, hb4⟩
  cases bS with
  | false =>
    have HE := Lib.hid (histV_bad (r := ⟨kind, ver, seq, nid, add, rem⟩) (rs := rs) (.inr (.inr HBS.out)))
    have HB4 := Lib.hid (bst (bst HB1.out HB3.out) hb4)
    clear hb4 n0 n1 n2 n3
    go_wp2
    exact bodyPost_ret (v := .tuple #[.slice none 0 0, .int .i64 1]) (by simp [results, Try.results26, go_sem]) rfl ⟨_, by rw [HE.out], by rw [HE.out]; exact OwnSn.nil _ _, HB4.out⟩
  | true =>
    have HE := Lib.hid (histV_go (rs := rs) HN0.out HKD.out HBS.out)
    have HB4 := Lib.hid (bst (bst HB1.out HB3.out) hb4)
    have BN4 := Lib.hid (BN.out.below hb4 BN.out.lt)
    have OA4 := Lib.hid (own_below OA.out hb4)
    have SR4 := Lib.hid (SR3.out.below hb4)
    have b14 := Lib.hid (bst HB3.out hb4)
    clear hb4 n0 n1 n2 n3
    have n0 := BN4.out.cell 0
    have n1 := BN4.out.cell 1
    have n2 := BN4.out.cell 2
    have n3 := BN4.out.cell 3
    simp only [List.getElem?_toArray, List.getElem?_cons_zero, List.getElem?_cons_succ] at n0 n1 n2 n3
    go_upto_region 7 with (fail)
    obtain ⟨w5, hw5⟩ : ∃ w5, w5 = w4.alloc (.cells #[.int .i64 ver, .int .i64 seq, .int .i64 nid, (.slice A4 add.length k4)] 24) := ⟨_, rfl⟩
    have b5 := Lib.hid (show Below w4.heap.size w4 w5 by rw [hw5]; exact abel _ _)
    have OS5 := Lib.hid (show OwnSn w5 w1.heap.size (.slice (some ⟨w4.heap.size, 0, none⟩) 1 1) [baseOf ⟨kind, ver, seq, nid, add, rem⟩] from own_one (s := baseOf ⟨kind, ver, seq, nid, add, rem⟩) (by rw [hw5]; exact Blk.new _ _ _) b14.out.size (own_below OA4.out b5.out))
    have SR5 := Lib.hid ((SR4.out.below b5.out).tail)
    have b15 := Lib.hid (bst b14.out b5.out)
    have HSB := Lib.hid (show ∀ e ∈ (baseOf ⟨kind, ver, seq, nid, add, rem⟩).l, e.small from hsmA)
    rw [← hw5]
    clear hw5 n0 n1 n2 n3
    by_cases hcn : c = 1
    · have h0 : rs.length = 0 := by omega
      have HF := Lib.hid (show histV (⟨kind, ver, seq, nid, add, rem⟩ :: rs) = (0, [baseOf ⟨kind, ver, seq, nid, add, rem⟩]) by rw [HE.out, List.eq_nil_of_length_eq_zero h0]; rfl)
      have HO := Lib.hid (OS5.out.mono (base' := w.heap.size) HB1.out.size)
      have HBE := Lib.hid (bst HB1.out b15.out)
      go_upto_region 8 with (fail)
      go_loopw [5, 53] (fun vh i wr => i = .int .i64 0 ∧ vh = .slice (some ⟨w4.heap.size, 0, none⟩) 1 1 ∧ wr = w5) (fun _ _ _ => 0)
      case atStart => exact ⟨rfl, rfl, rfl⟩
      case round =>
        obtain ⟨rfl, rfl, rfl⟩ := hrel
        have hn0 : ¬ (0 < rs.length) := by omega
        go_wp2
        exact bodyPost_ret (v := .tuple #[.slice (some ⟨w4.heap.size, 0, none⟩) 1 1, .int .i64 0]) (by simp [results, Try.results26, go_sem]) rfl ⟨_, by rw [HF.out], by rw [HF.out]; exact HO.out, HBE.out⟩
    · go_upto_region 8 with (fail)
      have ea : p0.add 6 = { block := p0.block, off := p0.off + 6 } := by unfold Addr.add; split <;> simp_all
      have SR6 := Lib.hid (show SlRc w1 (.slice (some { block := p0.block, off := p0.off + 6 }) rs.length (c - 1)) rs by have := SRW.out; rw [if_neg hcn, ea] at this; exact this)
      obtain ⟨p6, hp6⟩ : ∃ q : Addr, q = { block := p0.block, off := p0.off + 6 } := ⟨_, rfl⟩
      rw [← hp6] at SR6 ⊢
      clear ea SR5 hp6
      have hcs : rs.length ≤ 9223372036854775806 := by omega
      go_loopw [5, 53] (fun vh i wr => ∃ (k : Nat) (acc : List Snp) (s : Snp), i = .int .i64 k ∧ k ≤ rs.length ∧ acc.length = k + 1 ∧ Hid (acc[k]? = some s) ∧ Hid (s.okB = true) ∧ Hid (∀ e ∈ s.l, e.small) ∧ Hid (s.ver = ver + k) ∧ Hid (histV (⟨kind, ver, seq, nid, add, rem⟩ :: rs) = histGo s acc (rs.drop k)) ∧ OwnSn wr w1.heap.size vh acc ∧ Below w1.heap.size w1 wr ∧ (∀ b, vh.ownBlock = some b → b ≠ N) ∧ ∃ (AL : Option Addr) (cL : Nat), Blk wr N 24 #[.int .i64 s.ver, .int .i64 s.seq, .int .i64 s.nid, .slice AL s.l.length cL] ∧ Sl wr 12 (.slice AL s.l.length cL) s.l.length (ents s.l)) (fun _ i _ => rs.length - (intOf i).toNat)
      case atStart => exact ⟨0, [baseOf ⟨kind, ver, seq, nid, add, rem⟩], baseOf ⟨kind, ver, seq, nid, add, rem⟩, rfl, Nat.zero_le _, rfl, Lib.hid rfl, HBS, HSB, Lib.hid (by show ver = ver + ((0 : Nat) : Int); omega), Lib.hid (by rw [List.drop_zero]; exact HE.out), OS5.out, b15.out, fun b hb => (by have h1 := BN4.out.lt; simp [Value.ownBlock] at hb; omega), A4, k4, BN4.out.below b5.out BN4.out.lt, (Sl.of_own OA4.out).below b5.out⟩
      case round =>
        obtain ⟨k, acc, s, rfl, hk, hak, hs, hok, hsm, hver, hhist, hown, hbel, hne, AL, cL, hSA, hsl⟩ := hrel
        obtain ⟨AH, cH, rfl, hcH1, hcH2⟩ := hown.sl.form
        by_cases hlt : k < rs.length
        · obtain ⟨ad, r, va, vr, p1, hA0, hr, hp1, hRA, hro⟩ := (SR6.out.below hbel).load rfl hlt
          cases hA0
          obtain ⟨hplt2, c0, c1, c2, c3, c4, c5⟩ := hRA
          obtain ⟨hra, hrr, hrsm⟩ := hro
          obtain ⟨AB, cB, rfl, hB1, hB2⟩ := hra.form
          obtain ⟨AT, cT, rfl, hT1, hT2⟩ := hrr.form
          unfold maxLen at hB2 hT2
          obtain ⟨_, _, e0, hL1, hL2⟩ := hsl.form
          cases e0
          have HNE := Lib.hid hne
          have HSA := Lib.hid hSA
          have HSL := Lib.hid hsl
          have HA := Lib.hid (fun X (h : Below wr.heap.size wr X) => rapply_any s.ver s.seq s.nid s.l r.kind r.ver r.seq r.nid r.add r.rem (.slice AL s.l.length cL) (.slice AB r.add.length cB) (.slice AT r.rem.length cT) X (hsl.below h) hsm.out (by unfold maxLen at hL2; omega) (hra.below h) hrsm (by omega) (hrr.below h) (by omega))
          have HLT := Lib.hid hlt
          have HAK := Lib.hid hak
          obtain ⟨R, hR⟩ : ∃ R, acc.length = R := ⟨_, rfl⟩
          go_upto_region 10 with (fail)
          obtain ⟨wA, hwA⟩ : ∃ wA, wA = wr.alloc (.cells #[.int .i64 r.kind, .int .i64 r.ver, .int .i64 r.seq, .int .i64 r.nid, (.slice AB r.add.length cB), (.slice AT r.rem.length cT)] 38) := ⟨_, rfl⟩
          have BR := Lib.hid (show Blk wA wr.heap.size 38 #[.int .i64 r.kind, .int .i64 r.ver, .int .i64 r.seq, .int .i64 r.nid, (.slice AB r.add.length cB), (.slice AT r.rem.length cT)] by rw [hwA]; exact Blk.new _ _ _)
          have hbA : Below wr.heap.size wr wA := by rw [hwA]; exact abel _ _
          have HA1 := HA.out
          obtain ⟨⟨er, zx, zq, zn, zl⟩, hres⟩ : ∃ res, applyV ⟨s.ver, s.seq, s.nid, s.l⟩ ⟨r.kind, r.ver, r.seq, r.nid, r.add, r.rem⟩ = res := ⟨_, rfl⟩
          rw [hres] at HA1
          have HAB := Lib.hid (fun (X : World) (h : Below wA.heap.size wA X) => HA1 X (bst hbA h))
          have HRES := Lib.hid (show applyV s r = (er, ⟨zx, zq, zn, zl⟩) from hres)
          have OA := Lib.hid (hown.below hbA)
          have HBA := Lib.hid (bst hbel hbA)
          have BSA := Lib.hid (HSA.out.below hbA HSA.out.lt)
          have HRW := Lib.hid hr
          have HRK := Lib.hid (show R = k + 1 by rw [← hR]; exact hak)
          have HL := Lib.hid hR
          have HNE2 := Lib.hid (show ∀ b, (Value.slice AH R cH).ownBlock = some b → b ≠ N by rw [← hR]; exact HNE.out)
          rw [hR]
          rw [← hwA]
          clear hwA hres c0 c1 c2 c3 c4 c5 hplt2 HA HA1 hbel hown hbA hp1 hr hra hrr hsl hR hlt hak hSA hne
          have b0 := BSA.out.cell 0
          have b1 := BSA.out.cell 1
          have b2 := BSA.out.cell 2
          have b3 := BSA.out.cell 3
          simp only [List.getElem?_toArray, List.getElem?_cons_zero, List.getElem?_cons_succ] at b0 b1 b2 b3
          have d0 := BR.out.cell 0
          have d1 := BR.out.cell 1
          have d2 := BR.out.cell 2
          have d3 := BR.out.cell 3
          have d4 := BR.out.cell 4
          have d5 := BR.out.cell 5
          simp only [List.getElem?_toArray, List.getElem?_cons_zero, List.getElem?_cons_succ] at d0 d1 d2 d3 d4 d5
          go_wp2_with fail
          refine (HAB.out wA (Below.refl _ _)).mono ?_
          rintro _ w5 ⟨v5, rfl, ho5, hb5⟩
          simp only at ho5 ⊢
          obtain ⟨A6, k6, rfl, hk61, hk62⟩ := (Sl.of_own ho5).form
          clear b0 b1 b2 b3 d0 d1 d2 d3 d4 d5
          go_upto_region 11 with (fail)
          obtain ⟨w6, hw6⟩ : ∃ w6, w6 = w5.alloc (.cells #[.int .i64 zx, .int .i64 zq, .int .i64 zn, .slice A6 zl.length k6] 24) := ⟨_, rfl⟩
          obtain ⟨N2, hN2⟩ : ∃ N2, w5.heap.size = N2 := ⟨_, rfl⟩
          have bN2 : Blk w6 N2 24 #[.int .i64 zx, .int .i64 zq, .int .i64 zn, .slice A6 zl.length k6] := by rw [← hN2, hw6]; exact Blk.new _ _ _
          have hb : Below wA.heap.size wA w6 := bst hb5 (by rw [hw6]; exact abel _ _)
          have ho6 : w6.ownsRow wA.heap.size 34 12 (.slice A6 zl.length k6) zl.length (ents zl) := own_below ho5 (by rw [hw6]; exact abel _ _)
          rw [← hw6, hN2]
          clear hw6 hN2 ho5 hb5
          have BN6 := Lib.hid bN2
          have O6 := Lib.hid (own_mono ho6 HBA.out.size)
          have B6 := Lib.hid (bst HBA.out hb)
          have OS6 := Lib.hid (OA.out.below hb)
          have BS6 := Lib.hid (BSA.out.below hb BSA.out.lt)
          clear bN2 ho6 hb
          by_cases he0 : er = 0
          case neg =>
            have t1 : (er != 0) = true := by simpa using he0
            have HF := Lib.hid (show histV (⟨kind, ver, seq, nid, add, rem⟩ :: rs) = (er, []) by rw [hhist.out]; exact histGo_err HRW.out HRES.out he0)
            have HBE := Lib.hid (bst HB1.out B6.out)
            clear he0
            go_wp2
            exact bodyPost_ret (v := .tuple #[.slice none 0 0, .int .i64 er]) (by simp [results, Try.results26, go_sem]) rfl ⟨_, by rw [HF.out], by rw [HF.out]; exact OwnSn.nil _ _, HBE.out⟩
          case pos =>
            subst he0
            have ha := applyV_ok HRES.out
            obtain ⟨pz, _⟩ := snapB_parts ha.2.2.2.2.2.2.2.2.1
            have hzv : zx = s.ver + 1 := by
              have e1 := ha.2.2.2.2.2.2.2.1
              injection e1 with e1
              rw [e1]; exact ha.2.2.2.1
            have HZV := Lib.hid (show (Snp.ver ⟨zx, zq, zn, zl⟩) = ver + ((k + 1 : Nat) : Int) by show zx = _; rw [hzv, hver.out]; omega)
            have HZOK := Lib.hid (show Snp.okB ⟨zx, zq, zn, zl⟩ = true from ha.2.2.2.2.2.2.2.2.1)
            have HZS := Lib.hid (show ∀ e ∈ (Snp.l ⟨zx, zq, zn, zl⟩), e.small from fun e he => by
              rcases (applyV_mem HRES.out).1 he with h | h
              · exact hsm.out e h.1
              · exact hrsm e h)
            have HKK := Lib.hid (show k + 1 < 2147483648 by
              have h1 : zx ≤ 2147483647 := pz.2.1
              have h2 : zx = ver + ((k + 1 : Nat) : Int) := HZV.out
              have h3 := (snapB_parts (show snapB ver seq nid add = true from HBS.out)).1.1
              omega)
            have HN := Lib.hid (show histV (⟨kind, ver, seq, nid, add, rem⟩ :: rs) = histGo ⟨zx, zq, zn, zl⟩ (acc ++ [⟨zx, zq, zn, zl⟩]) (rs.drop (k + 1)) by rw [hhist.out]; exact histGo_next HRW.out HRES.out)
            clear ha pz hzv
            have n0 := BN6.out.cell 0
            have n1 := BN6.out.cell 1
            have n2 := BN6.out.cell 2
            have n3 := BN6.out.cell 3
            simp only [List.getElem?_toArray, List.getElem?_cons_zero, List.getElem?_cons_succ] at n0 n1 n2 n3
            have y0 := BS6.out.cell 0
            have y1 := BS6.out.cell 1
            have y2 := BS6.out.cell 2
            have y3 := BS6.out.cell 3
            simp only [List.getElem?_toArray, List.getElem?_cons_zero, List.getElem?_cons_succ] at y0 y1 y2 y3
            have fy0 := BS6.out.frozen 0
            have fy1 := BS6.out.frozen 1
            have fy2 := BS6.out.frozen 2
            have fy3 := BS6.out.frozen 3
            have hlty := BS6.out.lt
            have kg := grown4 w6 N (.int .i64 zx) (.int .i64 zq) (.int .i64 zn) (.slice A6 zl.length k6)
            have kb := blk4 (.int .i64 zx) (.int .i64 zq) (.int .i64 zn) (.slice A6 zl.length k6) BS6.out
            obtain ⟨w7, hw7⟩ : ∃ w7, w7 = (((w6.setCell ⟨N, 0, none⟩ (.int .i64 zx)).setCell ⟨N, 1, none⟩ (.int .i64 zq)).setCell ⟨N, 2, none⟩ (.int .i64 zn)).setCell ⟨N, 3, none⟩ (.slice A6 zl.length k6) := ⟨_, rfl⟩
            rw [← hw7] at kg kb
            have B7 := Lib.hid (below_row B6.out kg hN B6.out.size)
            have O7 := Lib.hid (own_row O6.out kg (fun b hb e => own_blk_ne O6.out BS6.out (by decide) (by rw [hb, e])))
            have OS7 := Lib.hid (OS6.out.store kg BS6.out (by decide) (by rw [HL.out]; exact HNE2.out))
            have KB7 := Lib.hid kb
            obtain ⟨us, hu1, hu2, hu3⟩ := OS7.out
            rw [HL.out] at hu2
            have HU := Lib.hid (⟨hu1, hu3⟩ : _ ∧ _)
            clear hu1 hu3 kg kb
            go_upto_region 14 with (fail)
            rw [← hw7]
            clear hw7 hlty n0 n1 n2 n3 y0 y1 y2 y3 fy0 fy1 fy2 fy3
            have n0 := KB7.out.cell 0
            have n1 := KB7.out.cell 1
            have n2 := KB7.out.cell 2
            have n3 := KB7.out.cell 3
            simp only [List.getElem?_toArray, List.getElem?_cons_zero, List.getElem?_cons_succ] at n0 n1 n2 n3
            have hsz := B7.out.size
            have hkk : R < 2147483649 := by have := HKK.out; have := HRK.out; omega
            go_wp2_with (at_builtin; go_must (refine app1 _ _ hu2 (Below.refl w1.heap.size w7) (Nat.le_refl _) hsz under_snap info_snap rfl (by decide) rfl (one4 _ _ _ _ _ _) (by omega) (by omega) rfl rfl rfl rfl ?_))
            intro g' cap' w9 ho9 hb9 hg9 hor9
            have O9 := Lib.hid (own_snoc (h := acc) (s := ⟨zx, zq, zn, zl⟩) (u := .slice A6 zl.length k6) HU.out.1 (by rw [HL.out]; exact hu2) HU.out.2 O7.out (by rw [HL.out]; exact ho9) hg9)
            have B9 := Lib.hid (B7.out.trans hb9)
            have N9 := Lib.hid (show ∀ b, (Value.slice (some ⟨g', 0, none⟩) (R + 1) cap').ownBlock = some b → b ≠ N from fun b hb => by
              rcases hor9 with h | ⟨b', h, h'⟩
              · exact HNE2.out b (by rw [← h]; exact hb)
              · rw [hb] at h; injection h with h; have := KB7.out.lt; omega)
            have KB9 := Lib.hid (KB7.out.grown hg9 (fun h => HNE2.out _ h rfl))
            have S9 := Lib.hid (Sl.of_own (own_grown O7.out hg9 (fun b hb e => own_ne O7.out hu2 (by decide) b hb e)))
            clear ho9 hb9 hg9 hor9 hu2 hsz hkk n0 n1 n2 n3
            go_wp2
            go_roundw
            case rel => exact ⟨k + 1, acc ++ [⟨zx, zq, zn, zl⟩], ⟨zx, zq, zn, zl⟩, by go_num, HLT.out, by rw [List.length_append, HL.out, HRK.out]; rfl, Lib.hid (last_snoc HAK.out), HZOK, HZS, HZV, HN, O9.out, B9.out, N9.out, A6, k6, KB9.out, S9.out⟩
            case measure => have := HLT.out; simp [intOf]; omega
        · have HF := Lib.hid (show histV (⟨kind, ver, seq, nid, add, rem⟩ :: rs) = (0, acc) by rw [hhist.out]; exact histGo_end (by omega))
          have HO := Lib.hid (hown.mono (base' := w.heap.size) HB1.out.size)
          have HBE := Lib.hid (bst HB1.out hbel)
          clear hown hbel
          go_wp2
          exact bodyPost_ret (v := .tuple #[.slice AH acc.length cH, .int .i64 0]) (by simp [results, Try.results26, go_sem]) rfl ⟨_, by rw [HF.out], by rw [HF.out]; exact HO.out, HBE.out⟩
end Go.Proofs.Ytoikgjhekemjdaa
