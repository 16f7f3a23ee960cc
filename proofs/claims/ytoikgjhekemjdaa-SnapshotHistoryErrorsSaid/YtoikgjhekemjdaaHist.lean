/-
  The contract of snapshot.History.
-/
import Derived.Test.YtoikgjhekemjdaaApply
import Derived.Test.YtoikgjhekemjdaaSnL
import Derived.Test.YtoikgjhekemjdaaInv2
namespace Go.Proofs.Ytoikgjhekemjdaa
open Go.RowKit Go.Sort
theorem wrap_small {k : Nat} (h : k ≤ 9223372036854775807) : IntKind.i64.wrap (k : Int) = k := by rw [IntKind.wrap_i64]; omega
set_option maxRecDepth 100000 in
set_option maxHeartbeats 8000000 in
theorem hist_any (v : Value) (l : List Rcd) (w : World) (hs : SlRc w v l) (hl : l.length ≤ 9223372036854775807) :
    Calls Try.prog 25 #[v] w (RetHist w (histV l)) := by
  obtain ⟨A, c, rfl, hc1, hc2⟩ := hs.form
  unfold maxLen at hc2
  rcases l with _ | ⟨r0, rs⟩
  · go_enter Try.func25, Try.ntmps25
    go_wp2
    exact bodyPost_ret (v := .tuple #[.slice none 0 0, .int .i64 1]) (by simp [results, Try.results25, go_sem]) rfl ⟨_, rfl, OwnSn.nil _ _, Below.refl _ _⟩
  simp only [List.length_cons] at hs hl hc1 ⊢
  obtain ⟨ad, r, va, vr, p0, rfl, hr, hp, hR, hok⟩ := hs.load (k := 0) rfl (by omega)
  simp at hr
  subst hr
  have hp' : p0 = ad := by rw [← hp]; simp [Addr.add]
  subst hp'
  clear hp
  obtain ⟨hplt, c0, c1, c2, c3, c4, c5⟩ := hR
  obtain ⟨hA, hRr, hsmA⟩ := hok
  obtain ⟨AA, cA, rfl, _, _⟩ := hA.form
  obtain ⟨AR, cR, rfl, _, _⟩ := hRr.form
  obtain ⟨kind, ver, seq, nid, add, rem⟩ := r0
  simp only at c0 c1 c2 c3 c4 c5 hA hRr hsmA
  have hal : add.length ≤ 9223372036854775807 := by obtain ⟨_, _, e, h1, h2⟩ := hA.form; unfold maxLen at h2; omega
  have hrl : rem.length ≤ 9223372036854775807 := by obtain ⟨_, _, e, h1, h2⟩ := hRr.form; unfold maxLen at h2; omega
  have HC := Lib.hid (recCheck_any kind ver seq nid add rem (.slice AA add.length cA) (.slice AR rem.length cR) w hA hsmA hal hRr hrl)
  obtain ⟨n, hn⟩ : ∃ n, recV ⟨kind, ver, seq, nid, add, rem⟩ = n := ⟨_, rfl⟩
  rw [hn] at HC
  have HN := Lib.hid hn
  clear hn
  have hlen1 : (0 : Int) < (rs.length : Int) + 1 := by omega
  have hl0 : (((rs.length : Int) + 1) == 0) = false := by simp; omega
  go_enter Try.func25, Try.ntmps25
  go_wp2_with fail
  refine HC.out.mono ?_
  rintro _ w1 ⟨rfl, hb1⟩
  have hs1 := hs.below hb1
  have hA1 := hA.below hb1
  have d0 := (hb1.cell (p := p0) hplt).trans c0
  have d1 := (hb1.cell (p := { block := p0.block, off := p0.off + 1 }) hplt).trans c1
  have d2 := (hb1.cell (p := { block := p0.block, off := p0.off + 2 }) hplt).trans c2
  have d3 := (hb1.cell (p := { block := p0.block, off := p0.off + 3 }) hplt).trans c3
  have d4 := (hb1.cell (p := { block := p0.block, off := p0.off + 4 }) hplt).trans c4
  have hplt1 : p0.block < w1.heap.size := Nat.lt_of_lt_of_le hplt hb1.size
  have HB1 := Lib.hid hb1
  clear c0 c1 c2 c3 c4 c5 hb1 HC hs hA hRr
  by_cases hn0 : n = 0
  case neg =>
    have t1 : (n != 0) = true := by simpa using hn0
    have HE := Lib.hid (histV_bad (r := ⟨kind, ver, seq, nid, add, rem⟩) (rs := rs) (.inl (by rw [HN.out]; exact hn0)))
    clear hn0
    go_wp2
    exact bodyPost_ret (v := .tuple #[.slice none 0 0, .int .i64 1]) (by simp [results, Try.results25, go_sem]) rfl ⟨_, by rw [HE.out], by rw [HE.out]; exact OwnSn.nil _ _, HB1.out⟩
  have t1 : (n != 0) = false := by simpa using hn0
  have HN0 := Lib.hid (show recV ⟨kind, ver, seq, nid, add, rem⟩ = 0 by rw [HN.out]; exact hn0)
  clear hn0
  by_cases hk : kind = 1
  case neg =>
    have t2 : (kind != 1) = true := by simpa using hk
    have HE := Lib.hid (histV_bad (r := ⟨kind, ver, seq, nid, add, rem⟩) (rs := rs) (.inr (.inl hk)))
    clear hk
    go_wp2
    exact bodyPost_ret (v := .tuple #[.slice none 0 0, .int .i64 1]) (by simp [results, Try.results25, go_sem]) rfl ⟨_, by rw [HE.out], by rw [HE.out]; exact OwnSn.nil _ _, HB1.out⟩
  have t2 : (kind != 1) = false := by simpa using hk
  have HKD := Lib.hid hk
  clear hk
  obtain ⟨hRH, hRE, _, _⟩ := recV_zero HN0.out
  have hal2 : add.length ≤ 256 := hRH.2.2.1
  clear hRH hRE
  go_upto_region 3 with (fail)
  refine wp_region_inv (by kernel_rfl) (by kernel_rfl) (fun L a w' => ∃ u4 u27 u28 u29 u30 u31 u32 u33 u34 u35 u36 u37 u38 u39 u40 u41 u42 u43 u44 : Value, a = ⟨#[.slice (some p0) (rs.length + 1) c, undef, .slice none 0 0, .int .i64 0, u4, undef, undef, undef, undef, undef, .slice (some p0) (rs.length + 1) c, .int .i64 (rs.length + 1), .bool false, .bool false, .slice (some p0) (rs.length + 1) c, .pointer (some p0), .agg #[.int .i64 kind, .int .i64 ver, .int .i64 seq, .int .i64 nid, .slice AA add.length cA, .slice AR rem.length cR], .int .i64 n, .bool false, .bool false, .bool false, .slice (some p0) (rs.length + 1) c, .pointer (some p0), .pointer (some p0), .int .i64 kind, .bool false, .bool false, u27, u28, u29, u30, u31, u32, u33, u34, u35, u36, u37, u38, u39, u40, u41, u42, u43, u44, undef, undef, undef, undef, undef, undef, undef, undef, undef, undef, undef, undef, undef, undef, undef, undef, undef, undef, undef, undef, undef, undef, undef, undef, undef, undef, undef, undef, undef, undef, undef, undef], []⟩ ∧
      Below w1.heap.size w1 w' ∧ Got (L 0) u27 (.slice (some p0) (rs.length + 1) c) ∧ Got (L 1) u28 (.pointer (some p0)) ∧ Got (L 2) u29 (.pointer (some ⟨p0.block, p0.off + 1, none⟩)) ∧ Got (L 3) u30 (.int .i64 ver) ∧ Got (L 4) u31 (.slice (some p0) (rs.length + 1) c) ∧ Got (L 5) u32 (.pointer (some p0)) ∧ Got (L 6) u33 (.pointer (some ⟨p0.block, p0.off + 2, none⟩)) ∧ Got (L 7) u34 (.int .i64 seq) ∧ Got (L 8) u35 (.slice (some p0) (rs.length + 1) c) ∧ Got (L 9) u36 (.pointer (some p0)) ∧ Got (L 10) u37 (.pointer (some ⟨p0.block, p0.off + 3, none⟩)) ∧ Got (L 11) u38 (.int .i64 nid) ∧ Got (L 12) u39 (.slice (some p0) (rs.length + 1) c) ∧ Got (L 13) u40 (.pointer (some p0)) ∧ Got (L 14) u41 (.pointer (some ⟨p0.block, p0.off + 4, none⟩)) ∧ Got (L 15) u42 (.slice AA add.length cA) ∧ (L 16 = true → w'.ownsRow w1.heap.size 34 12 u43 add.length (ents add)) ∧ Got (L 17) u44 (.agg #[.int .i64 ver, .int .i64 seq, .int .i64 nid, u43]) ∧ (L 17 = true → L 16 = true) ∧ (L 19 = true → L 18 = true ∧ L 17 = true) ∧ (L 18 = true → ∃ N, u4 = .pointer (some ⟨N, 0, none⟩) ∧ w1.heap.size ≤ N ∧ Blk w' N 24 (if L 19 = true then #[.int .i64 ver, .int .i64 seq, .int .i64 nid, u43] else #[.int .i64 0, .int .i64 0, .int .i64 0, .slice none 0 0])))
    ?_ ?_ ?_
  · exact ⟨_, _, _, _, _, _, _, _, _, _, _, _, _, _, _, _, _, _, _, rfl, (Below.refl _ _).drew, nofun, nofun, nofun, nofun, nofun, nofun, nofun, nofun, nofun, nofun, nofun, nofun, nofun, nofun, nofun, nofun, nofun, nofun, nofun, nofun, nofun⟩
  · refine ⟨?_, ?_, ?_, ?_, ?_, ?_, ?_, ?_, ?_, ?_, ?_, ?_, ?_, ?_, ?_, ?_, ?_, ?_, ?_, ?_, trivial⟩
    · rintro L a w' ⟨u4, u27, u28, u29, u30, u31, u32, u33, u34, u35, u36, u37, u38, u39, u40, u41, u42, u43, u44, rfl, hb, g0, g1, g2, g3, g4, g5, g6, g7, g8, g9, g10, g11, g12, g13, g14, g15, g16, g17, g18, g19, g20⟩ hl hd K hK
      dsimp only at hK ⊢
      go_simp
      exact hK _ _ ⟨_, _, _, _, _, _, _, _, _, _, _, _, _, _, _, _, _, _, _, rfl, hb, fun _ => rfl, g1, g2, g3, g4, g5, g6, g7, g8, g9, g10, g11, g12, g13, g14, g15, g16, g17, g18, g19, g20⟩
    · rintro L a w' ⟨u4, u27, u28, u29, u30, u31, u32, u33, u34, u35, u36, u37, u38, u39, u40, u41, u42, u43, u44, rfl, hb, g0, g1, g2, g3, g4, g5, g6, g7, g8, g9, g10, g11, g12, g13, g14, g15, g16, g17, g18, g19, g20⟩ hl hd K hK
      simp [Region.binds] at hd
      dsimp only at hK ⊢
      have e0 := g0 (by simp [hd])
      subst e0
      go_simp
      exact hK _ _ ⟨_, _, _, _, _, _, _, _, _, _, _, _, _, _, _, _, _, _, _, rfl, hb, g0, fun _ => rfl, g2, g3, g4, g5, g6, g7, g8, g9, g10, g11, g12, g13, g14, g15, g16, g17, g18, g19, g20⟩
    · rintro L a w' ⟨u4, u27, u28, u29, u30, u31, u32, u33, u34, u35, u36, u37, u38, u39, u40, u41, u42, u43, u44, rfl, hb, g0, g1, g2, g3, g4, g5, g6, g7, g8, g9, g10, g11, g12, g13, g14, g15, g16, g17, g18, g19, g20⟩ hl hd K hK
      simp [Region.binds] at hd
      dsimp only at hK ⊢
      have e1 := g1 (by simp [hd])
      subst e1
      go_simp
      exact hK _ _ ⟨_, _, _, _, _, _, _, _, _, _, _, _, _, _, _, _, _, _, _, rfl, hb, g0, g1, fun _ => rfl, g3, g4, g5, g6, g7, g8, g9, g10, g11, g12, g13, g14, g15, g16, g17, g18, g19, g20⟩
    · rintro L a w' ⟨u4, u27, u28, u29, u30, u31, u32, u33, u34, u35, u36, u37, u38, u39, u40, u41, u42, u43, u44, rfl, hb, g0, g1, g2, g3, g4, g5, g6, g7, g8, g9, g10, g11, g12, g13, g14, g15, g16, g17, g18, g19, g20⟩ hl hd K hK
      simp [Region.binds] at hd
      dsimp only at hK ⊢
      have e2 := g2 (by simp [hd])
      subst e2
      have cc := (hb.cell (p := { block := p0.block, off := p0.off + 1 }) hplt1).trans d1
      go_simp
      exact hK _ _ ⟨_, _, _, _, _, _, _, _, _, _, _, _, _, _, _, _, _, _, _, rfl, hb, g0, g1, g2, fun _ => rfl, g4, g5, g6, g7, g8, g9, g10, g11, g12, g13, g14, g15, g16, g17, g18, g19, g20⟩
    · rintro L a w' ⟨u4, u27, u28, u29, u30, u31, u32, u33, u34, u35, u36, u37, u38, u39, u40, u41, u42, u43, u44, rfl, hb, g0, g1, g2, g3, g4, g5, g6, g7, g8, g9, g10, g11, g12, g13, g14, g15, g16, g17, g18, g19, g20⟩ hl hd K hK
      dsimp only at hK ⊢
      go_simp
      exact hK _ _ ⟨_, _, _, _, _, _, _, _, _, _, _, _, _, _, _, _, _, _, _, rfl, hb, g0, g1, g2, g3, fun _ => rfl, g5, g6, g7, g8, g9, g10, g11, g12, g13, g14, g15, g16, g17, g18, g19, g20⟩
    · rintro L a w' ⟨u4, u27, u28, u29, u30, u31, u32, u33, u34, u35, u36, u37, u38, u39, u40, u41, u42, u43, u44, rfl, hb, g0, g1, g2, g3, g4, g5, g6, g7, g8, g9, g10, g11, g12, g13, g14, g15, g16, g17, g18, g19, g20⟩ hl hd K hK
      simp [Region.binds] at hd
      dsimp only at hK ⊢
      have e4 := g4 (by simp [hd])
      subst e4
      go_simp
      exact hK _ _ ⟨_, _, _, _, _, _, _, _, _, _, _, _, _, _, _, _, _, _, _, rfl, hb, g0, g1, g2, g3, g4, fun _ => rfl, g6, g7, g8, g9, g10, g11, g12, g13, g14, g15, g16, g17, g18, g19, g20⟩
    · rintro L a w' ⟨u4, u27, u28, u29, u30, u31, u32, u33, u34, u35, u36, u37, u38, u39, u40, u41, u42, u43, u44, rfl, hb, g0, g1, g2, g3, g4, g5, g6, g7, g8, g9, g10, g11, g12, g13, g14, g15, g16, g17, g18, g19, g20⟩ hl hd K hK
      simp [Region.binds] at hd
      dsimp only at hK ⊢
      have e5 := g5 (by simp [hd])
      subst e5
      go_simp
      exact hK _ _ ⟨_, _, _, _, _, _, _, _, _, _, _, _, _, _, _, _, _, _, _, rfl, hb, g0, g1, g2, g3, g4, g5, fun _ => rfl, g7, g8, g9, g10, g11, g12, g13, g14, g15, g16, g17, g18, g19, g20⟩
    · rintro L a w' ⟨u4, u27, u28, u29, u30, u31, u32, u33, u34, u35, u36, u37, u38, u39, u40, u41, u42, u43, u44, rfl, hb, g0, g1, g2, g3, g4, g5, g6, g7, g8, g9, g10, g11, g12, g13, g14, g15, g16, g17, g18, g19, g20⟩ hl hd K hK
      simp [Region.binds] at hd
      dsimp only at hK ⊢
      have e6 := g6 (by simp [hd])
      subst e6
      have cc := (hb.cell (p := { block := p0.block, off := p0.off + 2 }) hplt1).trans d2
      go_simp
      exact hK _ _ ⟨_, _, _, _, _, _, _, _, _, _, _, _, _, _, _, _, _, _, _, rfl, hb, g0, g1, g2, g3, g4, g5, g6, fun _ => rfl, g8, g9, g10, g11, g12, g13, g14, g15, g16, g17, g18, g19, g20⟩
    · rintro L a w' ⟨u4, u27, u28, u29, u30, u31, u32, u33, u34, u35, u36, u37, u38, u39, u40, u41, u42, u43, u44, rfl, hb, g0, g1, g2, g3, g4, g5, g6, g7, g8, g9, g10, g11, g12, g13, g14, g15, g16, g17, g18, g19, g20⟩ hl hd K hK
      dsimp only at hK ⊢
      go_simp
      exact hK _ _ ⟨_, _, _, _, _, _, _, _, _, _, _, _, _, _, _, _, _, _, _, rfl, hb, g0, g1, g2, g3, g4, g5, g6, g7, fun _ => rfl, g9, g10, g11, g12, g13, g14, g15, g16, g17, g18, g19, g20⟩
    · rintro L a w' ⟨u4, u27, u28, u29, u30, u31, u32, u33, u34, u35, u36, u37, u38, u39, u40, u41, u42, u43, u44, rfl, hb, g0, g1, g2, g3, g4, g5, g6, g7, g8, g9, g10, g11, g12, g13, g14, g15, g16, g17, g18, g19, g20⟩ hl hd K hK
      simp [Region.binds] at hd
      dsimp only at hK ⊢
      have e8 := g8 (by simp [hd])
      subst e8
      go_simp
      exact hK _ _ ⟨_, _, _, _, _, _, _, _, _, _, _, _, _, _, _, _, _, _, _, rfl, hb, g0, g1, g2, g3, g4, g5, g6, g7, g8, fun _ => rfl, g10, g11, g12, g13, g14, g15, g16, g17, g18, g19, g20⟩
    · rintro L a w' ⟨u4, u27, u28, u29, u30, u31, u32, u33, u34, u35, u36, u37, u38, u39, u40, u41, u42, u43, u44, rfl, hb, g0, g1, g2, g3, g4, g5, g6, g7, g8, g9, g10, g11, g12, g13, g14, g15, g16, g17, g18, g19, g20⟩ hl hd K hK
      simp [Region.binds] at hd
      dsimp only at hK ⊢
      have e9 := g9 (by simp [hd])
      subst e9
      go_simp
      exact hK _ _ ⟨_, _, _, _, _, _, _, _, _, _, _, _, _, _, _, _, _, _, _, rfl, hb, g0, g1, g2, g3, g4, g5, g6, g7, g8, g9, fun _ => rfl, g11, g12, g13, g14, g15, g16, g17, g18, g19, g20⟩
    · rintro L a w' ⟨u4, u27, u28, u29, u30, u31, u32, u33, u34, u35, u36, u37, u38, u39, u40, u41, u42, u43, u44, rfl, hb, g0, g1, g2, g3, g4, g5, g6, g7, g8, g9, g10, g11, g12, g13, g14, g15, g16, g17, g18, g19, g20⟩ hl hd K hK
      simp [Region.binds] at hd
      dsimp only at hK ⊢
      have e10 := g10 (by simp [hd])
      subst e10
      have cc := (hb.cell (p := { block := p0.block, off := p0.off + 3 }) hplt1).trans d3
      go_simp
      exact hK _ _ ⟨_, _, _, _, _, _, _, _, _, _, _, _, _, _, _, _, _, _, _, rfl, hb, g0, g1, g2, g3, g4, g5, g6, g7, g8, g9, g10, fun _ => rfl, g12, g13, g14, g15, g16, g17, g18, g19, g20⟩
    · rintro L a w' ⟨u4, u27, u28, u29, u30, u31, u32, u33, u34, u35, u36, u37, u38, u39, u40, u41, u42, u43, u44, rfl, hb, g0, g1, g2, g3, g4, g5, g6, g7, g8, g9, g10, g11, g12, g13, g14, g15, g16, g17, g18, g19, g20⟩ hl hd K hK
      dsimp only at hK ⊢
      go_simp
      exact hK _ _ ⟨_, _, _, _, _, _, _, _, _, _, _, _, _, _, _, _, _, _, _, rfl, hb, g0, g1, g2, g3, g4, g5, g6, g7, g8, g9, g10, g11, fun _ => rfl, g13, g14, g15, g16, g17, g18, g19, g20⟩
    · rintro L a w' ⟨u4, u27, u28, u29, u30, u31, u32, u33, u34, u35, u36, u37, u38, u39, u40, u41, u42, u43, u44, rfl, hb, g0, g1, g2, g3, g4, g5, g6, g7, g8, g9, g10, g11, g12, g13, g14, g15, g16, g17, g18, g19, g20⟩ hl hd K hK
      simp [Region.binds] at hd
      dsimp only at hK ⊢
      have e12 := g12 (by simp [hd])
      subst e12
      go_simp
      exact hK _ _ ⟨_, _, _, _, _, _, _, _, _, _, _, _, _, _, _, _, _, _, _, rfl, hb, g0, g1, g2, g3, g4, g5, g6, g7, g8, g9, g10, g11, g12, fun _ => rfl, g14, g15, g16, g17, g18, g19, g20⟩
    · rintro L a w' ⟨u4, u27, u28, u29, u30, u31, u32, u33, u34, u35, u36, u37, u38, u39, u40, u41, u42, u43, u44, rfl, hb, g0, g1, g2, g3, g4, g5, g6, g7, g8, g9, g10, g11, g12, g13, g14, g15, g16, g17, g18, g19, g20⟩ hl hd K hK
      simp [Region.binds] at hd
      dsimp only at hK ⊢
      have e13 := g13 (by simp [hd])
      subst e13
      go_simp
      exact hK _ _ ⟨_, _, _, _, _, _, _, _, _, _, _, _, _, _, _, _, _, _, _, rfl, hb, g0, g1, g2, g3, g4, g5, g6, g7, g8, g9, g10, g11, g12, g13, fun _ => rfl, g15, g16, g17, g18, g19, g20⟩
    · rintro L a w' ⟨u4, u27, u28, u29, u30, u31, u32, u33, u34, u35, u36, u37, u38, u39, u40, u41, u42, u43, u44, rfl, hb, g0, g1, g2, g3, g4, g5, g6, g7, g8, g9, g10, g11, g12, g13, g14, g15, g16, g17, g18, g19, g20⟩ hl hd K hK
      simp [Region.binds] at hd
      dsimp only at hK ⊢
      have e14 := g14 (by simp [hd])
      subst e14
      have cc := (hb.cell (p := { block := p0.block, off := p0.off + 4 }) hplt1).trans d4
      go_simp
      exact hK _ _ ⟨_, _, _, _, _, _, _, _, _, _, _, _, _, _, _, _, _, _, _, rfl, hb, g0, g1, g2, g3, g4, g5, g6, g7, g8, g9, g10, g11, g12, g13, g14, fun _ => rfl, g16, g17, g18, g19, g20⟩
    · rintro L a w' ⟨u4, u27, u28, u29, u30, u31, u32, u33, u34, u35, u36, u37, u38, u39, u40, u41, u42, u43, u44, rfl, hb, g0, g1, g2, g3, g4, g5, g6, g7, g8, g9, g10, g11, g12, g13, g14, g15, g16, g17, g18, g19, g20⟩ hl hd K hK
      simp [Region.binds] at hd
      dsimp only at hK ⊢
      have e15 := g15 (by simp [hd])
      subst e15
      have h19 : L 19 = false := by
        cases h : L 19 with
        | false => rfl
        | true => have := g18 (g19 h).2; rw [hl] at this; cases this
      have h17 : L 17 = false := by
        cases h : L 17 with
        | false => rfl
        | true => have := g18 h; rw [hl] at this; cases this
      go_wp2_with fail
      refine (clone_any (.slice AA add.length cA) add w' (hA1.below hb) (by omega)).mono ?_
      rintro _ w4 ⟨v4, rfl, hown4, hb4⟩
      exact hK _ _ ⟨_, _, _, _, _, _, _, _, _, _, _, _, _, _, _, _, _, _, _, rfl, bst hb hb4, g0, g1, g2, g3, g4, g5, g6, g7, g8, g9, g10, g11, g12, g13, g14, g15, fun _ => own_mono hown4 hb.size, fun h => absurd (show L 17 = true from h) (by rw [h17]; simp), fun _ => rfl, g19, fun h => by
            obtain ⟨N, e1, e2, e3⟩ := g20 h
            have e4 := e3.below hb4 e3.lt
            rw [if_neg (by rw [h19]; simp)] at e4
            exact ⟨N, e1, e2, by show Blk _ _ _ (if L 19 = true then _ else _); rw [if_neg (by rw [h19]; simp)]; exact e4⟩⟩
    · rintro L a w' ⟨u4, u27, u28, u29, u30, u31, u32, u33, u34, u35, u36, u37, u38, u39, u40, u41, u42, u43, u44, rfl, hb, g0, g1, g2, g3, g4, g5, g6, g7, g8, g9, g10, g11, g12, g13, g14, g15, g16, g17, g18, g19, g20⟩ hl hd K hK
      simp [Region.binds] at hd
      dsimp only at hK ⊢
      have e3 := g3 (by simp [hd])
      subst e3
      have e7 := g7 (by simp [hd])
      subst e7
      have e11 := g11 (by simp [hd])
      subst e11
      obtain ⟨A4, c4, rfl, _, _⟩ := (Sl.of_own (g16 (by simp [hd]))).form
      go_simp
      exact hK _ _ ⟨_, _, _, _, _, _, _, _, _, _, _, _, _, _, _, _, _, _, _, rfl, hb, g0, g1, g2, g3, g4, g5, g6, g7, g8, g9, g10, g11, g12, g13, g14, g15, g16, fun _ => rfl, fun _ => (by show L 16 = true; simp [hd]), fun h => ⟨(g19 h).1, rfl⟩, g20⟩
    · rintro L a w' ⟨u4, u27, u28, u29, u30, u31, u32, u33, u34, u35, u36, u37, u38, u39, u40, u41, u42, u43, u44, rfl, hb, g0, g1, g2, g3, g4, g5, g6, g7, g8, g9, g10, g11, g12, g13, g14, g15, g16, g17, g18, g19, g20⟩ hl hd K hK
      dsimp only at hK ⊢
      have h19 : L 19 = false := by
        cases h : L 19 with
        | false => rfl
        | true => have := (g19 h).1; rw [hl] at this; cases this
      go_simp
      exact hK _ _ ⟨_, _, _, _, _, _, _, _, _, _, _, _, _, _, _, _, _, _, _, rfl, hb.alloc hb.size _, g0, g1, g2, g3, g4, g5, g6, g7, g8, g9, g10, g11, g12, g13, g14, g15, fun h => (g16 h).alloc _, g17, g18, fun h => absurd (show L 19 = true from h) (by rw [h19]; simp), fun _ => ⟨w'.heap.size, rfl, hb.size, by show Blk _ _ _ (if L 19 = true then _ else _); rw [if_neg (by rw [h19]; simp)]; exact Blk.new _ _ _⟩⟩
    · rintro L a w' ⟨u4, u27, u28, u29, u30, u31, u32, u33, u34, u35, u36, u37, u38, u39, u40, u41, u42, u43, u44, rfl, hb, g0, g1, g2, g3, g4, g5, g6, g7, g8, g9, g10, g11, g12, g13, g14, g15, g16, g17, g18, g19, g20⟩ hl hd K hK
      simp [Region.binds] at hd
      dsimp only at hK ⊢
      have hd1 : L 17 = true := by simp [hd]
      have hd2 : L 18 = true := by simp [hd]
      have e17 := g17 hd1
      subst e17
      obtain ⟨N, e1, e2, e3⟩ := g20 hd2
      subst e1
      rw [if_neg (by rw [hl]; simp)] at e3
      have f0 := e3.frozen 0
      have f1 := e3.frozen 1
      have f2 := e3.frozen 2
      have f3 := e3.frozen 3
      have c0 := e3.cell 0
      have c1 := e3.cell 1
      have c2 := e3.cell 2
      have c3 := e3.cell 3
      simp only [List.getElem?_toArray, List.getElem?_cons_zero, List.getElem?_cons_succ] at c0 c1 c2 c3
      have hlt := e3.lt
      obtain ⟨A4, k4, rfl, _, _⟩ := (Sl.of_own (g16 (g18 hd1))).form
      go_simp
      have kg := grown4 w' N (.int .i64 ver) (.int .i64 seq) (.int .i64 nid) (.slice A4 add.length k4)
      have kb := blk4 (.int .i64 ver) (.int .i64 seq) (.int .i64 nid) (.slice A4 add.length k4) e3
      have ko := g16 (g18 hd1)
      exact hK _ _ ⟨_, _, _, _, _, _, _, _, _, _, _, _, _, _, _, _, _, _, _, rfl, below_row hb kg e2 hb.size, g0, g1, g2, g3, g4, g5, g6, g7, g8, g9, g10, g11, g12, g13, g14, g15, fun _ => own_row ko kg (fun b hb' e => own_blk_ne ko e3 (by decide) (by rw [hb', e])), fun _ => rfl, g18, fun _ => ⟨hd2, hd1⟩, fun _ => ⟨N, rfl, e2, kb⟩⟩
  rintro a w3 ⟨u4, u27, u28, u29, u30, u31, u32, u33, u34, u35, u36, u37, u38, u39, u40, u41, u42, u43, u44, rfl, hb, g0, g1, g2, g3, g4, g5, g6, g7, g8, g9, g10, g11, g12, g13, g14, g15, g16, g17, g18, g19, g20⟩
  have e0 := g0 rfl
  subst e0
  have e1 := g1 rfl
  subst e1
  have e2 := g2 rfl
  subst e2
  have e3 := g3 rfl
  subst e3
  have e4 := g4 rfl
  subst e4
  have e5 := g5 rfl
  subst e5
  have e6 := g6 rfl
  subst e6
  have e7 := g7 rfl
  subst e7
  have e8 := g8 rfl
  subst e8
  have e9 := g9 rfl
  subst e9
  have e10 := g10 rfl
  subst e10
  have e11 := g11 rfl
  subst e11
  have e12 := g12 rfl
  subst e12
  have e13 := g13 rfl
  subst e13
  have e14 := g14 rfl
  subst e14
  have e15 := g15 rfl
  subst e15
  have e17 := g17 rfl
  subst e17
  obtain ⟨N, e1, hN, bN⟩ := g20 rfl
  subst e1
  rw [if_pos rfl] at bN
  obtain ⟨A4, k4, rfl, hk41, hk42⟩ := (Sl.of_own (g16 rfl)).form
  have OA := Lib.hid (g16 rfl)
  have BN := Lib.hid bN
  have HB3 := Lib.hid hb
  have SR3 := Lib.hid (hs1.below hb)
  have SRW := Lib.hid hs1.tail
  clear g0 g1 g2 g3 g4 g5 g6 g7 g8 g9 g10 g11 g12 g13 g14 g15 g16 g17 g18 g19 g20 bN hb d0 d1 d2 d3 d4 hs1 hA1
  obtain ⟨bS, hbS⟩ : ∃ b, (baseOf ⟨kind, ver, seq, nid, add, rem⟩).okB = b := ⟨_, rfl⟩
  have HCK := Lib.hid (snapCheck_b' (x := ver) (q := seq) (n := nid) (l := add) (b := bS) hbS (Sl.of_own OA.out) hsmA (by omega))
  have HBS := Lib.hid hbS
  clear hbS
  have n0 := BN.out.cell 0
  have n1 := BN.out.cell 1
  have n2 := BN.out.cell 2
  have n3 := BN.out.cell 3
  simp only [List.getElem?_toArray, List.getElem?_cons_zero, List.getElem?_cons_succ] at n0 n1 n2 n3
  go_wp2_with fail
  refine (HCK.out w3 (Below.refl _ _)).mono ?_
  rintro _ w4 ⟨rfl, hb4⟩
  cases bS with
  | false =>
    have HE := Lib.hid (histV_bad (r := ⟨kind, ver, seq, nid, add, rem⟩) (rs := rs) (.inr (.inr HBS.out)))
    have HB4 := Lib.hid (bst (bst HB1.out HB3.out) hb4)
    clear hb4 n0 n1 n2 n3
    go_wp2
    exact bodyPost_ret (v := .tuple #[.slice none 0 0, .int .i64 1]) (by simp [results, Try.results25, go_sem]) rfl ⟨_, by rw [HE.out], by rw [HE.out]; exact OwnSn.nil _ _, HB4.out⟩
  | true =>
    have HE := Lib.hid (histV_go (rs := rs) HN0.out HKD.out HBS.out)
    have HB4 := Lib.hid (bst (bst HB1.out HB3.out) hb4)
    have BN4 := Lib.hid (BN.out.below hb4 BN.out.lt)
    have OA4 := Lib.hid (own_below OA.out hb4)
    have SR4 := Lib.hid (SR3.out.below hb4)
    have b14 := Lib.hid (bst HB3.out hb4)
    clear hb4 n0 n1 n2 n3
    have n0 := BN4.out.cell 0
    have n1 := BN4.out.cell 1
    have n2 := BN4.out.cell 2
    have n3 := BN4.out.cell 3
    simp only [List.getElem?_toArray, List.getElem?_cons_zero, List.getElem?_cons_succ] at n0 n1 n2 n3
    go_upto_region 7 with (fail)
    obtain ⟨w5, hw5⟩ : ∃ w5, w5 = w4.alloc (.cells #[.int .i64 ver, .int .i64 seq, .int .i64 nid, (.slice A4 add.length k4)] 24) := ⟨_, rfl⟩
    have b5 := Lib.hid (show Below w4.heap.size w4 w5 by rw [hw5]; exact abel _ _)
    have OS5 := Lib.hid (show OwnSn w5 w1.heap.size (.slice (some ⟨w4.heap.size, 0, none⟩) 1 1) [baseOf ⟨kind, ver, seq, nid, add, rem⟩] from own_one (s := baseOf ⟨kind, ver, seq, nid, add, rem⟩) (by rw [hw5]; exact Blk.new _ _ _) b14.out.size (own_below OA4.out b5.out))
    have SR5 := Lib.hid ((SR4.out.below b5.out).tail)
    have b15 := Lib.hid (bst b14.out b5.out)
    have HSB := Lib.hid (show ∀ e ∈ (baseOf ⟨kind, ver, seq, nid, add, rem⟩).l, e.small from hsmA)
    rw [← hw5]
    clear hw5 n0 n1 n2 n3
    by_cases hcn : c = 1
    · have h0 : rs.length = 0 := by omega
      have HF := Lib.hid (show histV (⟨kind, ver, seq, nid, add, rem⟩ :: rs) = (0, [baseOf ⟨kind, ver, seq, nid, add, rem⟩]) by rw [HE.out, List.eq_nil_of_length_eq_zero h0]; rfl)
      have HO := Lib.hid (OS5.out.mono (base' := w.heap.size) HB1.out.size)
      have HBE := Lib.hid (bst HB1.out b15.out)
      go_upto_region 8 with (fail)
      go_loopw [5, 53] (fun vh i wr => i = .int .i64 0 ∧ vh = .slice (some ⟨w4.heap.size, 0, none⟩) 1 1 ∧ wr = w5) (fun _ _ _ => 0)
      case atStart => exact ⟨rfl, rfl, rfl⟩
      case round =>
        obtain ⟨rfl, rfl, rfl⟩ := hrel
        have hn0 : ¬ (0 < rs.length) := by omega
        go_wp2
        exact bodyPost_ret (v := .tuple #[.slice (some ⟨w4.heap.size, 0, none⟩) 1 1, .int .i64 0]) (by simp [results, Try.results25, go_sem]) rfl ⟨_, by rw [HF.out], by rw [HF.out]; exact HO.out, HBE.out⟩
    · go_upto_region 8 with (fail)
      have ea : p0.add 6 = { block := p0.block, off := p0.off + 6 } := by unfold Addr.add; split <;> simp_all
      have SR6 := Lib.hid (show SlRc w1 (.slice (some { block := p0.block, off := p0.off + 6 }) rs.length (c - 1)) rs by have := SRW.out; rw [if_neg hcn, ea] at this; exact this)
      obtain ⟨p6, hp6⟩ : ∃ q : Addr, q = { block := p0.block, off := p0.off + 6 } := ⟨_, rfl⟩
      rw [← hp6] at SR6 ⊢
      clear ea SR5 hp6
      have hcs : rs.length ≤ 9223372036854775806 := by omega
      go_loopw [5, 53] (fun vh i wr => ∃ (k : Nat) (acc : List Snp) (s : Snp), i = .int .i64 k ∧ k ≤ rs.length ∧ acc.length = k + 1 ∧ Hid (acc[k]? = some s) ∧ Hid (s.okB = true) ∧ Hid (∀ e ∈ s.l, e.small) ∧ Hid (s.ver = ver + k) ∧ Hid (histV (⟨kind, ver, seq, nid, add, rem⟩ :: rs) = histGo s acc (rs.drop k)) ∧ OwnSn wr w1.heap.size vh acc ∧ Below w1.heap.size w1 wr) (fun _ i _ => rs.length - (intOf i).toNat)
      case atStart => exact ⟨0, [baseOf ⟨kind, ver, seq, nid, add, rem⟩], baseOf ⟨kind, ver, seq, nid, add, rem⟩, rfl, Nat.zero_le _, rfl, Lib.hid rfl, HBS, HSB, Lib.hid (by show ver = ver + ((0 : Nat) : Int); omega), Lib.hid (by rw [List.drop_zero]; exact HE.out), OS5.out, b15.out⟩
      case round =>
        obtain ⟨k, acc, s, rfl, hk, hak, hs, hok, hsm, hver, hhist, hown, hbel⟩ := hrel
        obtain ⟨AH, cH, rfl, hcH1, hcH2⟩ := hown.sl.form
        by_cases hlt : k < rs.length
        · obtain ⟨ad, r, va, vr, p1, hA0, hr, hp1, hRA, hro⟩ := (SR6.out.below hbel).load rfl hlt
          cases hA0
          obtain ⟨hplt2, c0, c1, c2, c3, c4, c5⟩ := hRA
          obtain ⟨hra, hrr, hrsm⟩ := hro
          obtain ⟨AB, cB, rfl, hB1, hB2⟩ := hra.form
          obtain ⟨AT, cT, rfl, hT1, hT2⟩ := hrr.form
          unfold maxLen at hB2 hT2
          obtain ⟨ad2, s2, u2, p2, hA2, hs2, hp2, hSA, hsl⟩ := hown.sl.load (k := k) rfl (by omega)
          cases hA2
          have es : s2 = s := by have := hs.out; rw [hs2] at this; injection this
          subst es
          obtain ⟨AL, cL, rfl, hL1, hL2⟩ := hsl.form
          have HA := Lib.hid (fun X (h : Below wr.heap.size wr X) => apply_any s2.ver s2.seq s2.nid s2.l r.kind r.ver r.seq r.nid r.add r.rem (.slice AL s2.l.length cL) (.slice AB r.add.length cB) (.slice AT r.rem.length cT) X (hsl.below h) hsm.out (by unfold maxLen at hL2; omega) (hra.below h) hrsm (by omega) (hrr.below h) (by omega))
          have HLT := Lib.hid hlt
          have HAK := Lib.hid hak
          obtain ⟨R, hR⟩ : ∃ R, acc.length = R := ⟨_, rfl⟩
          go_upto_region 10 with (fail)
          obtain ⟨wA, hwA⟩ : ∃ wA, wA = wr.alloc (.cells #[.int .i64 r.kind, .int .i64 r.ver, .int .i64 r.seq, .int .i64 r.nid, (.slice AB r.add.length cB), (.slice AT r.rem.length cT)] 38) := ⟨_, rfl⟩
          have BR := Lib.hid (show Blk wA wr.heap.size 38 #[.int .i64 r.kind, .int .i64 r.ver, .int .i64 r.seq, .int .i64 r.nid, (.slice AB r.add.length cB), (.slice AT r.rem.length cT)] by rw [hwA]; exact Blk.new _ _ _)
          have hbA : Below wr.heap.size wr wA := by rw [hwA]; exact abel _ _
          have HA1 := HA.out
          obtain ⟨⟨er, zx, zq, zn, zl⟩, hres⟩ : ∃ res, applyV ⟨s2.ver, s2.seq, s2.nid, s2.l⟩ ⟨r.kind, r.ver, r.seq, r.nid, r.add, r.rem⟩ = res := ⟨_, rfl⟩
          rw [hres] at HA1
          have HAB := Lib.hid (fun (X : World) (h : Below wA.heap.size wA X) => HA1 X (bst hbA h))
          have HRES := Lib.hid (show applyV s2 r = (er, ⟨zx, zq, zn, zl⟩) from hres)
          have OA := Lib.hid (hown.below hbA)
          have HBA := Lib.hid (bst hbel hbA)
          obtain ⟨hplt3, s0, s1, s2', s3⟩ := hSA
          have x0 := (hbA.cell (p := p2) hplt3).trans s0
          have x1 := (hbA.cell (p := { block := p2.block, off := p2.off + 1 }) hplt3).trans s1
          have x2 := (hbA.cell (p := { block := p2.block, off := p2.off + 2 }) hplt3).trans s2'
          have x3 := (hbA.cell (p := { block := p2.block, off := p2.off + 3 }) hplt3).trans s3
          have hpl : p2.block < wA.heap.size := Nat.lt_of_lt_of_le hplt3 hbA.size
          have HWA := Lib.hid hbA.size
          have HRW := Lib.hid hr
          have HRK := Lib.hid (show R = k + 1 by rw [← hR]; exact hak)
          have HL := Lib.hid hR
          rw [hR]
          rw [← hwA]
          clear hwA hres s0 s1 s2' s3 c0 c1 c2 c3 c4 c5 hplt3 hplt2 HA HA1 hbel hown hbA hp1 hr hra hrr hsl hR hlt hak
          refine wp_region_inv (by kernel_rfl) (by kernel_rfl) (fun L a w' => ∃ v8 v9 v57 v58 v59 v60 v61 v62 v63 v64 v65 v66 v67 vx : Value, a = ⟨#[.slice (some p0) (rs.length + 1) c, undef, u2, u3, .pointer (some ⟨N, 0, none⟩), .slice (some ad2) R cH, undef, .pointer (some ⟨wr.heap.size, 0, none⟩), v8, v9, .slice (some p0) (rs.length + 1) c, .int .i64 (rs.length + 1), .bool false, .bool false, .slice (some p0) (rs.length + 1) c, .pointer (some p0), .agg #[.int .i64 kind, .int .i64 ver, .int .i64 seq, .int .i64 nid, .slice AA add.length cA, .slice AR rem.length cR], .int .i64 n, .bool false, .bool false, .bool false, .slice (some p0) (rs.length + 1) c, .pointer (some p0), .pointer (some p0), .int .i64 kind, .bool false, .bool false, .slice (some p0) (rs.length + 1) c, .pointer (some p0), .pointer (some ⟨p0.block, p0.off + 1, none⟩), .int .i64 ver, .slice (some p0) (rs.length + 1) c, .pointer (some p0), .pointer (some ⟨p0.block, p0.off + 2, none⟩), .int .i64 seq, .slice (some p0) (rs.length + 1) c, .pointer (some p0), .pointer (some ⟨p0.block, p0.off + 3, none⟩), .int .i64 nid, .slice (some p0) (rs.length + 1) c, .pointer (some p0), .pointer (some ⟨p0.block, p0.off + 4, none⟩), .slice AA add.length cA, .slice A4 add.length k4, .agg #[.int .i64 ver, .int .i64 seq, .int .i64 nid, .slice A4 add.length k4], .agg #[.int .i64 ver, .int .i64 seq, .int .i64 nid, .slice A4 add.length k4], .bool true, .bool false, .agg #[.int .i64 ver, .int .i64 seq, .int .i64 nid, .slice A4 add.length k4], .slice (some ⟨w4.heap.size, 0, none⟩) 1 1, .slice (some p0) (rs.length + 1) c, .slice (some p6) rs.length (c - 1), .int .i64 rs.length, .int .i64 k, .bool true, .pointer (some p1), .agg #[.int .i64 r.kind, .int .i64 r.ver, .int .i64 r.seq, .int .i64 r.nid, .slice AB r.add.length cB, .slice AT r.rem.length cT], v57, v58, v59, v60, v61, v62, v63, v64, v65, v66, v67, u68, u69, u70, u71, u72, u73, u74, u75, undef], []⟩ ∧
              Below wA.heap.size wA w' ∧ Got (L 0) v58 (.slice (some ad2) R cH) ∧ Got (L 1) v59 (.slice (some ad2) R cH) ∧ Got (L 2) v60 (.int .i64 R) ∧ Got (L 3) v61 (.int .i64 k) ∧ Got (L 4) v62 (.pointer (some p2)) ∧ Got (L 5) v63 (.agg #[.int .i64 s2.ver, .int .i64 s2.seq, .int .i64 s2.nid, .slice AL s2.l.length cL]) ∧ Got (L 6) v64 (.agg #[.int .i64 r.kind, .int .i64 r.ver, .int .i64 r.seq, .int .i64 r.nid, (.slice AB r.add.length cB), (.slice AT r.rem.length cT)]) ∧ Got (L 7) v65 (.tuple #[.agg #[.int .i64 zx, .int .i64 zq, .int .i64 zn, vx], .int .i64 er]) ∧ Got (L 8) v57 (.tuple #[.agg #[.int .i64 zx, .int .i64 zq, .int .i64 zn, vx], .int .i64 er]) ∧ Got (L 9) v66 (.agg #[.int .i64 zx, .int .i64 zq, .int .i64 zn, vx]) ∧ Got (L 10) v67 (.int .i64 er) ∧ (L 11 = true → ∃ N2, v8 = .pointer (some ⟨N2, 0, none⟩) ∧ wA.heap.size ≤ N2 ∧ Blk w' N2 24 (if L 12 = true then #[.int .i64 zx, .int .i64 zq, .int .i64 zn, vx] else #[.int .i64 0, .int .i64 0, .int .i64 0, .slice none 0 0])) ∧ Got (L 13) v9 (.int .i64 er) ∧ (L 7 = true → w'.ownsRow wA.heap.size 34 12 vx zl.length (ents zl)) ∧ (L 12 = true → L 11 = true ∧ L 7 = true) ∧ (L 8 = true → L 7 = true) ∧ (L 9 = true → L 8 = true) ∧ (L 10 = true → L 8 = true))
            ?_ ?_ ?_
          · exact ⟨_, _, _, _, _, _, _, _, _, _, _, _, _, .int .i64 0, rfl, (Below.refl _ _).drew, nofun, nofun, nofun, nofun, nofun, nofun, nofun, nofun, nofun, nofun, nofun, nofun, nofun, nofun, nofun, nofun, nofun, nofun⟩
          · refine ⟨?_, ?_, ?_, ?_, ?_, ?_, ?_, ?_, ?_, ?_, ?_, ?_, ?_, ?_, trivial⟩
            · rintro L a w' ⟨v8, v9, v57, v58, v59, v60, v61, v62, v63, v64, v65, v66, v67, vx, rfl, hb, g0, g1, g2, g3, g4, g5, g6, g7, g8, g9, g10, g11, g12, g13, g14, g15, g16, g17⟩ hl hd K hK
              dsimp only at hK ⊢
              go_simp
              exact hK _ _ ⟨_, _, _, _, _, _, _, _, _, _, _, _, _, _, rfl, hb, fun _ => rfl, g1, g2, g3, g4, g5, g6, g7, g8, g9, g10, g11, g12, g13, g14, g15, g16, g17⟩
            · rintro L a w' ⟨v8, v9, v57, v58, v59, v60, v61, v62, v63, v64, v65, v66, v67, vx, rfl, hb, g0, g1, g2, g3, g4, g5, g6, g7, g8, g9, g10, g11, g12, g13, g14, g15, g16, g17⟩ hl hd K hK
              dsimp only at hK ⊢
              go_simp
              exact hK _ _ ⟨_, _, _, _, _, _, _, _, _, _, _, _, _, _, rfl, hb, g0, fun _ => rfl, g2, g3, g4, g5, g6, g7, g8, g9, g10, g11, g12, g13, g14, g15, g16, g17⟩
            · rintro L a w' ⟨v8, v9, v57, v58, v59, v60, v61, v62, v63, v64, v65, v66, v67, vx, rfl, hb, g0, g1, g2, g3, g4, g5, g6, g7, g8, g9, g10, g11, g12, g13, g14, g15, g16, g17⟩ hl hd K hK
              simp [Region.binds] at hd
              dsimp only at hK ⊢
              have e1 := g1 (by simp [hd])
              subst e1
              go_simp
              exact hK _ _ ⟨_, _, _, _, _, _, _, _, _, _, _, _, _, _, rfl, hb, g0, g1, fun _ => rfl, g3, g4, g5, g6, g7, g8, g9, g10, g11, g12, g13, g14, g15, g16, g17⟩
            · rintro L a w' ⟨v8, v9, v57, v58, v59, v60, v61, v62, v63, v64, v65, v66, v67, vx, rfl, hb, g0, g1, g2, g3, g4, g5, g6, g7, g8, g9, g10, g11, g12, g13, g14, g15, g16, g17⟩ hl hd K hK
              simp [Region.binds] at hd
              dsimp only at hK ⊢
              have e2 := g2 (by simp [hd])
              subst e2
              have hR1 : 1 ≤ R := by have := HRK.out; omega
              have hR2 : R ≤ 9223372036854775807 := by have := HRK.out; have := HLT.out; omega
              go_simp
              exact hK _ _ ⟨_, _, _, _, _, _, _, _, _, _, _, _, _, _, rfl, hb, g0, g1, g2, fun _ => (by rw [show (R : Int) - 1 = k by have := HRK.out; omega]; exact congrArg _ (wrap_small (by have := HLT.out; omega))), g4, g5, g6, g7, g8, g9, g10, g11, g12, g13, g14, g15, g16, g17⟩
            · rintro L a w' ⟨v8, v9, v57, v58, v59, v60, v61, v62, v63, v64, v65, v66, v67, vx, rfl, hb, g0, g1, g2, g3, g4, g5, g6, g7, g8, g9, g10, g11, g12, g13, g14, g15, g16, g17⟩ hl hd K hK
              simp [Region.binds] at hd
              dsimp only at hK ⊢
              have e0 := g0 (by simp [hd])
              subst e0
              have e3 := g3 (by simp [hd])
              subst e3
              have hkR : k < R := by have := HRK.out; omega
              go_simp
              exact hK _ _ ⟨_, _, _, _, _, _, _, _, _, _, _, _, _, _, rfl, hb, g0, g1, g2, g3, fun _ => rfl, g5, g6, g7, g8, g9, g10, g11, g12, g13, g14, g15, g16, g17⟩
            · rintro L a w' ⟨v8, v9, v57, v58, v59, v60, v61, v62, v63, v64, v65, v66, v67, vx, rfl, hb, g0, g1, g2, g3, g4, g5, g6, g7, g8, g9, g10, g11, g12, g13, g14, g15, g16, g17⟩ hl hd K hK
              simp [Region.binds] at hd
              dsimp only at hK ⊢
              have e4 := g4 (by simp [hd])
              subst e4
              have cc0 := (hb.cell (p := p2) hpl).trans x0
              have cc1 := (hb.cell (p := { block := p2.block, off := p2.off + 1 }) hpl).trans x1
              have cc2 := (hb.cell (p := { block := p2.block, off := p2.off + 2 }) hpl).trans x2
              have cc3 := (hb.cell (p := { block := p2.block, off := p2.off + 3 }) hpl).trans x3
              go_simp
              exact hK _ _ ⟨_, _, _, _, _, _, _, _, _, _, _, _, _, _, rfl, hb, g0, g1, g2, g3, g4, fun _ => rfl, g6, g7, g8, g9, g10, g11, g12, g13, g14, g15, g16, g17⟩
            · rintro L a w' ⟨v8, v9, v57, v58, v59, v60, v61, v62, v63, v64, v65, v66, v67, vx, rfl, hb, g0, g1, g2, g3, g4, g5, g6, g7, g8, g9, g10, g11, g12, g13, g14, g15, g16, g17⟩ hl hd K hK
              dsimp only at hK ⊢
              have bR := BR.out.below hb BR.out.lt
              have b0 := bR.cell 0
              have b1 := bR.cell 1
              have b2 := bR.cell 2
              have b3 := bR.cell 3
              have b4 := bR.cell 4
              have b5 := bR.cell 5
              simp only [List.getElem?_toArray, List.getElem?_cons_zero, List.getElem?_cons_succ] at b0 b1 b2 b3 b4 b5
              go_simp
              exact hK _ _ ⟨_, _, _, _, _, _, _, _, _, _, _, _, _, _, rfl, hb, g0, g1, g2, g3, g4, g5, fun _ => rfl, g7, g8, g9, g10, g11, g12, g13, g14, g15, g16, g17⟩
            · rintro L a w' ⟨v8, v9, v57, v58, v59, v60, v61, v62, v63, v64, v65, v66, v67, vx, rfl, hb, g0, g1, g2, g3, g4, g5, g6, g7, g8, g9, g10, g11, g12, g13, g14, g15, g16, g17⟩ hl hd K hK
              simp [Region.binds] at hd
              dsimp only at hK ⊢
              have e5 := g5 (by simp [hd])
              subst e5
              have e6 := g6 (by simp [hd])
              subst e6
              have h8 : L 8 = false := by
                cases h : L 8 with
                | false => rfl
                | true => have := g15 h; rw [hl] at this; cases this
              have h12 : L 12 = false := by
                cases h : L 12 with
                | false => rfl
                | true => have := (g14 h).2; rw [hl] at this; cases this
              have h9 : L 9 = false := by
                cases h : L 9 with
                | false => rfl
                | true => have := g16 h; rw [h8] at this; cases this
              have h10 : L 10 = false := by
                cases h : L 10 with
                | false => rfl
                | true => have := g17 h; rw [h8] at this; cases this
              go_wp2_with fail
              refine (HAB.out w' hb).mono ?_
              rintro _ w4 ⟨v4, rfl, hown4, hb4⟩
              simp only at hown4 ⊢
              exact hK _ _ ⟨_, _, _, _, _, _, _, _, _, _, _, _, _, _, rfl, bst hb hb4, g0, g1, g2, g3, g4, g5, g6, fun _ => rfl, fun h => absurd (show L 8 = true from h) (by rw [h8]; simp), fun h => absurd (show L 9 = true from h) (by rw [h9]; simp), fun h => absurd (show L 10 = true from h) (by rw [h10]; simp), fun h => by
                obtain ⟨N2, e1, e2, e3⟩ := g11 h
                have e4 := e3.below hb4 e3.lt
                rw [if_neg (by rw [h12]; simp)] at e4
                exact ⟨N2, e1, e2, by show Blk _ _ _ (if L 12 = true then _ else _); rw [if_neg (by rw [h12]; simp)]; exact e4⟩, g12, fun _ => own_mono hown4 hb.size, fun h => absurd (show L 12 = true from h) (by rw [h12]; simp), fun _ => rfl, g16, g17⟩
            · rintro L a w' ⟨v8, v9, v57, v58, v59, v60, v61, v62, v63, v64, v65, v66, v67, vx, rfl, hb, g0, g1, g2, g3, g4, g5, g6, g7, g8, g9, g10, g11, g12, g13, g14, g15, g16, g17⟩ hl hd K hK
              simp [Region.binds] at hd
              dsimp only at hK ⊢
              have e7 := g7 (by simp [hd])
              subst e7
              go_simp
              exact hK _ _ ⟨_, _, _, _, _, _, _, _, _, _, _, _, _, _, rfl, hb, g0, g1, g2, g3, g4, g5, g6, g7, fun _ => rfl, g9, g10, g11, g12, g13, g14, fun _ => (by show L 7 = true; simp [hd]), fun _ => rfl, fun _ => rfl⟩
            · rintro L a w' ⟨v8, v9, v57, v58, v59, v60, v61, v62, v63, v64, v65, v66, v67, vx, rfl, hb, g0, g1, g2, g3, g4, g5, g6, g7, g8, g9, g10, g11, g12, g13, g14, g15, g16, g17⟩ hl hd K hK
              simp [Region.binds] at hd
              dsimp only at hK ⊢
              have e8 := g8 (by simp [hd])
              subst e8
              go_simp
              exact hK _ _ ⟨_, _, _, _, _, _, _, _, _, _, _, _, _, _, rfl, hb, g0, g1, g2, g3, g4, g5, g6, g7, g8, fun _ => rfl, g10, g11, g12, g13, g14, g15, fun _ => (by show L 8 = true; simp [hd]), g17⟩
            · rintro L a w' ⟨v8, v9, v57, v58, v59, v60, v61, v62, v63, v64, v65, v66, v67, vx, rfl, hb, g0, g1, g2, g3, g4, g5, g6, g7, g8, g9, g10, g11, g12, g13, g14, g15, g16, g17⟩ hl hd K hK
              simp [Region.binds] at hd
              dsimp only at hK ⊢
              have e8 := g8 (by simp [hd])
              subst e8
              go_simp
              exact hK _ _ ⟨_, _, _, _, _, _, _, _, _, _, _, _, _, _, rfl, hb, g0, g1, g2, g3, g4, g5, g6, g7, g8, g9, fun _ => rfl, g11, g12, g13, g14, g15, g16, fun _ => (by show L 8 = true; simp [hd])⟩
            · rintro L a w' ⟨v8, v9, v57, v58, v59, v60, v61, v62, v63, v64, v65, v66, v67, vx, rfl, hb, g0, g1, g2, g3, g4, g5, g6, g7, g8, g9, g10, g11, g12, g13, g14, g15, g16, g17⟩ hl hd K hK
              dsimp only at hK ⊢
              have h12 : L 12 = false := by
                cases h : L 12 with
                | false => rfl
                | true => have := (g14 h).1; rw [hl] at this; cases this
              go_simp
              exact hK _ _ ⟨_, _, _, _, _, _, _, _, _, _, _, _, _, _, rfl, hb.alloc hb.size _, g0, g1, g2, g3, g4, g5, g6, g7, g8, g9, g10, fun _ => ⟨w'.heap.size, rfl, hb.size, by show Blk _ _ _ (if L 12 = true then _ else _); rw [if_neg (by rw [h12]; simp)]; exact Blk.new _ _ _⟩, g12, fun h => (g13 h).alloc _, fun h => absurd (show L 12 = true from h) (by rw [h12]; simp), g15, g16, g17⟩
            · rintro L a w' ⟨v8, v9, v57, v58, v59, v60, v61, v62, v63, v64, v65, v66, v67, vx, rfl, hb, g0, g1, g2, g3, g4, g5, g6, g7, g8, g9, g10, g11, g12, g13, g14, g15, g16, g17⟩ hl hd K hK
              simp [Region.binds] at hd
              dsimp only at hK ⊢
              have e9 := g9 (by simp [hd])
              subst e9
              have hd7 : L 7 = true := by simp [hd]
              have hd11 : L 11 = true := by simp [hd]
              obtain ⟨N2, e1, e2, e3⟩ := g11 hd11
              subst e1
              rw [if_neg (by rw [hl]; simp)] at e3
              have f0 := e3.frozen 0
              have f1 := e3.frozen 1
              have f2 := e3.frozen 2
              have f3 := e3.frozen 3
              have c0 := e3.cell 0
              have c1 := e3.cell 1
              have c2 := e3.cell 2
              have c3 := e3.cell 3
              simp only [List.getElem?_toArray, List.getElem?_cons_zero, List.getElem?_cons_succ] at c0 c1 c2 c3
              have hlt := e3.lt
              have ko := g13 hd7
              obtain ⟨A4, k4, rfl, _, _⟩ := (Sl.of_own ko).form
              go_simp
              have kg := grown4 w' N2 (.int .i64 zx) (.int .i64 zq) (.int .i64 zn) (.slice A4 zl.length k4)
              have kb := blk4 (.int .i64 zx) (.int .i64 zq) (.int .i64 zn) (.slice A4 zl.length k4) e3
              exact hK _ _ ⟨_, _, _, _, _, _, _, _, _, _, _, _, _, _, rfl, below_row hb kg e2 hb.size, g0, g1, g2, g3, g4, g5, g6, g7, g8, fun _ => rfl, g10, fun _ => ⟨N2, rfl, e2, kb⟩, g12, fun _ => own_row ko kg (fun b hb' e => own_blk_ne ko e3 (by decide) (by rw [hb', e])), fun _ => ⟨hd11, hd7⟩, g15, g16, g17⟩
            · rintro L a w' ⟨v8, v9, v57, v58, v59, v60, v61, v62, v63, v64, v65, v66, v67, vx, rfl, hb, g0, g1, g2, g3, g4, g5, g6, g7, g8, g9, g10, g11, g12, g13, g14, g15, g16, g17⟩ hl hd K hK
              simp [Region.binds] at hd
              dsimp only at hK ⊢
              have e10 := g10 (by simp [hd])
              subst e10
              go_simp
              exact hK _ _ ⟨_, _, _, _, _, _, _, _, _, _, _, _, _, _, rfl, hb, g0, g1, g2, g3, g4, g5, g6, g7, g8, g9, g10, g11, fun _ => rfl, g13, g14, g15, g16, g17⟩
          rintro a w6 ⟨v8, v9, v57, v58, v59, v60, v61, v62, v63, v64, v65, v66, v67, vx, rfl, hb, g0, g1, g2, g3, g4, g5, g6, g7, g8, g9, g10, g11, g12, g13, g14, g15, g16, g17⟩
          have e0 := g0 rfl
          subst e0
          have e1 := g1 rfl
          subst e1
          have e2 := g2 rfl
          subst e2
          have e3 := g3 rfl
          subst e3
          have e4 := g4 rfl
          subst e4
          have e5 := g5 rfl
          subst e5
          have e6 := g6 rfl
          subst e6
          have e7 := g7 rfl
          subst e7
          have e8 := g8 rfl
          subst e8
          have e9 := g9 rfl
          subst e9
          have e10 := g10 rfl
          subst e10
          have e12 := g12 rfl
          subst e12
          obtain ⟨N2, e1, hN2, bN2⟩ := g11 rfl
          subst e1
          rw [if_pos rfl] at bN2
          have ho6 := g13 rfl
          obtain ⟨A6, k6, rfl, hk61, hk62⟩ := (Sl.of_own ho6).form
          have BN6 := Lib.hid bN2
          have O6 := Lib.hid (own_mono ho6 HBA.out.size)
          have B6 := Lib.hid (bst HBA.out hb)
          have OS6 := Lib.hid (OA.out.below hb)
          clear g0 g1 g2 g3 g4 g5 g6 g7 g8 g9 g10 g11 g12 g13 g14 g15 g16 g17 bN2 ho6 hb x0 x1 x2 x3 hpl
          by_cases he0 : er = 0
          case neg =>
            have t1 : (er != 0) = true := by simpa using he0
            have HF := Lib.hid (show histV (⟨kind, ver, seq, nid, add, rem⟩ :: rs) = (er, []) by rw [hhist.out]; exact histGo_err HRW.out HRES.out he0)
            have HBE := Lib.hid (bst HB1.out B6.out)
            clear he0
            go_wp2
            exact bodyPost_ret (v := .tuple #[.slice none 0 0, .int .i64 er]) (by simp [results, Try.results25, go_sem]) rfl ⟨_, by rw [HF.out], by rw [HF.out]; exact OwnSn.nil _ _, HBE.out⟩
          case pos =>
            subst he0
            have ha := applyV_ok HRES.out
            obtain ⟨pz, _⟩ := snapB_parts ha.2.2.2.2.2.2.2.2.1
            have hzv : zx = s2.ver + 1 := by
              have e1 := ha.2.2.2.2.2.2.2.1
              injection e1 with e1
              rw [e1]; exact ha.2.2.2.1
            have HZV := Lib.hid (show (Snp.ver ⟨zx, zq, zn, zl⟩) = ver + ((k + 1 : Nat) : Int) by show zx = _; rw [hzv, hver.out]; omega)
            have HZOK := Lib.hid (show Snp.okB ⟨zx, zq, zn, zl⟩ = true from ha.2.2.2.2.2.2.2.2.1)
            have HZS := Lib.hid (show ∀ e ∈ (Snp.l ⟨zx, zq, zn, zl⟩), e.small from fun e he => by
              rcases (applyV_mem HRES.out).1 he with h | h
              · exact hsm.out e h.1
              · exact hrsm e h)
            have HKK := Lib.hid (show k + 1 < 2147483648 by
              have h1 : zx ≤ 2147483647 := pz.2.1
              have h2 : zx = ver + ((k + 1 : Nat) : Int) := HZV.out
              have h3 := (snapB_parts (show snapB ver seq nid add = true from HBS.out)).1.1
              omega)
            have HN := Lib.hid (show histV (⟨kind, ver, seq, nid, add, rem⟩ :: rs) = histGo ⟨zx, zq, zn, zl⟩ (acc ++ [⟨zx, zq, zn, zl⟩]) (rs.drop (k + 1)) by rw [hhist.out]; exact histGo_next HRW.out HRES.out)
            clear ha pz hzv
            obtain ⟨us, hu1, hu2, hu3⟩ := OS6.out
            rw [HL.out] at hu2
            have HU := Lib.hid (⟨hu1, hu3⟩ : _ ∧ _)
            clear hu1 hu3
            have n0 := BN6.out.cell 0
            have n1 := BN6.out.cell 1
            have n2 := BN6.out.cell 2
            have n3 := BN6.out.cell 3
            simp only [List.getElem?_toArray, List.getElem?_cons_zero, List.getElem?_cons_succ] at n0 n1 n2 n3
            have hsz := B6.out.size
            have hkk : R < 2147483649 := by have := HKK.out; have := HRK.out; omega
            go_wp2_with (at_builtin; go_must (refine app1 _ _ hu2 (Below.refl w1.heap.size w6) (Nat.le_refl _) hsz under_snap info_snap rfl (by decide) rfl (one4 _ _ _ _ _ _) (by omega) (by omega) rfl rfl rfl rfl ?_))
            intro g' cap' w9 ho9 hb9 hg9 hor9
            have O9 := Lib.hid (own_snoc (h := acc) (s := ⟨zx, zq, zn, zl⟩) (u := .slice A6 zl.length k6) HU.out.1 (by rw [HL.out]; exact hu2) HU.out.2 O6.out (by rw [HL.out]; exact ho9) hg9)
            have B9 := Lib.hid (B6.out.trans hb9)
            clear ho9 hb9 hg9 hor9 hu2 hsz hkk n0 n1 n2 n3
            go_wp2
            go_roundw
            case rel => exact ⟨k + 1, acc ++ [⟨zx, zq, zn, zl⟩], ⟨zx, zq, zn, zl⟩, by go_num, HLT.out, by rw [List.length_append, HL.out, HRK.out]; rfl, Lib.hid (last_snoc HAK.out), HZOK, HZS, HZV, HN, O9.out, B9.out⟩
            case measure => have := HLT.out; simp [intOf]; omega
        · have HF := Lib.hid (show histV (⟨kind, ver, seq, nid, add, rem⟩ :: rs) = (0, acc) by rw [hhist.out]; exact histGo_end (by omega))
          have HO := Lib.hid (hown.mono (base' := w.heap.size) HB1.out.size)
          have HBE := Lib.hid (bst HB1.out hbel)
          clear hown hbel
          go_wp2
          exact bodyPost_ret (v := .tuple #[.slice AH acc.length cH, .int .i64 0]) (by simp [results, Try.results25, go_sem]) rfl ⟨_, by rw [HF.out], by rw [HF.out]; exact HO.out, HBE.out⟩
end Go.Proofs.Ytoikgjhekemjdaa
