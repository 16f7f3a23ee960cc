/-
  The walk of the law JobReplaces.
-/
import Derived.Test.YtoikgjhekemjdaaJCommit
import Derived.Test.YtoikgjhekemjdaaJOutputs
import Derived.Test.YtoikgjhekemjdaaKSnap
import Derived.Test.YtoikgjhekemjdaaSteps
import Derived.Test.YtoikgjhekemjdaaJLaw
import Derived.Test.YtoikgjhekemjdaaJLaw2
import Derived.Test.YtoikgjhekemjdaaRApply
import Derived.Test.YtoikgjhekemjdaaInsert
namespace Go.Proofs.Ytoikgjhekemjdaa
open Go.RowKit Go.Sort

set_option maxRecDepth 100000 in
set_option maxHeartbeats 8000000 in
theorem jobReplaces_walk (z1 z2 z3 : Value) (xs ys zs : List Int) (w : World)
    (h1 : Sl w 1 z1 xs.length (ints xs)) (h1l : xs.length ≤ 9223372036854775807) (h1r : ∀ x ∈ xs, -9223372036854775808 ≤ x ∧ x ≤ 9223372036854775807)
    (h2 : Sl w 1 z2 ys.length (ints ys)) (h2l : ys.length ≤ 9223372036854775807) (h2r : ∀ x ∈ ys, -9223372036854775808 ≤ x ∧ x ≤ 9223372036854775807)
    (h3 : Sl w 1 z3 zs.length (ints zs)) (h3l : zs.length ≤ 9223372036854775807) (h3r : ∀ x ∈ zs, -9223372036854775808 ≤ x ∧ x ≤ 9223372036854775807) :
    Calls Try.prog 11 #[z1, z2, z3] w (RetBe w true) := by
  obtain ⟨A1, c1, rfl, _, _⟩ := h1.form
  obtain ⟨A2, c2, rfl, _, _⟩ := h2.form
  obtain ⟨A3, c3, rfl, _, _⟩ := h3.form
  have HK := Lib.hid (ksnap_any _ xs w h1 h1l h1r)
  have S2 := Lib.hid h2
  have S3 := Lib.hid h3
  have R2 := Lib.hid h2r
  have R3 := Lib.hid h3r
  clear h1 h2 h3 h1r h2r h3r
  go_enter Try.func11, Try.ntmps11
  go_wp2_with fail
  refine HK.out.mono ?_
  rintro e v1 ⟨x, q, n, sv, l, rfl, k1, k2, k3, k4, k5, k6, hlen, hG, hown, hb1⟩
  obtain ⟨AS, cS, rfl, hS1, hS2⟩ := (Sl.of_own hown).form
  have SS1 := Lib.hid (Sl.of_own hown)
  have hsm : ∀ e ∈ l, e.small := fun e he => Ent.gen_small (hG.mem e he).1
  have HSB := Lib.hid (gen_snapB k1 k2 k3 k4 k5 k6 hlen hG)
  have HS := Lib.hid hsm
  obtain ⟨v2, hv⟩ : ∃ v2, v2 = v1.alloc (.cells #[.int .i64 x, .int .i64 q, .int .i64 n, .slice AS l.length cS] 24) := ⟨_, rfl⟩
  have hb2 : Below v1.heap.size v1 v2 := by rw [hv]; exact abel _ _
  have BS := Lib.hid (show Blk v2 v1.heap.size 24 #[.int .i64 x, .int .i64 q, .int .i64 n, .slice AS l.length cS] by rw [hv]; exact Blk.new _ _ _)
  have SS := Lib.hid (SS1.out.below hb2)
  have HB2 := Lib.hid (bst hb1 hb2)
  have hl6 := hlen
  clear hG hown hb1 hb2 HK hsm
  go_upto_region 2 with (fail)
  rw [← hv]
  clear hv
  refine wp_region_inv (by kernel_rfl) (by kernel_rfl) (fun L a w' => ∃ u8 u9 u26 u27 u28 u29 u30 u31 u32 : Value, a = ⟨#[.slice A1 xs.length c1, .slice A2 ys.length c2, .slice A3 zs.length c3, undef, undef, undef, .bool false, .pointer (some ⟨v1.heap.size, 0, none⟩), u8, u9, undef, undef, undef, undef, undef, undef, undef, undef, undef, undef, undef, undef, undef, undef, .slice A1 xs.length c1, .agg #[.int .i64 x, .int .i64 q, .int .i64 n, .slice AS l.length cS], u26, u27, u28, u29, u30, u31, u32, undef, undef, undef, undef, undef, undef, undef, undef, undef, undef, undef, undef, undef, undef, undef, undef, undef, undef, undef, undef, undef, undef, undef, undef, undef, undef, undef, undef, undef, undef, undef, undef, undef, undef, undef, undef, undef, undef, undef, undef, undef, undef, undef, undef, undef, undef, undef, undef, undef, undef, undef, undef, undef, undef, undef, undef, undef, undef, undef, undef, undef, undef, undef, undef, undef, undef, undef, undef, undef, undef, undef, undef, undef, undef, undef, undef, undef, undef, undef, undef, undef, undef, undef, undef, undef, undef, undef, undef, undef, undef, undef, undef, undef, undef, undef, undef, undef, undef, undef, undef, undef, undef, undef, undef, undef, undef, undef, undef, undef, undef, undef, undef, undef], []⟩ ∧
      Below v2.heap.size v2 w' ∧ Got (L 0) u26 (.agg #[.int .i64 x, .int .i64 q, .int .i64 n, .slice AS l.length cS]) ∧ Got (L 1) u27 (.slice A2 ys.length c2) ∧ (L 2 = true → ∃ o : List Ent, w'.ownsRow v2.heap.size 34 12 u28 o.length (ents o) ∧ (∀ e ∈ o, e.small) ∧ o.length ≤ 7) ∧ Got (L 3) u29 (.pointer (some ⟨v1.heap.size, 2, none⟩)) ∧ Got (L 4) u30 (.int .i64 n) ∧ Got (L 5) u31 (.slice A3 zs.length c3) ∧ (L 6 = true → ∃ o : List Ent, w'.ownsRow v2.heap.size 34 12 u32 o.length (ents o) ∧ (∀ e ∈ o, e.small) ∧ o.length ≤ 2) ∧ (L 7 = true → ∃ o : List Ent, w'.ownsRow v2.heap.size 34 12 u8 o.length (ents o) ∧ (∀ e ∈ o, e.small) ∧ o.length ≤ 7) ∧ (L 8 = true → ∃ o : List Ent, w'.ownsRow v2.heap.size 34 12 u9 o.length (ents o) ∧ (∀ e ∈ o, e.small) ∧ o.length ≤ 2))
    ?_ ?_ ?_
  · exact ⟨_, _, _, _, _, _, _, _, _, rfl, (Below.refl _ _).drew, nofun, nofun, nofun, nofun, nofun, nofun, nofun, nofun, nofun⟩
  · refine ⟨?_, ?_, ?_, ?_, ?_, ?_, ?_, ?_, ?_, trivial⟩
    · rintro L a w' ⟨u8, u9, u26, u27, u28, u29, u30, u31, u32, rfl, hb, g0, g1, g2, g3, g4, g5, g6, g7, g8⟩ hl hd K hK
      dsimp only at hK ⊢
      have bb := BS.out.below hb BS.out.lt
      have cc0 := bb.cell 0
      have cc1 := bb.cell 1
      have cc2 := bb.cell 2
      have cc3 := bb.cell 3
      simp only [List.getElem?_toArray, List.getElem?_cons_zero, List.getElem?_cons_succ] at cc0 cc1 cc2 cc3
      clear bb
      go_simp
      exact hK _ _ ⟨_, _, _, _, _, _, _, _, _, rfl, hb, fun _ => rfl, g1, g2, g3, g4, g5, g6, g7, g8⟩
    · rintro L a w' ⟨u8, u9, u26, u27, u28, u29, u30, u31, u32, rfl, hb, g0, g1, g2, g3, g4, g5, g6, g7, g8⟩ hl hd K hK
      dsimp only at hK ⊢
      go_simp
      exact hK _ _ ⟨_, _, _, _, _, _, _, _, _, rfl, hb, g0, fun _ => rfl, g2, g3, g4, g5, g6, g7, g8⟩
    · rintro L a w' ⟨u8, u9, u26, u27, u28, u29, u30, u31, u32, rfl, hb, g0, g1, g2, g3, g4, g5, g6, g7, g8⟩ hl hd K hK
      simp [Region.binds] at hd
      dsimp only at hK ⊢
      have e0 := g0 (by simp [hd])
      subst e0
      have e1 := g1 (by simp [hd])
      subst e1
      go_wp2_with fail
      refine (inputs_any x q n (.slice AS l.length cS) (.slice A2 ys.length c2) l ys w' (SS.out.below hb) (by omega) HS.out (S2.out.below (bst HB2.out hb)) h2l R2.out).mono ?_
      rintro _ w4 ⟨v4, o, rfl, o4, s4, l4, hb4⟩
      exact hK _ _ ⟨_, _, _, _, _, _, _, _, _, rfl, bst hb hb4, g0, g1, fun _ => ⟨o, own_mono o4 hb.size, s4, Nat.le_trans l4 (by omega)⟩, g3, g4, g5, fun h => by obtain ⟨o, o1, o2, o3⟩ := g6 h; exact ⟨o, own_below o1 hb4, o2, o3⟩, fun h => by obtain ⟨o, o1, o2, o3⟩ := g7 h; exact ⟨o, own_below o1 hb4, o2, o3⟩, fun h => by obtain ⟨o, o1, o2, o3⟩ := g8 h; exact ⟨o, own_below o1 hb4, o2, o3⟩⟩
    · rintro L a w' ⟨u8, u9, u26, u27, u28, u29, u30, u31, u32, rfl, hb, g0, g1, g2, g3, g4, g5, g6, g7, g8⟩ hl hd K hK
      dsimp only at hK ⊢
      go_simp
      exact hK _ _ ⟨_, _, _, _, _, _, _, _, _, rfl, hb, g0, g1, g2, fun _ => rfl, g4, g5, g6, g7, g8⟩
    · rintro L a w' ⟨u8, u9, u26, u27, u28, u29, u30, u31, u32, rfl, hb, g0, g1, g2, g3, g4, g5, g6, g7, g8⟩ hl hd K hK
      simp [Region.binds] at hd
      dsimp only at hK ⊢
      have e3 := g3 (by simp [hd])
      subst e3
      have bb := BS.out.below hb BS.out.lt
      have cc2 := bb.cell 2
      simp only [List.getElem?_toArray, List.getElem?_cons_zero, List.getElem?_cons_succ] at cc2
      clear bb
      go_simp
      exact hK _ _ ⟨_, _, _, _, _, _, _, _, _, rfl, hb, g0, g1, g2, g3, fun _ => rfl, g5, g6, g7, g8⟩
    · rintro L a w' ⟨u8, u9, u26, u27, u28, u29, u30, u31, u32, rfl, hb, g0, g1, g2, g3, g4, g5, g6, g7, g8⟩ hl hd K hK
      dsimp only at hK ⊢
      go_simp
      exact hK _ _ ⟨_, _, _, _, _, _, _, _, _, rfl, hb, g0, g1, g2, g3, g4, fun _ => rfl, g6, g7, g8⟩
    · rintro L a w' ⟨u8, u9, u26, u27, u28, u29, u30, u31, u32, rfl, hb, g0, g1, g2, g3, g4, g5, g6, g7, g8⟩ hl hd K hK
      simp [Region.binds] at hd
      dsimp only at hK ⊢
      have e4 := g4 (by simp [hd])
      subst e4
      have e5 := g5 (by simp [hd])
      subst e5
      go_wp2_with fail
      refine (outputs_any n (.slice A3 zs.length c3) zs w' (S3.out.below (bst HB2.out hb)) h3l R3.out).mono ?_
      rintro _ w4 ⟨v4, o, rfl, o4, s4, l4, hb4⟩
      exact hK _ _ ⟨_, _, _, _, _, _, _, _, _, rfl, bst hb hb4, g0, g1, fun h => by obtain ⟨o, o1, o2, o3⟩ := g2 h; exact ⟨o, own_below o1 hb4, o2, o3⟩, g3, g4, g5, fun _ => ⟨o, own_mono o4 hb.size, s4, l4⟩, fun h => by obtain ⟨o, o1, o2, o3⟩ := g7 h; exact ⟨o, own_below o1 hb4, o2, o3⟩, fun h => by obtain ⟨o, o1, o2, o3⟩ := g8 h; exact ⟨o, own_below o1 hb4, o2, o3⟩⟩
    · rintro L a w' ⟨u8, u9, u26, u27, u28, u29, u30, u31, u32, rfl, hb, g0, g1, g2, g3, g4, g5, g6, g7, g8⟩ hl hd K hK
      simp [Region.binds] at hd
      dsimp only at hK ⊢
      go_simp
      exact hK _ _ ⟨_, _, _, _, _, _, _, _, _, rfl, hb, g0, g1, g2, g3, g4, g5, g6, fun _ => g2 (by simp [hd]), g8⟩
    · rintro L a w' ⟨u8, u9, u26, u27, u28, u29, u30, u31, u32, rfl, hb, g0, g1, g2, g3, g4, g5, g6, g7, g8⟩ hl hd K hK
      simp [Region.binds] at hd
      dsimp only at hK ⊢
      go_simp
      exact hK _ _ ⟨_, _, _, _, _, _, _, _, _, rfl, hb, g0, g1, g2, g3, g4, g5, g6, g7, fun _ => g6 (by simp [hd])⟩
  rintro a v3 ⟨u8, u9, u26, u27, u28, u29, u30, u31, u32, rfl, hb, g0, g1, g2, g3, g4, g5, g6, g7, g8⟩
  obtain ⟨ins, oI, hism, hil⟩ := g7 rfl
  obtain ⟨us, oU, husm, hul⟩ := g8 rfl
  obtain ⟨AI, cI, rfl, hI1, hI2⟩ := (Sl.of_own oI).form
  obtain ⟨AU, cU, rfl, hU1, hU2⟩ := (Sl.of_own oU).form
  have B3 := Lib.hid hb
  have SI := Lib.hid (Sl.of_own oI)
  have SU := Lib.hid (Sl.of_own oU)
  have BS3 := Lib.hid (BS.out.below hb BS.out.lt)
  have SS3 := Lib.hid (SS.out.below hb)
  have HUS := Lib.hid husm
  clear g0 g1 g2 g3 g4 g5 g6 g7 g8 hb oI oU hism husm
  have HC := Lib.hid (commit_any x q n (n + 2) (.slice AS l.length cS) (.slice AI ins.length cI) (.slice AU us.length cU) l ins us v3 SS3.out HS.out SI.out (by omega) SU.out HUS.out (by omega) HSB.out (by omega))
  have wn : IntKind.i64.wrap (n + 2) = n + 2 := IntWalk.i64_in _ (by omega)
  have bb := BS3.out
  have s0 := bb.cell 0
  have s1 := bb.cell 1
  have s2 := bb.cell 2
  have s3 := bb.cell 3
  simp only [List.getElem?_toArray, List.getElem?_cons_zero, List.getElem?_cons_succ] at s0 s1 s2 s3
  clear bb
  go_wp2_with fail
  refine HC.out.mono ?_
  clear s0 s1 s2 s3 HC
  rintro e v4 (⟨err, rfl, hne, _, hb4⟩ | ⟨rem, z, va, vr, rfl, hfit, hp, happ, oA, oR, hb4⟩)
  · obtain ⟨v5, hv⟩ : ∃ v5, v5 = v4.alloc (.cells #[.int .i64 0, .int .i64 0, .int .i64 0, .int .i64 0, .slice none 0 0, .slice none 0 0] 38) := ⟨_, rfl⟩
    have b5 := Lib.hid (show Below v4.heap.size v4 v5 by rw [hv]; exact abel _ _)
    have BR := Lib.hid (show Blk v5 v4.heap.size 38 #[.int .i64 0, .int .i64 0, .int .i64 0, .int .i64 0, .slice none 0 0, .slice none 0 0] by rw [hv]; exact Blk.new _ _ _)
    have HB5 := Lib.hid (bst (bst (bst HB2.out B3.out) hb4) b5.out)
    have t1 : (err != 0) = true := by simpa using hne
    clear hne hb4
    go_upto_region 4 with (fail)
    rw [← hv]
    clear hv
    go_wp2_with fail
    refine (awake_any v5).mono ?_
    rintro _ v6 ⟨rfl, hb6⟩
    have HB6 := Lib.hid (bst HB5.out hb6)
    have r0 := (BR.out.below hb6 BR.out.lt).cell 0
    simp only [List.getElem?_toArray, List.getElem?_cons_zero] at r0
    clear hb6
    go_wp2
    go_ret
    exact RetBe.mk_ rfl HB6.out
  · obtain ⟨h1z, h2z, h3z, h4z⟩ := commit_means happ hp
    obtain ⟨zx, zq, zn, zl⟩ := z
    simp only at h1z h2z h3z h4z
    subst h1z h2z
    obtain ⟨A4, k4, rfl, _, _⟩ := (Sl.of_own oA).form
    obtain ⟨A5, k5', rfl, _, _⟩ := (Sl.of_own oR).form
    have HM := Lib.hid h4z
    obtain ⟨v5, hv⟩ : ∃ v5, v5 = v4.alloc (.cells #[.int .i64 2, .int .i64 (x + 1), .int .i64 zq, .int .i64 (n + 2), .slice A4 us.length k4, .slice A5 rem.length k5'] 38) := ⟨_, rfl⟩
    have b5 := Lib.hid (show Below v4.heap.size v4 v5 by rw [hv]; exact abel _ _)
    have BR := Lib.hid (show Blk v5 v4.heap.size 38 #[.int .i64 2, .int .i64 (x + 1), .int .i64 zq, .int .i64 (n + 2), .slice A4 us.length k4, .slice A5 rem.length k5'] by rw [hv]; exact Blk.new _ _ _)
    have b45 := Lib.hid (bst hb4 b5.out)
    have HBW := Lib.hid (bst (bst HB2.out B3.out) b45.out)
    have BS5 := Lib.hid (BS3.out.below b45.out BS3.out.lt)
    have SS5 := Lib.hid (SS3.out.below b45.out)
    have SI5 := Lib.hid (SI.out.below b45.out)
    have SU5 := Lib.hid (SU.out.below b45.out)
    have hrl : rem.length ≤ 9223372036854775807 := by have := hp.length_eq; rw [List.length_map] at this; omega
    have HA := Lib.hid (rapply_any x zq n l 2 (x + 1) zq (n + 2) us rem (.slice AS l.length cS) (.slice A4 us.length k4) (.slice A5 rem.length k5') v5 SS5.out HS.out (by omega) ((Sl.of_own oA).below b5.out) HUS.out (by omega) ((Sl.of_own oR).below b5.out) hrl)
    rw [happ] at HA
    clear h4z hb4 oA oR happ hp hrl
    go_upto_region 4 with (fail)
    rw [← hv]
    clear hv
    have bb := BS5.out
    have s0 := bb.cell 0
    have s1 := bb.cell 1
    have s2 := bb.cell 2
    have s3 := bb.cell 3
    simp only [List.getElem?_toArray, List.getElem?_cons_zero, List.getElem?_cons_succ] at s0 s1 s2 s3
    clear bb
    have bb := BR.out
    have r0 := bb.cell 0
    have r1 := bb.cell 1
    have r2 := bb.cell 2
    have r3 := bb.cell 3
    have r4 := bb.cell 4
    have r5 := bb.cell 5
    simp only [List.getElem?_toArray, List.getElem?_cons_zero, List.getElem?_cons_succ] at r0 r1 r2 r3 r4 r5
    clear bb
    go_wp2_with fail
    refine HA.out.mono ?_
    clear s0 s1 s2 s3 r0 r1 r2 r3 r4 r5 HA
    rintro _ v6 ⟨vz, rfl, oZ, hb6⟩
    simp only at oZ ⊢
    obtain ⟨AZ, cZ, rfl, hZ1, hZ2⟩ := (Sl.of_own oZ).form
    obtain ⟨v7, hv⟩ : ∃ v7, v7 = v6.alloc (.cells #[.int .i64 (x + 1), .int .i64 zq, .int .i64 zn, .slice AZ zl.length cZ] 24) := ⟨_, rfl⟩
    have b7 := Lib.hid (show Below v6.heap.size v6 v7 by rw [hv]; exact abel _ _)
    have BY := Lib.hid (show Blk v7 v6.heap.size 24 #[.int .i64 (x + 1), .int .i64 zq, .int .i64 zn, .slice AZ zl.length cZ] by rw [hv]; exact Blk.new _ _ _)
    have b67 := Lib.hid (bst hb6 b7.out)
    have HB7 := Lib.hid (bst HBW.out b67.out)
    have BS7 := Lib.hid (BS5.out.below b67.out BS5.out.lt)
    have SS7 := Lib.hid (SS5.out.below b67.out)
    have SI7 := Lib.hid (SI5.out.below b67.out)
    have SU7 := Lib.hid (SU5.out.below b67.out)
    have SZ7 := Lib.hid ((Sl.of_own oZ).below b7.out)
    clear oZ hb6
    have u1 : IntKind.i64.wrap ((l.length : Int) - ins.length) = (l.length : Int) - ins.length := IntWalk.i64_in _ (by omega)
    have u2 : IntKind.i64.wrap ((l.length : Int) - ins.length + us.length) = (l.length : Int) - ins.length + us.length := IntWalk.i64_in _ (by omega)
    have t3 : ((zl.length : Int) != (l.length : Int) - ins.length + us.length) = false := by simp; omega
    have u4 : IntKind.i64.wrap (x + 1) = x + 1 := IntWalk.i64_in _ (by omega)
    have hzl : zl.length ≤ 100 := by omega
    have HL3 := Lib.hid h3z
    clear h3z
    go_upto_region 7 with (fail)
    rw [← hv]
    clear hv
    have bb := BS7.out
    have s0 := bb.cell 0
    have s1 := bb.cell 1
    have s2 := bb.cell 2
    have s3 := bb.cell 3
    simp only [List.getElem?_toArray, List.getElem?_cons_zero, List.getElem?_cons_succ] at s0 s1 s2 s3
    clear bb
    have bb := BY.out
    have y0 := bb.cell 0
    have y1 := bb.cell 1
    have y2 := bb.cell 2
    have y3 := bb.cell 3
    simp only [List.getElem?_toArray, List.getElem?_cons_zero, List.getElem?_cons_succ] at y0 y1 y2 y3
    clear bb
    go_wp2
    clear s0 s1 s2 s3 y0 y1 y2 y3 t3 u1 u2 u4
    go_loopw [92] (fun i wr => ∃ (k : Nat), i = .int .i64 k ∧ k ≤ zl.length ∧ Below v7.heap.size v7 wr) (fun i _ => zl.length - (intOf i).toNat)
    case atStart => exact ⟨0, rfl, Nat.zero_le _, Below.refl _ _⟩
    case round =>
      obtain ⟨k, rfl, hk, hbel⟩ := hrel
      obtain ⟨wo, rfl⟩ : ∃ wo : World, wo = wr := ⟨_, rfl⟩
      by_cases hlt : k < zl.length
      · obtain ⟨ad, e, p, rfl, he, hp, hE⟩ := (SZ7.out.below hbel).ent_load rfl hlt
        obtain ⟨hplt, m0, m1, m2, m3, m4, m5, m6, m7, m8, m9, m10, m11⟩ := hE
        have HE := Lib.hid (HM.out e (List.mem_of_getElem? he))
        have HLT := Lib.hid hlt
        obtain ⟨E, hE0⟩ : ∃ E, wo.heap.size = E := ⟨_, rfl⟩
        obtain ⟨U, hU⟩ : ∃ U, U = wo.alloc (.cells #[.int .i64 e.id, .int .i64 e.rows, .int .i64 e.live, .bool e.lo.null, .int .i64 e.lo.n, .string e.lo.s, .int .i64 e.lo.seq, .bool e.hi.null, .int .i64 e.hi.n, .string e.hi.s, .int .i64 e.hi.seq, .int .i64 e.del] 34) := ⟨_, rfl⟩
        have BE := Lib.hid (show Blk U E 34 #[.int .i64 e.id, .int .i64 e.rows, .int .i64 e.live, .bool e.lo.null, .int .i64 e.lo.n, .string e.lo.s, .int .i64 e.lo.seq, .bool e.hi.null, .int .i64 e.hi.n, .string e.hi.s, .int .i64 e.hi.seq, .int .i64 e.del] by rw [hU, ← hE0]; exact Blk.new _ _ _)
        have BU := Lib.hid (show Below v7.heap.size v7 U by rw [hU]; exact hbel.alloc hbel.size _)
        have SSU := Lib.hid (SS7.out.below BU.out)
        have SIU := Lib.hid (SI7.out.below BU.out)
        have SUU := Lib.hid (SU7.out.below BU.out)
        have BSU := Lib.hid (BS7.out.below BU.out BS7.out.lt)
        clear he hbel
        go_upto_region 12 with (fail)
        rw [← hU]
        clear hU m0 m1 m2 m3 m4 m5 m6 m7 m8 m9 m10 m11
        have bb := BSU.out
        have s0 := bb.cell 0
        have s1 := bb.cell 1
        have s2 := bb.cell 2
        have s3 := bb.cell 3
        simp only [List.getElem?_toArray, List.getElem?_cons_zero, List.getElem?_cons_succ] at s0 s1 s2 s3
        clear bb
        go_wp2
        clear s0 s1 s2 s3
        go_loopw [16, 99] (fun f i wr => ∃ (j : Nat) (b : Bool), i = .int .i64 j ∧ f = .bool b ∧ j ≤ l.length ∧ Hid (b = (l.take j).any (fun y => eqE e y)) ∧ Below U.heap.size U wr) (fun _ i _ => l.length - (intOf i).toNat)
        case atStart => exact ⟨0, false, rfl, rfl, Nat.zero_le _, Lib.hid (by simp), Below.refl _ _⟩
        case round =>
          obtain ⟨j, f, rfl, rfl, hj, hf, hbj⟩ := hrel
          by_cases hjl : j < l.length
          · obtain ⟨aj, y, pj, hA, hy, hpj, hY⟩ := (SSU.out.below hbj).ent_load rfl hjl
            cases hA
            obtain ⟨hpl, y0, y1, y2, y3, y4, y5, y6, y7, y8, y9, y10, y11⟩ := hY
            have HY := Lib.hid hy
            have HBJ := Lib.hid hbj
            have HJL := Lib.hid hjl
            have bb := (BE.out.below hbj BE.out.lt).alloc (.cells #[.int .i64 y.id, .int .i64 y.rows, .int .i64 y.live, .bool y.lo.null, .int .i64 y.lo.n, .string y.lo.s, .int .i64 y.lo.seq, .bool y.hi.null, .int .i64 y.hi.n, .string y.hi.s, .int .i64 y.hi.seq, .int .i64 y.del] 34)
            have e0 := bb.cell 0
            have e1 := bb.cell 1
            have e2 := bb.cell 2
            have e3 := bb.cell 3
            have e4 := bb.cell 4
            have e5 := bb.cell 5
            have e6 := bb.cell 6
            have e7 := bb.cell 7
            have e8 := bb.cell 8
            have e9 := bb.cell 9
            have e10 := bb.cell 10
            have e11 := bb.cell 11
            simp only [List.getElem?_toArray, List.getElem?_cons_zero, List.getElem?_cons_succ] at e0 e1 e2 e3 e4 e5 e6 e7 e8 e9 e10 e11
            clear bb
            have HA := Lib.hid (any_take (p := fun y => eqE e y) hy)
            clear hy hbj
            cases f with
            | true =>
              go_wp2
              go_roundw
              case rel => exact ⟨j + 1, _, by go_num, rfl, HJL.out, Lib.hid (by rw [HA.out, ← hf.out]; rfl), HBJ.out.alloc HBJ.out.size _⟩
              case measure => have := HJL.out; simp [intOf]; omega
            | false =>
              have EQ := eql_ent e y
              cases hq : eqE e y with
              | true =>
                rw [hq] at EQ
                have HQ := Lib.hid hq
                clear hq
                go_wp2
                go_roundw
                case rel => exact ⟨j + 1, _, by go_num, rfl, HJL.out, Lib.hid (by rw [HA.out, ← hf.out]; simp [HQ.out]), HBJ.out.alloc HBJ.out.size _⟩
                case measure => have := HJL.out; simp [intOf]; omega
              | false =>
                rw [hq] at EQ
                have HQ := Lib.hid hq
                clear hq
                go_wp2
                go_roundw
                case rel => exact ⟨j + 1, _, by go_num, rfl, HJL.out, Lib.hid (by rw [HA.out, ← hf.out]; simp [HQ.out]), HBJ.out.alloc HBJ.out.size _⟩
                case measure => have := HJL.out; simp [intOf]; omega
          · have HF := Lib.hid (show f = l.any (fun y => eqE e y) by rw [hf.out, show j = l.length by omega, List.take_length])
            have HBJ := Lib.hid hbj
            clear hbj
            go_wp2
            go_loopw [16, 112] (fun ff i wr => ∃ (j : Nat) (b : Bool), i = .int .i64 j ∧ ff = .bool b ∧ j ≤ ins.length ∧ Hid (b = (f && (ins.take j).all (fun y => e.id != y.id))) ∧ Below U.heap.size U wr) (fun _ i _ => ins.length - (intOf i).toNat)
            case atStart => exact ⟨0, f, rfl, rfl, Nat.zero_le _, Lib.hid (by simp), HBJ.out⟩
            case round =>
              obtain ⟨j, g, rfl, rfl, hj, hg, hbj⟩ := hrel
              by_cases hjl : j < ins.length
              · obtain ⟨aj, y, pj, hA, hy, hpj, hY⟩ := (SIU.out.below hbj).ent_load (rfl : ins.length = ins.length) hjl
                cases hA
                obtain ⟨hpl, y0, y1, y2, y3, y4, y5, y6, y7, y8, y9, y10, y11⟩ := hY
                have HY := Lib.hid hy
                have HBK := Lib.hid hbj
                have HJL := Lib.hid hjl
                have bb := (BE.out.below hbj BE.out.lt).alloc (.cells #[.int .i64 y.id, .int .i64 y.rows, .int .i64 y.live, .bool y.lo.null, .int .i64 y.lo.n, .string y.lo.s, .int .i64 y.lo.seq, .bool y.hi.null, .int .i64 y.hi.n, .string y.hi.s, .int .i64 y.hi.seq, .int .i64 y.del] 34)
                have e0 := bb.cell 0
                have e1 := bb.cell 1
                have e2 := bb.cell 2
                have e3 := bb.cell 3
                have e4 := bb.cell 4
                have e5 := bb.cell 5
                have e6 := bb.cell 6
                have e7 := bb.cell 7
                have e8 := bb.cell 8
                have e9 := bb.cell 9
                have e10 := bb.cell 10
                have e11 := bb.cell 11
                simp only [List.getElem?_toArray, List.getElem?_cons_zero, List.getElem?_cons_succ] at e0 e1 e2 e3 e4 e5 e6 e7 e8 e9 e10 e11
                clear bb
                have HA := Lib.hid (all_take (p := fun y => e.id != y.id) hy)
                clear hy hbj
                cases g with
                | false =>
                  go_wp2
                  go_roundw
                  case rel => exact ⟨j + 1, _, by go_num, rfl, HJL.out, Lib.hid (by rw [HA.out, ← Bool.and_assoc, ← hg.out]; rfl), HBK.out.alloc HBK.out.size _⟩
                  case measure => have := HJL.out; simp [intOf]; omega
                | true =>
                  go_wp2
                  go_roundw
                  case rel => exact ⟨j + 1, _, by go_num, rfl, HJL.out, Lib.hid (by rw [HA.out, ← Bool.and_assoc, ← hg.out]; simp), HBK.out.alloc HBK.out.size _⟩
                  case measure => have := HJL.out; simp [intOf]; omega
              · have HG := Lib.hid (show g = (f && ins.all (fun y => e.id != y.id)) by rw [hg.out, show j = ins.length by have := (rfl : ins.length = ins.length); omega, List.take_length])
                have HBK := Lib.hid hbj
                clear hbj
                have HOLD := Lib.hid (show g = ((l.any fun y => eqE e y) && ins.all fun y => e.id != y.id) by rw [HG.out, HF.out])
                clear HG HF hg hf
                go_wp2
                go_loopw [17, 127] (fun f i wr => ∃ (i2 : Nat) (b : Bool), i = .int .i64 i2 ∧ f = .bool b ∧ i2 ≤ us.length ∧ Hid (b = (us.take i2).any (fun y => eqE e y)) ∧ Below U.heap.size U wr) (fun _ i _ => us.length - (intOf i).toNat)
                case atStart => exact ⟨0, false, rfl, rfl, Nat.zero_le _, Lib.hid (by simp), HBK.out⟩
                case round =>
                  obtain ⟨i2, f, rfl, rfl, hj, hf, hbj⟩ := hrel
                  by_cases hjl : i2 < us.length
                  · obtain ⟨aj, y, pj, hA, hy, hpj, hY⟩ := (SUU.out.below hbj).ent_load rfl hjl
                    cases hA
                    obtain ⟨hpl, y0, y1, y2, y3, y4, y5, y6, y7, y8, y9, y10, y11⟩ := hY
                    have HY := Lib.hid hy
                    have HBJ := Lib.hid hbj
                    have HJL := Lib.hid hjl
                    have bb := (BE.out.below hbj BE.out.lt).alloc (.cells #[.int .i64 y.id, .int .i64 y.rows, .int .i64 y.live, .bool y.lo.null, .int .i64 y.lo.n, .string y.lo.s, .int .i64 y.lo.seq, .bool y.hi.null, .int .i64 y.hi.n, .string y.hi.s, .int .i64 y.hi.seq, .int .i64 y.del] 34)
                    have e0 := bb.cell 0
                    have e1 := bb.cell 1
                    have e2 := bb.cell 2
                    have e3 := bb.cell 3
                    have e4 := bb.cell 4
                    have e5 := bb.cell 5
                    have e6 := bb.cell 6
                    have e7 := bb.cell 7
                    have e8 := bb.cell 8
                    have e9 := bb.cell 9
                    have e10 := bb.cell 10
                    have e11 := bb.cell 11
                    simp only [List.getElem?_toArray, List.getElem?_cons_zero, List.getElem?_cons_succ] at e0 e1 e2 e3 e4 e5 e6 e7 e8 e9 e10 e11
                    clear bb
                    have HA := Lib.hid (any_take (p := fun y => eqE e y) hy)
                    clear hy hbj
                    cases f with
                    | true =>
                      go_wp2
                      go_roundw
                      case rel => exact ⟨i2 + 1, _, by go_num, rfl, HJL.out, Lib.hid (by rw [HA.out, ← hf.out]; rfl), HBJ.out.alloc HBJ.out.size _⟩
                      case measure => have := HJL.out; simp [intOf]; omega
                    | false =>
                      have EQ := eql_ent e y
                      cases hq : eqE e y with
                      | true =>
                        rw [hq] at EQ
                        have HQ := Lib.hid hq
                        clear hq
                        go_wp2
                        go_roundw
                        case rel => exact ⟨i2 + 1, _, by go_num, rfl, HJL.out, Lib.hid (by rw [HA.out, ← hf.out]; simp [HQ.out]), HBJ.out.alloc HBJ.out.size _⟩
                        case measure => have := HJL.out; simp [intOf]; omega
                      | false =>
                        rw [hq] at EQ
                        have HQ := Lib.hid hq
                        clear hq
                        go_wp2
                        go_roundw
                        case rel => exact ⟨i2 + 1, _, by go_num, rfl, HJL.out, Lib.hid (by rw [HA.out, ← hf.out]; simp [HQ.out]), HBJ.out.alloc HBJ.out.size _⟩
                        case measure => have := HJL.out; simp [intOf]; omega
                  · have HF := Lib.hid (show f = us.any (fun y => eqE e y) by rw [hf.out, show i2 = us.length by omega, List.take_length])
                    have HBJ := Lib.hid hbj
                    clear hbj
                    have HNEW := Lib.hid (show (g || f) = true by rw [HOLD.out, HF.out]; exact HE.out)
                    have HBU := Lib.hid (BU.out.trans (HBJ.out.mono BU.out.size))
                    clear HF hf
                    cases g with
                    | true =>
                      go_wp2
                      go_roundw
                      case rel => exact ⟨k + 1, by go_num, HLT.out, HBU.out⟩
                      case measure => have := HLT.out; simp [intOf]; omega
                    | false =>
                      have hft : f = true := HNEW.out
                      subst hft
                      go_wp2
                      go_roundw
                      case rel => exact ⟨k + 1, by go_num, HLT.out, HBU.out⟩
                      case measure => have := HLT.out; simp [intOf]; omega
      · have HBO := Lib.hid (bst HB7.out hbel)
        clear hbel
        go_wp2_with fail
        refine (awake_any _).mono ?_
        rintro _ w9 ⟨rfl, hb9⟩
        have HB9 := Lib.hid (bst HBO.out hb9)
        clear hb9
        go_wp2
        go_ret
        exact RetBe.mk_ rfl HB9.out
end Go.Proofs.Ytoikgjhekemjdaa
