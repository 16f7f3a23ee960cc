/-
  The walk of the law SnapshotHistories.
-/
import Derived.Test.YtoikgjhekemjdaaSnSet
import Derived.Test.YtoikgjhekemjdaaLHist
import Derived.Test.YtoikgjhekemjdaaChk
import Derived.Test.YtoikgjhekemjdaaRChk
import Derived.Test.YtoikgjhekemjdaaHist
import Derived.Test.YtoikgjhekemjdaaRHist
import Derived.Test.YtoikgjhekemjdaaSames
namespace Go.Proofs.Ytoikgjhekemjdaa
open Go.RowKit Go.Sort
set_option maxRecDepth 100000 in
set_option maxHeartbeats 8000000 in
theorem snapshotHistories_walk (zr zv z1 : Value) (raw : List Rcd) (vs : List Snp) (xs : List Int) (how at_ : Int) (w : World)
    (hr : SlRc w zr raw) (hv : SlSn w zv vs) (hvs : ∀ s ∈ vs, ∀ e ∈ s.l, e.small)
    (hz : Sl w 1 z1 xs.length (ints xs)) (hzl : xs.length ≤ 9223372036854775807) (hzr : ∀ x ∈ xs, -9223372036854775808 ≤ x ∧ x ≤ 9223372036854775807) :
    Calls Try.prog 7 #[zr, zv, z1, .int .i64 how, .int .i64 at_] w (RetBe w true) := by
  obtain ⟨Az, cz, rfl, _, _⟩ := hz.form
  obtain ⟨Ar, cr, rfl, _, _⟩ := hr.form
  obtain ⟨Av, cv, rfl, _, _⟩ := hv.form
  have HH := Lib.hid (lhist_any _ xs w hz hzl hzr)
  have SRW := Lib.hid hr
  have SVS := Lib.hid hv
  have HVS := Lib.hid hvs
  have HRM := Lib.hid hr.max
  have HVM := Lib.hid hv.max
  obtain ⟨nr, hnr⟩ : ∃ nr, raw.length = nr := ⟨_, rfl⟩
  obtain ⟨nv, hnv⟩ : ∃ nv, vs.length = nv := ⟨_, rfl⟩
  rw [hnr] at SRW ⊢
  rw [hnv] at SVS ⊢
  clear hz hzl hzr hr hv hvs hnr hnv
  go_enter Try.func7, Try.ntmps7
  go_wp2_with fail
  refine HH.out.mono ?_
  rintro _ w1 ⟨v1, s, h, rfl, ho1, hk, hb1⟩
  clear HH
  have HOK := Lib.hid hk
  obtain ⟨H, hH⟩ : ∃ H, s :: h = H := ⟨_, rfl⟩
  have hl8 : H.length ≤ 8 := by rw [← hH]; have := hk.len; simp; omega
  have hl0 : 0 < H.length := by rw [← hH]; simp
  have HSM := Lib.hid (show ∀ t ∈ H, ∀ e ∈ t.l, e.small by rw [← hH]; exact hk.small)
  rw [hH] at ho1
  clear hk hH
  obtain ⟨A1, c1, rfl, _, _⟩ := ho1.form
  obtain ⟨us, u1, u2, u3⟩ := ho1.sl
  have HON := Lib.hid (one_snps H us (fun u hu => by
    obtain ⟨j, hj, e⟩ := List.mem_iff_getElem.1 hu
    obtain ⟨A, c, e2, _⟩ := (u3 j _ u (List.getElem?_eq_getElem (show j < H.length by omega)) (by rw [List.getElem?_eq_getElem hj, e])).form
    rw [e2]; rfl))
  have U3 := Lib.hid u3
  have B1 := Lib.hid hb1
  obtain ⟨n, hn⟩ : ∃ n, H.length = n := ⟨_, rfl⟩
  have HN := Lib.hid hn
  rw [hn] at hl8 hl0 u1 u2 ⊢
  have U1 := Lib.hid u1
  clear ho1 hb1 u1 u3 hn
  obtain ⟨k, hk⟩ : ∃ k : Nat, pick at_ n = k := ⟨(pick at_ n).toNat, by have := pick_lo at_ n (by omega); omega⟩
  have hkn : k < n := by have := pick_hi at_ n (by omega); omega
  have HP := Lib.hid (pick_any at_ n w1 (by omega) (by omega))
  rw [hk] at HP
  clear hk
  go_wp2_with fail
  refine HP.out.mono ?_
  rintro _ _ ⟨rfl, rfl⟩
  go_upto_region 3 with (fail)
  go_wp2_with (at_builtin; go_must (refine appN _ _ (World.ownsRow_nil w1 w1.heap.size 24 4) u2 (Nat.le_refl _) under_snap info_snap rfl (by decide) HON.out (by omega) (by omega) rfl rfl rfl rfl ?_))
  intro v3 w2 ho3 hg3 _
  have hb3 : Below w1.heap.size w1 w2 := ⟨hg3.os, hg3.tape, hg3.output, hg3.size, fun i hi => hg3.block i hi (by simp [Value.ownBlock])⟩
  have ho : OutSn w1 w2 v3 H := ⟨us, by rw [U1.out, HN.out], by rw [HN.out]; simpa using ho3, U3.out, hb3⟩
  obtain ⟨g, c, rfl, hg1, hg2⟩ := ho.form2 (by rw [HN.out]; exact hl0)
  obtain ⟨_, _, e2, hc1, hc2⟩ := ho.sl.form
  cases e2
  unfold maxLen at hc2
  rw [HN.out] at ho hc1 ⊢
  have O2 := Lib.hid ho
  have HG := Lib.hid (show w.heap.size ≤ g from Nat.le_trans B1.out.size hg1)
  have HG2 := Lib.hid hg2
  have B2 := Lib.hid (bst B1.out hb3)
  obtain ⟨x, hx⟩ : ∃ x, H[k]? = some x := ⟨_, List.getElem?_eq_getElem (by rw [HN.out]; exact hkn)⟩
  have HX := Lib.hid hx
  clear hx ho ho3 hg3 hb3 hg1 hg2 u2 HON U3 U1 HP
  obtain ⟨m, hm⟩ : ∃ m, pick how 5 = m := ⟨_, rfl⟩
  have hm0 : 0 ≤ m := by rw [← hm]; exact pick_lo _ _ (by omega)
  have hm1 : m < 5 := by rw [← hm]; exact pick_hi _ _ (by omega)
  have HP5 := Lib.hid (pick_any how 5 w2 (by omega) (by omega))
  rw [hm] at HP5
  clear hm
  go_wp2_with fail
  refine HP5.out.mono ?_
  rintro _ _ ⟨rfl, rfl⟩
  clear HP5
  have hgg : g < w2.heap.size := HG2.out
  have hkz : (k : Int) < (n : Int) := by omega
  rcases (show m = 0 ∨ m = 1 ∨ m = 2 ∨ m = 3 ∨ m = 4 by omega) with rfl | rfl | rfl | rfl | rfl
  · go_upto_region 6 with (fail)
    refine wp_region_inv (by kernel_rfl) (by kernel_rfl) (fun L a w' => ∃ v42 v43 v44 v45 v46 v47 v48 v49 v50 v51 v52 : Value, a = ⟨#[.slice Ar nr cr, .slice Av nv cv, .slice Az xs.length cz, .int .i64 how, .int .i64 at_, undef, undef, undef, undef, undef, .bool false, .slice A1 n c1, .int .i64 k, .slice (some ⟨g, 0, none⟩) n c, undef, undef, undef, undef, undef, undef, undef, undef, undef, undef, undef, undef, undef, undef, undef, undef, .slice Az xs.length cz, .slice A1 n c1, .int .i64 at_, .slice A1 n c1, .int .i64 n, .int .i64 k, .slice A1 n c1, .slice (some ⟨g, 0, none⟩) n c, .int .i64 how, .int .i64 0, .bool true, .bool true, v42, v43, v44, v45, v46, v47, v48, v49, v50, v51, v52, undef, undef, undef, undef, undef, undef, undef, undef, undef, undef, undef, undef, undef, undef, undef, undef, undef, undef, undef, undef, undef, undef, undef, undef, undef, undef, undef, undef, undef, undef, undef, undef, undef, undef, undef, undef, undef, undef, undef, undef, undef, undef, undef, undef, undef, undef, undef, undef, undef, undef, undef, undef, undef, undef, undef, undef, undef, undef, undef, undef, undef, undef, undef, undef, undef, undef, undef, undef, undef, undef, undef, undef, undef, undef, undef, undef, undef, undef, undef, undef, undef, undef, undef, undef, undef, undef, undef, undef, undef, undef, undef, undef, undef, undef, undef, undef, undef, undef, undef, undef, undef, undef, undef, undef, undef, undef, undef, undef, undef, undef, undef, undef], []⟩ ∧
        Below w.heap.size w w' ∧ Got (L 0) v42 (.slice (some ⟨g, 0, none⟩) n c) ∧ Got (L 1) v43 (.int .i64 k) ∧ Got (L 2) v44 (.pointer (some ⟨g, k * 4, none⟩)) ∧ Got (L 3) v45 (.pointer (some ⟨g, k * 4, none⟩)) ∧ Got (L 4) v46 (.int .i64 x.ver) ∧ Got (L 5) v47 (.int .i64 how) ∧ (L 6 = true → ∃ z : Int, v48 = .int .i64 z) ∧ (L 7 = true → ∃ z : Int, v49 = .int .i64 z) ∧ (L 8 = true → ∃ z : Int, v50 = .int .i64 z) ∧ Got (L 9) v51 (.pointer (some ⟨g, k * 4, none⟩)) ∧ Got (L 10) v52 (.pointer (some ⟨g, k * 4, none⟩)) ∧ (L 11 = false → OutSn w1 w' (.slice (some ⟨g, 0, none⟩) n c) H) ∧ (L 11 = true → ∃ z : Int, OutSn w1 w' (.slice (some ⟨g, 0, none⟩) n c) (H.set k ⟨z, x.seq, x.nid, x.l⟩)) ∧ (L 11 = true → L 4 = true) ∧ (L 11 = true → L 7 = true))
      ?_ ?_ ?_
    · exact ⟨_, _, _, _, _, _, _, _, _, _, _, rfl, (below_drewN B2.out 1), nofun, nofun, nofun, nofun, nofun, nofun, nofun, nofun, nofun, nofun, nofun, fun _ => O2.out.drewN 1, nofun, nofun, nofun⟩
    · refine ⟨?_, ?_, ?_, ?_, ?_, ?_, ?_, ?_, ?_, ?_, ?_, ?_, trivial⟩
      · rintro L a w' ⟨v42, v43, v44, v45, v46, v47, v48, v49, v50, v51, v52, rfl, hb, g0, g1, g2, g3, g4, g5, g6, g7, g8, g9, g10, g11, g12, g13, g14⟩ hl hd K hK
        dsimp only at hK ⊢
        go_simp
        exact hK _ _ ⟨_, _, _, _, _, _, _, _, _, _, _, rfl, hb, fun _ => rfl, g1, g2, g3, g4, g5, g6, g7, g8, g9, g10, g11, g12, g13, g14⟩
      · rintro L a w' ⟨v42, v43, v44, v45, v46, v47, v48, v49, v50, v51, v52, rfl, hb, g0, g1, g2, g3, g4, g5, g6, g7, g8, g9, g10, g11, g12, g13, g14⟩ hl hd K hK
        dsimp only at hK ⊢
        go_simp
        exact hK _ _ ⟨_, _, _, _, _, _, _, _, _, _, _, rfl, hb, g0, fun _ => rfl, g2, g3, g4, g5, g6, g7, g8, g9, g10, g11, g12, g13, g14⟩
      · rintro L a w' ⟨v42, v43, v44, v45, v46, v47, v48, v49, v50, v51, v52, rfl, hb, g0, g1, g2, g3, g4, g5, g6, g7, g8, g9, g10, g11, g12, g13, g14⟩ hl hd K hK
        simp [Region.binds] at hd
        dsimp only at hK ⊢
        have e0 := g0 (by simp [hd])
        subst e0
        have e1 := g1 (by simp [hd])
        subst e1
        go_simp
        exact hK _ _ ⟨_, _, _, _, _, _, _, _, _, _, _, rfl, hb, g0, g1, fun _ => rfl, g3, g4, g5, g6, g7, g8, g9, g10, g11, g12, g13, g14⟩
      · rintro L a w' ⟨v42, v43, v44, v45, v46, v47, v48, v49, v50, v51, v52, rfl, hb, g0, g1, g2, g3, g4, g5, g6, g7, g8, g9, g10, g11, g12, g13, g14⟩ hl hd K hK
        simp [Region.binds] at hd
        dsimp only at hK ⊢
        have e2 := g2 (by simp [hd])
        subst e2
        go_simp
        exact hK _ _ ⟨_, _, _, _, _, _, _, _, _, _, _, rfl, hb, g0, g1, g2, fun _ => rfl, g4, g5, g6, g7, g8, g9, g10, g11, g12, g13, g14⟩
      · rintro L a w' ⟨v42, v43, v44, v45, v46, v47, v48, v49, v50, v51, v52, rfl, hb, g0, g1, g2, g3, g4, g5, g6, g7, g8, g9, g10, g11, g12, g13, g14⟩ hl hd K hK
        simp [Region.binds] at hd
        dsimp only at hK ⊢
        have e3 := g3 (by simp [hd])
        subst e3
        have h11 : L 11 = false := by
          cases h : L 11 with
          | false => rfl
          | true => have := g13 h; rw [hl] at this; cases this
        obtain ⟨k0, k1, k2⟩ := (g11 h11).at_ HN.out.symm HX.out
        go_simp
        exact hK _ _ ⟨_, _, _, _, _, _, _, _, _, _, _, rfl, hb, g0, g1, g2, g3, fun _ => rfl, g5, g6, g7, g8, g9, g10, g11, g12, fun _ => rfl, g14⟩
      · rintro L a w' ⟨v42, v43, v44, v45, v46, v47, v48, v49, v50, v51, v52, rfl, hb, g0, g1, g2, g3, g4, g5, g6, g7, g8, g9, g10, g11, g12, g13, g14⟩ hl hd K hK
        dsimp only at hK ⊢
        go_simp
        exact hK _ _ ⟨_, _, _, _, _, _, _, _, _, _, _, rfl, hb, g0, g1, g2, g3, g4, fun _ => rfl, g6, g7, g8, g9, g10, g11, g12, g13, g14⟩
      · rintro L a w' ⟨v42, v43, v44, v45, v46, v47, v48, v49, v50, v51, v52, rfl, hb, g0, g1, g2, g3, g4, g5, g6, g7, g8, g9, g10, g11, g12, g13, g14⟩ hl hd K hK
        simp [Region.binds] at hd
        dsimp only at hK ⊢
        have e5 := g5 (by simp [hd])
        subst e5
        go_simp
        exact hK _ _ ⟨_, _, _, _, _, _, _, _, _, _, _, rfl, hb, g0, g1, g2, g3, g4, g5, fun _ => ⟨_, rfl⟩, g7, g8, g9, g10, g11, g12, g13, g14⟩
      · rintro L a w' ⟨v42, v43, v44, v45, v46, v47, v48, v49, v50, v51, v52, rfl, hb, g0, g1, g2, g3, g4, g5, g6, g7, g8, g9, g10, g11, g12, g13, g14⟩ hl hd K hK
        simp [Region.binds] at hd
        dsimp only at hK ⊢
        obtain ⟨z, hz⟩ := g6 (by simp [hd])
        subst hz
        have h11 : L 11 = false := by
          cases h : L 11 with
          | false => rfl
          | true => have := g14 h; rw [hl] at this; cases this
        go_wp2_with fail
        refine (pick_any z 3 w' (by omega) (by omega)).mono ?_
        rintro _ _ ⟨rfl, rfl⟩
        exact hK _ _ ⟨_, _, _, _, _, _, _, _, _, _, _, rfl, hb, g0, g1, g2, g3, g4, g5, g6, fun _ => ⟨_, rfl⟩, g8, g9, g10, g11, g12, g13, fun _ => rfl⟩
      · rintro L a w' ⟨v42, v43, v44, v45, v46, v47, v48, v49, v50, v51, v52, rfl, hb, g0, g1, g2, g3, g4, g5, g6, g7, g8, g9, g10, g11, g12, g13, g14⟩ hl hd K hK
        simp [Region.binds] at hd
        dsimp only at hK ⊢
        have e4 := g4 (by simp [hd])
        subst e4
        obtain ⟨z, hz⟩ := g7 (by simp [hd])
        subst hz
        go_simp
        exact hK _ _ ⟨_, _, _, _, _, _, _, _, _, _, _, rfl, hb, g0, g1, g2, g3, g4, g5, g6, g7, fun _ => ⟨_, rfl⟩, g9, g10, g11, g12, g13, g14⟩
      · rintro L a w' ⟨v42, v43, v44, v45, v46, v47, v48, v49, v50, v51, v52, rfl, hb, g0, g1, g2, g3, g4, g5, g6, g7, g8, g9, g10, g11, g12, g13, g14⟩ hl hd K hK
        simp [Region.binds] at hd
        dsimp only at hK ⊢
        have e0 := g0 (by simp [hd])
        subst e0
        have e1 := g1 (by simp [hd])
        subst e1
        go_simp
        exact hK _ _ ⟨_, _, _, _, _, _, _, _, _, _, _, rfl, hb, g0, g1, g2, g3, g4, g5, g6, g7, g8, fun _ => rfl, g10, g11, g12, g13, g14⟩
      · rintro L a w' ⟨v42, v43, v44, v45, v46, v47, v48, v49, v50, v51, v52, rfl, hb, g0, g1, g2, g3, g4, g5, g6, g7, g8, g9, g10, g11, g12, g13, g14⟩ hl hd K hK
        simp [Region.binds] at hd
        dsimp only at hK ⊢
        have e9 := g9 (by simp [hd])
        subst e9
        go_simp
        exact hK _ _ ⟨_, _, _, _, _, _, _, _, _, _, _, rfl, hb, g0, g1, g2, g3, g4, g5, g6, g7, g8, g9, fun _ => rfl, g11, g12, g13, g14⟩
      · rintro L a w' ⟨v42, v43, v44, v45, v46, v47, v48, v49, v50, v51, v52, rfl, hb, g0, g1, g2, g3, g4, g5, g6, g7, g8, g9, g10, g11, g12, g13, g14⟩ hl hd K hK
        simp [Region.binds] at hd
        dsimp only at hK ⊢
        have e10 := g10 (by simp [hd])
        subst e10
        obtain ⟨z, hz⟩ := g8 (by simp [hd])
        subst hz
        have ho := g11 hl
        have hd4 : L 4 = true := by simp [hd]
        have hd7 : L 7 = true := by simp [hd]
        have hfz := ho.froz (k * 4)
        obtain ⟨k0, k1, k2⟩ := ho.at_ HN.out.symm HX.out
        have hlt := ho.lt_
        go_simp
        exact hK _ _ ⟨_, _, _, _, _, _, _, _, _, _, _, rfl, below_row hb (grownBy_set w' ⟨g, k * 4, none⟩ _) HG.out hb.size, g0, g1, g2, g3, g4, g5, g6, g7, g8, g9, g10, fun h => absurd (show (true : Bool) = false from h) (by simp), fun _ => ⟨z, OutSn.set (j := 0) ho HN.out.symm HX.out (by omega) rfl (fun y => rfl)⟩, fun _ => hd4, fun _ => hd7⟩
    rintro a w3 ⟨v42, v43, v44, v45, v46, v47, v48, v49, v50, v51, v52, rfl, hb, g0, g1, g2, g3, g4, g5, g6, g7, g8, g9, g10, g11, g12, g13, g14⟩
    have e0 := g0 rfl
    subst e0
    have e1 := g1 rfl
    subst e1
    have e2 := g2 rfl
    subst e2
    have e3 := g3 rfl
    subst e3
    have e4 := g4 rfl
    subst e4
    have e5 := g5 rfl
    subst e5
    have e9 := g9 rfl
    subst e9
    have e10 := g10 rfl
    subst e10
    obtain ⟨z6, e6⟩ := g6 rfl
    subst e6
    obtain ⟨z7, e7⟩ := g7 rfl
    subst e7
    obtain ⟨z8, e8⟩ := g8 rfl
    subst e8
    obtain ⟨z, ho⟩ := g12 rfl
    have SX := Lib.hid ho.sl
    have BX := Lib.hid hb
    have SMX := Lib.hid (set_small (x' := ⟨z, x.seq, x.nid, x.l⟩) HSM.out HX.out rfl)
    have HLX := Lib.hid (show (H.set k ⟨z, x.seq, x.nid, x.l⟩).length ≤ 9 by rw [List.length_set, HN.out]; omega)
    clear g0 g1 g2 g3 g4 g5 g6 g7 g8 g9 g10 g11 g12 g13 g14 ho hb hgg
    obtain ⟨d0, hd0⟩ : ∃ d0 : World, d0 = w3 := ⟨_, rfl⟩
    rw [← hd0] at SX BX ⊢
    have SV0 := Lib.hid (SVS.out.below BX.out)
    have SR0 := Lib.hid (SRW.out.below BX.out)
    clear hd0
    have C1 := Lib.hid (chk_any (.slice (some ⟨g, 0, none⟩) n c) (H.set k ⟨z, x.seq, x.nid, x.l⟩) d0 SX.out SMX.out (by have := HLX.out; omega))
    obtain ⟨r1, hr1⟩ : ∃ r, chkV (H.set k ⟨z, x.seq, x.nid, x.l⟩) = r := ⟨_, rfl⟩
    have Hr1 := Lib.hid hr1
    clear hr1
    obtain ⟨e1, R1⟩ := r1
    rw [Hr1.out] at C1
    go_wp2_with fail
    refine C1.out.mono ?_
    rintro _ d1 ⟨w21, rfl, o1, b1⟩
    simp only at o1 ⊢
    have HSR1 := Lib.hid (show ∀ r ∈ R1, ∀ e ∈ r.add, e.small by have := chkV_small SMX.out; rw [Hr1.out] at this; exact this)
    obtain ⟨A21, k21, rfl, _, _⟩ := o1.form
    have T1 := Lib.hid (o1.sl HSR1.out)
    have q1 := Lib.hid b1
    clear o1 b1 C1
    have C2 := Lib.hid (rchk_any (.slice (some ⟨g, 0, none⟩) n c) (H.set k ⟨z, x.seq, x.nid, x.l⟩) d1 (SX.out.below q1.out) SMX.out (by have := HLX.out; omega))
    rw [Hr1.out] at C2
    go_wp2_with fail
    refine C2.out.mono ?_
    rintro _ d2 ⟨w22, rfl, o2, b2⟩
    simp only at o2 ⊢
    obtain ⟨A22, k22, rfl, _, _⟩ := o2.form
    have T2 := Lib.hid (o2.sl HSR1.out)
    have q2 := Lib.hid b2
    clear o2 b2 C2
    have C3 := Lib.hid (chk_any (.slice Av nv cv) (vs) d2 (SV0.out.below (bst q1.out q2.out)) HVS.out HVM.out)
    obtain ⟨r2, hr2⟩ : ∃ r, chkV (vs) = r := ⟨_, rfl⟩
    have Hr2 := Lib.hid hr2
    clear hr2
    obtain ⟨e2, R2⟩ := r2
    rw [Hr2.out] at C3
    go_wp2_with fail
    refine C3.out.mono ?_
    rintro _ d3 ⟨w23, rfl, o3, b3⟩
    simp only at o3 ⊢
    have HSR2 := Lib.hid (show ∀ r ∈ R2, ∀ e ∈ r.add, e.small by have := chkV_small HVS.out; rw [Hr2.out] at this; exact this)
    obtain ⟨A23, k23, rfl, _, _⟩ := o3.form
    have T3 := Lib.hid (o3.sl HSR2.out)
    have q3 := Lib.hid b3
    clear o3 b3 C3
    have C4 := Lib.hid (rchk_any (.slice Av nv cv) (vs) d3 (SV0.out.below (bst (bst q1.out q2.out) q3.out)) HVS.out HVM.out)
    rw [Hr2.out] at C4
    go_wp2_with fail
    refine C4.out.mono ?_
    rintro _ d4 ⟨w24, rfl, o4, b4⟩
    simp only at o4 ⊢
    obtain ⟨A24, k24, rfl, _, _⟩ := o4.form
    have T4 := Lib.hid (o4.sl HSR2.out)
    have q4 := Lib.hid b4
    clear o4 b4 C4
    have C5 := Lib.hid (hist_any (.slice Ar nr cr) (raw) d4 (SR0.out.below (bst (bst (bst q1.out q2.out) q3.out) q4.out)) HRM.out)
    obtain ⟨r3, hr3⟩ : ∃ r, histV (raw) = r := ⟨_, rfl⟩
    have Hr3 := Lib.hid hr3
    clear hr3
    obtain ⟨e3, S3⟩ := r3
    rw [Hr3.out] at C5
    go_wp2_with fail
    refine C5.out.mono ?_
    rintro _ d5 ⟨w25, rfl, o5, b5⟩
    simp only at o5 ⊢
    obtain ⟨A25, k25, rfl, _, _⟩ := o5.form
    have T5 := Lib.hid (o5.sl)
    have q5 := Lib.hid b5
    clear o5 b5 C5
    have C6 := Lib.hid (rhist_any (.slice Ar nr cr) (raw) d5 (SR0.out.below (bst (bst (bst (bst q1.out q2.out) q3.out) q4.out) q5.out)) HRM.out)
    rw [Hr3.out] at C6
    go_wp2_with fail
    refine C6.out.mono ?_
    rintro _ d6 ⟨w26, rfl, o6, b6⟩
    simp only at o6 ⊢
    obtain ⟨A26, k26, rfl, _, _⟩ := o6.form
    have T6 := Lib.hid (o6.sl)
    have q6 := Lib.hid b6
    clear o6 b6 C6
    have C7 := Lib.hid (hist_any (.slice A22 R1.length k22) (R1) d6 (T2.out.below (bst (bst (bst q3.out q4.out) q5.out) q6.out)) T2.out.max)
    obtain ⟨r4, hr4⟩ : ∃ r, histV (R1) = r := ⟨_, rfl⟩
    have Hr4 := Lib.hid hr4
    clear hr4
    obtain ⟨e4, S4⟩ := r4
    rw [Hr4.out] at C7
    go_wp2_with fail
    refine C7.out.mono ?_
    rintro _ d7 ⟨w27, rfl, o7, b7⟩
    simp only at o7 ⊢
    obtain ⟨A27, k27, rfl, _, _⟩ := o7.form
    have T7 := Lib.hid (o7.sl)
    have q7 := Lib.hid b7
    clear o7 b7 C7
    have C8 := Lib.hid (rhist_any (.slice A22 R1.length k22) (R1) d7 (T2.out.below (bst (bst (bst (bst q3.out q4.out) q5.out) q6.out) q7.out)) T2.out.max)
    rw [Hr4.out] at C8
    go_wp2_with fail
    refine C8.out.mono ?_
    rintro _ d8 ⟨w28, rfl, o8, b8⟩
    simp only at o8 ⊢
    obtain ⟨A28, k28, rfl, _, _⟩ := o8.form
    have T8 := Lib.hid (o8.sl)
    have q8 := Lib.hid b8
    clear o8 b8 C8
    go_wp2_with fail
    refine (awake20_any d8).mono ?_
    rintro _ d9 ⟨rfl, b9⟩
    have q9 := Lib.hid b9
    clear b9
    have C10 := Lib.hid (sameRcs_any _ _ _ d9 (T1.out.below (bst (bst (bst (bst (bst (bst (bst q2.out q3.out) q4.out) q5.out) q6.out) q7.out) q8.out) q9.out)) (T2.out.below (bst (bst (bst (bst (bst (bst q3.out q4.out) q5.out) q6.out) q7.out) q8.out) q9.out)))
    go_wp2_with fail
    refine C10.out.mono ?_
    rintro _ d10 ⟨rfl, b10⟩
    have q10 := Lib.hid b10
    clear b10 C10
    have C11 := Lib.hid (sameRcs_any _ _ _ d10 (T3.out.below (bst (bst (bst (bst (bst (bst q4.out q5.out) q6.out) q7.out) q8.out) q9.out) q10.out)) (T4.out.below (bst (bst (bst (bst (bst q5.out q6.out) q7.out) q8.out) q9.out) q10.out)))
    go_wp2_with fail
    refine C11.out.mono ?_
    rintro _ d11 ⟨rfl, b11⟩
    have q11 := Lib.hid b11
    clear b11 C11
    have C12 := Lib.hid (sameSns_any _ _ _ d11 (T5.out.below (bst (bst (bst (bst (bst q6.out q7.out) q8.out) q9.out) q10.out) q11.out)) (T6.out.below (bst (bst (bst (bst q7.out q8.out) q9.out) q10.out) q11.out)))
    go_wp2_with fail
    refine C12.out.mono ?_
    rintro _ d12 ⟨rfl, b12⟩
    have q12 := Lib.hid b12
    clear b12 C12
    have C13 := Lib.hid (sameSns_any _ _ _ d12 (T7.out.below (bst (bst (bst (bst q8.out q9.out) q10.out) q11.out) q12.out)) (T8.out.below (bst (bst (bst q9.out q10.out) q11.out) q12.out)))
    go_wp2_with fail
    refine C13.out.mono ?_
    rintro _ d13 ⟨rfl, b13⟩
    have q13 := Lib.hid b13
    clear b13 C13
    go_wp2
    go_ret
    exact RetBe.mk_ (by simp) (bst BX.out (bst (bst (bst (bst (bst (bst (bst (bst (bst (bst (bst (bst q1.out q2.out) q3.out) q4.out) q5.out) q6.out) q7.out) q8.out) q9.out) q10.out) q11.out) q12.out) q13.out))
  · go_upto_region 8 with (fail)
    refine wp_region_inv (by kernel_rfl) (by kernel_rfl) (fun L a w' => ∃ v55 v56 v57 v58 v59 v60 v61 v62 v63 v64 v65 : Value, a = ⟨#[.slice Ar nr cr, .slice Av nv cv, .slice Az xs.length cz, .int .i64 how, .int .i64 at_, undef, undef, undef, undef, undef, .bool false, .slice A1 n c1, .int .i64 k, .slice (some ⟨g, 0, none⟩) n c, undef, undef, undef, undef, undef, undef, undef, undef, undef, undef, undef, undef, undef, undef, undef, undef, .slice Az xs.length cz, .slice A1 n c1, .int .i64 at_, .slice A1 n c1, .int .i64 n, .int .i64 k, .slice A1 n c1, .slice (some ⟨g, 0, none⟩) n c, .int .i64 how, .int .i64 1, .bool false, .bool false, undef, undef, undef, undef, undef, undef, undef, undef, undef, undef, undef, .bool true, .bool true, v55, v56, v57, v58, v59, v60, v61, v62, v63, v64, v65, undef, undef, undef, undef, undef, undef, undef, undef, undef, undef, undef, undef, undef, undef, undef, undef, undef, undef, undef, undef, undef, undef, undef, undef, undef, undef, undef, undef, undef, undef, undef, undef, undef, undef, undef, undef, undef, undef, undef, undef, undef, undef, undef, undef, undef, undef, undef, undef, undef, undef, undef, undef, undef, undef, undef, undef, undef, undef, undef, undef, undef, undef, undef, undef, undef, undef, undef, undef, undef, undef, undef, undef, undef, undef, undef, undef, undef, undef, undef, undef, undef, undef, undef, undef, undef, undef, undef, undef, undef, undef, undef, undef, undef, undef, undef, undef, undef, undef, undef], []⟩ ∧
        Below w.heap.size w w' ∧ Got (L 0) v55 (.slice (some ⟨g, 0, none⟩) n c) ∧ Got (L 1) v56 (.int .i64 k) ∧ Got (L 2) v57 (.pointer (some ⟨g, k * 4, none⟩)) ∧ Got (L 3) v58 (.pointer (some ⟨g, k * 4 + 2, none⟩)) ∧ Got (L 4) v59 (.int .i64 x.nid) ∧ Got (L 5) v60 (.int .i64 how) ∧ (L 6 = true → ∃ z : Int, v61 = .int .i64 z) ∧ (L 7 = true → ∃ z : Int, v62 = .int .i64 z) ∧ (L 8 = true → ∃ z : Int, v63 = .int .i64 z) ∧ Got (L 9) v64 (.pointer (some ⟨g, k * 4, none⟩)) ∧ Got (L 10) v65 (.pointer (some ⟨g, k * 4 + 2, none⟩)) ∧ (L 11 = false → OutSn w1 w' (.slice (some ⟨g, 0, none⟩) n c) H) ∧ (L 11 = true → ∃ z : Int, OutSn w1 w' (.slice (some ⟨g, 0, none⟩) n c) (H.set k ⟨x.ver, x.seq, z, x.l⟩)) ∧ (L 11 = true → L 4 = true) ∧ (L 11 = true → L 7 = true))
      ?_ ?_ ?_
    · exact ⟨_, _, _, _, _, _, _, _, _, _, _, rfl, (below_drewN B2.out 1), nofun, nofun, nofun, nofun, nofun, nofun, nofun, nofun, nofun, nofun, nofun, fun _ => O2.out.drewN 1, nofun, nofun, nofun⟩
    · refine ⟨?_, ?_, ?_, ?_, ?_, ?_, ?_, ?_, ?_, ?_, ?_, ?_, trivial⟩
      · rintro L a w' ⟨v55, v56, v57, v58, v59, v60, v61, v62, v63, v64, v65, rfl, hb, g0, g1, g2, g3, g4, g5, g6, g7, g8, g9, g10, g11, g12, g13, g14⟩ hl hd K hK
        dsimp only at hK ⊢
        go_simp
        exact hK _ _ ⟨_, _, _, _, _, _, _, _, _, _, _, rfl, hb, fun _ => rfl, g1, g2, g3, g4, g5, g6, g7, g8, g9, g10, g11, g12, g13, g14⟩
      · rintro L a w' ⟨v55, v56, v57, v58, v59, v60, v61, v62, v63, v64, v65, rfl, hb, g0, g1, g2, g3, g4, g5, g6, g7, g8, g9, g10, g11, g12, g13, g14⟩ hl hd K hK
        dsimp only at hK ⊢
        go_simp
        exact hK _ _ ⟨_, _, _, _, _, _, _, _, _, _, _, rfl, hb, g0, fun _ => rfl, g2, g3, g4, g5, g6, g7, g8, g9, g10, g11, g12, g13, g14⟩
      · rintro L a w' ⟨v55, v56, v57, v58, v59, v60, v61, v62, v63, v64, v65, rfl, hb, g0, g1, g2, g3, g4, g5, g6, g7, g8, g9, g10, g11, g12, g13, g14⟩ hl hd K hK
        simp [Region.binds] at hd
        dsimp only at hK ⊢
        have e0 := g0 (by simp [hd])
        subst e0
        have e1 := g1 (by simp [hd])
        subst e1
        go_simp
        exact hK _ _ ⟨_, _, _, _, _, _, _, _, _, _, _, rfl, hb, g0, g1, fun _ => rfl, g3, g4, g5, g6, g7, g8, g9, g10, g11, g12, g13, g14⟩
      · rintro L a w' ⟨v55, v56, v57, v58, v59, v60, v61, v62, v63, v64, v65, rfl, hb, g0, g1, g2, g3, g4, g5, g6, g7, g8, g9, g10, g11, g12, g13, g14⟩ hl hd K hK
        simp [Region.binds] at hd
        dsimp only at hK ⊢
        have e2 := g2 (by simp [hd])
        subst e2
        go_simp
        exact hK _ _ ⟨_, _, _, _, _, _, _, _, _, _, _, rfl, hb, g0, g1, g2, fun _ => rfl, g4, g5, g6, g7, g8, g9, g10, g11, g12, g13, g14⟩
      · rintro L a w' ⟨v55, v56, v57, v58, v59, v60, v61, v62, v63, v64, v65, rfl, hb, g0, g1, g2, g3, g4, g5, g6, g7, g8, g9, g10, g11, g12, g13, g14⟩ hl hd K hK
        simp [Region.binds] at hd
        dsimp only at hK ⊢
        have e3 := g3 (by simp [hd])
        subst e3
        have h11 : L 11 = false := by
          cases h : L 11 with
          | false => rfl
          | true => have := g13 h; rw [hl] at this; cases this
        obtain ⟨k0, k1, k2⟩ := (g11 h11).at_ HN.out.symm HX.out
        go_simp
        exact hK _ _ ⟨_, _, _, _, _, _, _, _, _, _, _, rfl, hb, g0, g1, g2, g3, fun _ => rfl, g5, g6, g7, g8, g9, g10, g11, g12, fun _ => rfl, g14⟩
      · rintro L a w' ⟨v55, v56, v57, v58, v59, v60, v61, v62, v63, v64, v65, rfl, hb, g0, g1, g2, g3, g4, g5, g6, g7, g8, g9, g10, g11, g12, g13, g14⟩ hl hd K hK
        dsimp only at hK ⊢
        go_simp
        exact hK _ _ ⟨_, _, _, _, _, _, _, _, _, _, _, rfl, hb, g0, g1, g2, g3, g4, fun _ => rfl, g6, g7, g8, g9, g10, g11, g12, g13, g14⟩
      · rintro L a w' ⟨v55, v56, v57, v58, v59, v60, v61, v62, v63, v64, v65, rfl, hb, g0, g1, g2, g3, g4, g5, g6, g7, g8, g9, g10, g11, g12, g13, g14⟩ hl hd K hK
        simp [Region.binds] at hd
        dsimp only at hK ⊢
        have e5 := g5 (by simp [hd])
        subst e5
        go_simp
        exact hK _ _ ⟨_, _, _, _, _, _, _, _, _, _, _, rfl, hb, g0, g1, g2, g3, g4, g5, fun _ => ⟨_, rfl⟩, g7, g8, g9, g10, g11, g12, g13, g14⟩
      · rintro L a w' ⟨v55, v56, v57, v58, v59, v60, v61, v62, v63, v64, v65, rfl, hb, g0, g1, g2, g3, g4, g5, g6, g7, g8, g9, g10, g11, g12, g13, g14⟩ hl hd K hK
        simp [Region.binds] at hd
        dsimp only at hK ⊢
        obtain ⟨z, hz⟩ := g6 (by simp [hd])
        subst hz
        have h11 : L 11 = false := by
          cases h : L 11 with
          | false => rfl
          | true => have := g14 h; rw [hl] at this; cases this
        go_wp2_with fail
        refine (pick_any z 4 w' (by omega) (by omega)).mono ?_
        rintro _ _ ⟨rfl, rfl⟩
        exact hK _ _ ⟨_, _, _, _, _, _, _, _, _, _, _, rfl, hb, g0, g1, g2, g3, g4, g5, g6, fun _ => ⟨_, rfl⟩, g8, g9, g10, g11, g12, g13, fun _ => rfl⟩
      · rintro L a w' ⟨v55, v56, v57, v58, v59, v60, v61, v62, v63, v64, v65, rfl, hb, g0, g1, g2, g3, g4, g5, g6, g7, g8, g9, g10, g11, g12, g13, g14⟩ hl hd K hK
        simp [Region.binds] at hd
        dsimp only at hK ⊢
        have e4 := g4 (by simp [hd])
        subst e4
        obtain ⟨z, hz⟩ := g7 (by simp [hd])
        subst hz
        go_simp
        exact hK _ _ ⟨_, _, _, _, _, _, _, _, _, _, _, rfl, hb, g0, g1, g2, g3, g4, g5, g6, g7, fun _ => ⟨_, rfl⟩, g9, g10, g11, g12, g13, g14⟩
      · rintro L a w' ⟨v55, v56, v57, v58, v59, v60, v61, v62, v63, v64, v65, rfl, hb, g0, g1, g2, g3, g4, g5, g6, g7, g8, g9, g10, g11, g12, g13, g14⟩ hl hd K hK
        simp [Region.binds] at hd
        dsimp only at hK ⊢
        have e0 := g0 (by simp [hd])
        subst e0
        have e1 := g1 (by simp [hd])
        subst e1
        go_simp
        exact hK _ _ ⟨_, _, _, _, _, _, _, _, _, _, _, rfl, hb, g0, g1, g2, g3, g4, g5, g6, g7, g8, fun _ => rfl, g10, g11, g12, g13, g14⟩
      · rintro L a w' ⟨v55, v56, v57, v58, v59, v60, v61, v62, v63, v64, v65, rfl, hb, g0, g1, g2, g3, g4, g5, g6, g7, g8, g9, g10, g11, g12, g13, g14⟩ hl hd K hK
        simp [Region.binds] at hd
        dsimp only at hK ⊢
        have e9 := g9 (by simp [hd])
        subst e9
        go_simp
        exact hK _ _ ⟨_, _, _, _, _, _, _, _, _, _, _, rfl, hb, g0, g1, g2, g3, g4, g5, g6, g7, g8, g9, fun _ => rfl, g11, g12, g13, g14⟩
      · rintro L a w' ⟨v55, v56, v57, v58, v59, v60, v61, v62, v63, v64, v65, rfl, hb, g0, g1, g2, g3, g4, g5, g6, g7, g8, g9, g10, g11, g12, g13, g14⟩ hl hd K hK
        simp [Region.binds] at hd
        dsimp only at hK ⊢
        have e10 := g10 (by simp [hd])
        subst e10
        obtain ⟨z, hz⟩ := g8 (by simp [hd])
        subst hz
        have ho := g11 hl
        have hd4 : L 4 = true := by simp [hd]
        have hd7 : L 7 = true := by simp [hd]
        have hfz := ho.froz (k * 4 + 2)
        obtain ⟨k0, k1, k2⟩ := ho.at_ HN.out.symm HX.out
        have hlt := ho.lt_
        go_simp
        exact hK _ _ ⟨_, _, _, _, _, _, _, _, _, _, _, rfl, below_row hb (grownBy_set w' ⟨g, k * 4 + 2, none⟩ _) HG.out hb.size, g0, g1, g2, g3, g4, g5, g6, g7, g8, g9, g10, fun h => absurd (show (true : Bool) = false from h) (by simp), fun _ => ⟨z, OutSn.set (j := 2) ho HN.out.symm HX.out (by omega) rfl (fun y => rfl)⟩, fun _ => hd4, fun _ => hd7⟩
    rintro a w3 ⟨v55, v56, v57, v58, v59, v60, v61, v62, v63, v64, v65, rfl, hb, g0, g1, g2, g3, g4, g5, g6, g7, g8, g9, g10, g11, g12, g13, g14⟩
    have e0 := g0 rfl
    subst e0
    have e1 := g1 rfl
    subst e1
    have e2 := g2 rfl
    subst e2
    have e3 := g3 rfl
    subst e3
    have e4 := g4 rfl
    subst e4
    have e5 := g5 rfl
    subst e5
    have e9 := g9 rfl
    subst e9
    have e10 := g10 rfl
    subst e10
    obtain ⟨z6, e6⟩ := g6 rfl
    subst e6
    obtain ⟨z7, e7⟩ := g7 rfl
    subst e7
    obtain ⟨z8, e8⟩ := g8 rfl
    subst e8
    obtain ⟨z, ho⟩ := g12 rfl
    have SX := Lib.hid ho.sl
    have BX := Lib.hid hb
    have SMX := Lib.hid (set_small (x' := ⟨x.ver, x.seq, z, x.l⟩) HSM.out HX.out rfl)
    have HLX := Lib.hid (show (H.set k ⟨x.ver, x.seq, z, x.l⟩).length ≤ 9 by rw [List.length_set, HN.out]; omega)
    clear g0 g1 g2 g3 g4 g5 g6 g7 g8 g9 g10 g11 g12 g13 g14 ho hb hgg
    obtain ⟨d0, hd0⟩ : ∃ d0 : World, d0 = w3 := ⟨_, rfl⟩
    rw [← hd0] at SX BX ⊢
    have SV0 := Lib.hid (SVS.out.below BX.out)
    have SR0 := Lib.hid (SRW.out.below BX.out)
    clear hd0
    have C1 := Lib.hid (chk_any (.slice (some ⟨g, 0, none⟩) n c) (H.set k ⟨x.ver, x.seq, z, x.l⟩) d0 SX.out SMX.out (by have := HLX.out; omega))
    obtain ⟨r1, hr1⟩ : ∃ r, chkV (H.set k ⟨x.ver, x.seq, z, x.l⟩) = r := ⟨_, rfl⟩
    have Hr1 := Lib.hid hr1
    clear hr1
    obtain ⟨e1, R1⟩ := r1
    rw [Hr1.out] at C1
    go_wp2_with fail
    refine C1.out.mono ?_
    rintro _ d1 ⟨w21, rfl, o1, b1⟩
    simp only at o1 ⊢
    have HSR1 := Lib.hid (show ∀ r ∈ R1, ∀ e ∈ r.add, e.small by have := chkV_small SMX.out; rw [Hr1.out] at this; exact this)
    obtain ⟨A21, k21, rfl, _, _⟩ := o1.form
    have T1 := Lib.hid (o1.sl HSR1.out)
    have q1 := Lib.hid b1
    clear o1 b1 C1
    have C2 := Lib.hid (rchk_any (.slice (some ⟨g, 0, none⟩) n c) (H.set k ⟨x.ver, x.seq, z, x.l⟩) d1 (SX.out.below q1.out) SMX.out (by have := HLX.out; omega))
    rw [Hr1.out] at C2
    go_wp2_with fail
    refine C2.out.mono ?_
    rintro _ d2 ⟨w22, rfl, o2, b2⟩
    simp only at o2 ⊢
    obtain ⟨A22, k22, rfl, _, _⟩ := o2.form
    have T2 := Lib.hid (o2.sl HSR1.out)
    have q2 := Lib.hid b2
    clear o2 b2 C2
    have C3 := Lib.hid (chk_any (.slice Av nv cv) (vs) d2 (SV0.out.below (bst q1.out q2.out)) HVS.out HVM.out)
    obtain ⟨r2, hr2⟩ : ∃ r, chkV (vs) = r := ⟨_, rfl⟩
    have Hr2 := Lib.hid hr2
    clear hr2
    obtain ⟨e2, R2⟩ := r2
    rw [Hr2.out] at C3
    go_wp2_with fail
    refine C3.out.mono ?_
    rintro _ d3 ⟨w23, rfl, o3, b3⟩
    simp only at o3 ⊢
    have HSR2 := Lib.hid (show ∀ r ∈ R2, ∀ e ∈ r.add, e.small by have := chkV_small HVS.out; rw [Hr2.out] at this; exact this)
    obtain ⟨A23, k23, rfl, _, _⟩ := o3.form
    have T3 := Lib.hid (o3.sl HSR2.out)
    have q3 := Lib.hid b3
    clear o3 b3 C3
    have C4 := Lib.hid (rchk_any (.slice Av nv cv) (vs) d3 (SV0.out.below (bst (bst q1.out q2.out) q3.out)) HVS.out HVM.out)
    rw [Hr2.out] at C4
    go_wp2_with fail
    refine C4.out.mono ?_
    rintro _ d4 ⟨w24, rfl, o4, b4⟩
    simp only at o4 ⊢
    obtain ⟨A24, k24, rfl, _, _⟩ := o4.form
    have T4 := Lib.hid (o4.sl HSR2.out)
    have q4 := Lib.hid b4
    clear o4 b4 C4
    have C5 := Lib.hid (hist_any (.slice Ar nr cr) (raw) d4 (SR0.out.below (bst (bst (bst q1.out q2.out) q3.out) q4.out)) HRM.out)
    obtain ⟨r3, hr3⟩ : ∃ r, histV (raw) = r := ⟨_, rfl⟩
    have Hr3 := Lib.hid hr3
    clear hr3
    obtain ⟨e3, S3⟩ := r3
    rw [Hr3.out] at C5
    go_wp2_with fail
    refine C5.out.mono ?_
    rintro _ d5 ⟨w25, rfl, o5, b5⟩
    simp only at o5 ⊢
    obtain ⟨A25, k25, rfl, _, _⟩ := o5.form
    have T5 := Lib.hid (o5.sl)
    have q5 := Lib.hid b5
    clear o5 b5 C5
    have C6 := Lib.hid (rhist_any (.slice Ar nr cr) (raw) d5 (SR0.out.below (bst (bst (bst (bst q1.out q2.out) q3.out) q4.out) q5.out)) HRM.out)
    rw [Hr3.out] at C6
    go_wp2_with fail
    refine C6.out.mono ?_
    rintro _ d6 ⟨w26, rfl, o6, b6⟩
    simp only at o6 ⊢
    obtain ⟨A26, k26, rfl, _, _⟩ := o6.form
    have T6 := Lib.hid (o6.sl)
    have q6 := Lib.hid b6
    clear o6 b6 C6
    have C7 := Lib.hid (hist_any (.slice A22 R1.length k22) (R1) d6 (T2.out.below (bst (bst (bst q3.out q4.out) q5.out) q6.out)) T2.out.max)
    obtain ⟨r4, hr4⟩ : ∃ r, histV (R1) = r := ⟨_, rfl⟩
    have Hr4 := Lib.hid hr4
    clear hr4
    obtain ⟨e4, S4⟩ := r4
    rw [Hr4.out] at C7
    go_wp2_with fail
    refine C7.out.mono ?_
    rintro _ d7 ⟨w27, rfl, o7, b7⟩
    simp only at o7 ⊢
    obtain ⟨A27, k27, rfl, _, _⟩ := o7.form
    have T7 := Lib.hid (o7.sl)
    have q7 := Lib.hid b7
    clear o7 b7 C7
    have C8 := Lib.hid (rhist_any (.slice A22 R1.length k22) (R1) d7 (T2.out.below (bst (bst (bst (bst q3.out q4.out) q5.out) q6.out) q7.out)) T2.out.max)
    rw [Hr4.out] at C8
    go_wp2_with fail
    refine C8.out.mono ?_
    rintro _ d8 ⟨w28, rfl, o8, b8⟩
    simp only at o8 ⊢
    obtain ⟨A28, k28, rfl, _, _⟩ := o8.form
    have T8 := Lib.hid (o8.sl)
    have q8 := Lib.hid b8
    clear o8 b8 C8
    go_wp2_with fail
    refine (awake20_any d8).mono ?_
    rintro _ d9 ⟨rfl, b9⟩
    have q9 := Lib.hid b9
    clear b9
    have C10 := Lib.hid (sameRcs_any _ _ _ d9 (T1.out.below (bst (bst (bst (bst (bst (bst (bst q2.out q3.out) q4.out) q5.out) q6.out) q7.out) q8.out) q9.out)) (T2.out.below (bst (bst (bst (bst (bst (bst q3.out q4.out) q5.out) q6.out) q7.out) q8.out) q9.out)))
    go_wp2_with fail
    refine C10.out.mono ?_
    rintro _ d10 ⟨rfl, b10⟩
    have q10 := Lib.hid b10
    clear b10 C10
    have C11 := Lib.hid (sameRcs_any _ _ _ d10 (T3.out.below (bst (bst (bst (bst (bst (bst q4.out q5.out) q6.out) q7.out) q8.out) q9.out) q10.out)) (T4.out.below (bst (bst (bst (bst (bst q5.out q6.out) q7.out) q8.out) q9.out) q10.out)))
    go_wp2_with fail
    refine C11.out.mono ?_
    rintro _ d11 ⟨rfl, b11⟩
    have q11 := Lib.hid b11
    clear b11 C11
    have C12 := Lib.hid (sameSns_any _ _ _ d11 (T5.out.below (bst (bst (bst (bst (bst q6.out q7.out) q8.out) q9.out) q10.out) q11.out)) (T6.out.below (bst (bst (bst (bst q7.out q8.out) q9.out) q10.out) q11.out)))
    go_wp2_with fail
    refine C12.out.mono ?_
    rintro _ d12 ⟨rfl, b12⟩
    have q12 := Lib.hid b12
    clear b12 C12
    have C13 := Lib.hid (sameSns_any _ _ _ d12 (T7.out.below (bst (bst (bst (bst q8.out q9.out) q10.out) q11.out) q12.out)) (T8.out.below (bst (bst (bst q9.out q10.out) q11.out) q12.out)))
    go_wp2_with fail
    refine C13.out.mono ?_
    rintro _ d13 ⟨rfl, b13⟩
    have q13 := Lib.hid b13
    clear b13 C13
    go_wp2
    go_ret
    exact RetBe.mk_ (by simp) (bst BX.out (bst (bst (bst (bst (bst (bst (bst (bst (bst (bst (bst (bst q1.out q2.out) q3.out) q4.out) q5.out) q6.out) q7.out) q8.out) q9.out) q10.out) q11.out) q12.out) q13.out))
  · go_upto_region 10 with (fail)
    refine wp_region_inv (by kernel_rfl) (by kernel_rfl) (fun L a w' => ∃ v68 v69 v70 v71 v72 v73 v74 v75 v76 v77 v78 : Value, a = ⟨#[.slice Ar nr cr, .slice Av nv cv, .slice Az xs.length cz, .int .i64 how, .int .i64 at_, undef, undef, undef, undef, undef, .bool false, .slice A1 n c1, .int .i64 k, .slice (some ⟨g, 0, none⟩) n c, undef, undef, undef, undef, undef, undef, undef, undef, undef, undef, undef, undef, undef, undef, undef, undef, .slice Az xs.length cz, .slice A1 n c1, .int .i64 at_, .slice A1 n c1, .int .i64 n, .int .i64 k, .slice A1 n c1, .slice (some ⟨g, 0, none⟩) n c, .int .i64 how, .int .i64 2, .bool false, .bool false, undef, undef, undef, undef, undef, undef, undef, undef, undef, undef, undef, .bool false, .bool false, undef, undef, undef, undef, undef, undef, undef, undef, undef, undef, undef, .bool true, .bool true, v68, v69, v70, v71, v72, v73, v74, v75, v76, v77, v78, undef, undef, undef, undef, undef, undef, undef, undef, undef, undef, undef, undef, undef, undef, undef, undef, undef, undef, undef, undef, undef, undef, undef, undef, undef, undef, undef, undef, undef, undef, undef, undef, undef, undef, undef, undef, undef, undef, undef, undef, undef, undef, undef, undef, undef, undef, undef, undef, undef, undef, undef, undef, undef, undef, undef, undef, undef, undef, undef, undef, undef, undef, undef, undef, undef, undef, undef, undef, undef, undef, undef, undef, undef, undef, undef, undef, undef, undef, undef, undef, undef, undef, undef, undef, undef, undef], []⟩ ∧
        Below w.heap.size w w' ∧ Got (L 0) v68 (.slice (some ⟨g, 0, none⟩) n c) ∧ Got (L 1) v69 (.int .i64 k) ∧ Got (L 2) v70 (.pointer (some ⟨g, k * 4, none⟩)) ∧ Got (L 3) v71 (.pointer (some ⟨g, k * 4 + 1, none⟩)) ∧ Got (L 4) v72 (.int .i64 x.seq) ∧ Got (L 5) v73 (.int .i64 how) ∧ (L 6 = true → ∃ z : Int, v74 = .int .i64 z) ∧ (L 7 = true → ∃ z : Int, v75 = .int .i64 z) ∧ (L 8 = true → ∃ z : Int, v76 = .int .i64 z) ∧ Got (L 9) v77 (.pointer (some ⟨g, k * 4, none⟩)) ∧ Got (L 10) v78 (.pointer (some ⟨g, k * 4 + 1, none⟩)) ∧ (L 11 = false → OutSn w1 w' (.slice (some ⟨g, 0, none⟩) n c) H) ∧ (L 11 = true → ∃ z : Int, OutSn w1 w' (.slice (some ⟨g, 0, none⟩) n c) (H.set k ⟨x.ver, z, x.nid, x.l⟩)) ∧ (L 11 = true → L 4 = true) ∧ (L 11 = true → L 7 = true))
      ?_ ?_ ?_
    · exact ⟨_, _, _, _, _, _, _, _, _, _, _, rfl, (below_drewN B2.out 1), nofun, nofun, nofun, nofun, nofun, nofun, nofun, nofun, nofun, nofun, nofun, fun _ => O2.out.drewN 1, nofun, nofun, nofun⟩
    · refine ⟨?_, ?_, ?_, ?_, ?_, ?_, ?_, ?_, ?_, ?_, ?_, ?_, trivial⟩
      · rintro L a w' ⟨v68, v69, v70, v71, v72, v73, v74, v75, v76, v77, v78, rfl, hb, g0, g1, g2, g3, g4, g5, g6, g7, g8, g9, g10, g11, g12, g13, g14⟩ hl hd K hK
        dsimp only at hK ⊢
        go_simp
        exact hK _ _ ⟨_, _, _, _, _, _, _, _, _, _, _, rfl, hb, fun _ => rfl, g1, g2, g3, g4, g5, g6, g7, g8, g9, g10, g11, g12, g13, g14⟩
      · rintro L a w' ⟨v68, v69, v70, v71, v72, v73, v74, v75, v76, v77, v78, rfl, hb, g0, g1, g2, g3, g4, g5, g6, g7, g8, g9, g10, g11, g12, g13, g14⟩ hl hd K hK
        dsimp only at hK ⊢
        go_simp
        exact hK _ _ ⟨_, _, _, _, _, _, _, _, _, _, _, rfl, hb, g0, fun _ => rfl, g2, g3, g4, g5, g6, g7, g8, g9, g10, g11, g12, g13, g14⟩
      · rintro L a w' ⟨v68, v69, v70, v71, v72, v73, v74, v75, v76, v77, v78, rfl, hb, g0, g1, g2, g3, g4, g5, g6, g7, g8, g9, g10, g11, g12, g13, g14⟩ hl hd K hK
        simp [Region.binds] at hd
        dsimp only at hK ⊢
        have e0 := g0 (by simp [hd])
        subst e0
        have e1 := g1 (by simp [hd])
        subst e1
        go_simp
        exact hK _ _ ⟨_, _, _, _, _, _, _, _, _, _, _, rfl, hb, g0, g1, fun _ => rfl, g3, g4, g5, g6, g7, g8, g9, g10, g11, g12, g13, g14⟩
      · rintro L a w' ⟨v68, v69, v70, v71, v72, v73, v74, v75, v76, v77, v78, rfl, hb, g0, g1, g2, g3, g4, g5, g6, g7, g8, g9, g10, g11, g12, g13, g14⟩ hl hd K hK
        simp [Region.binds] at hd
        dsimp only at hK ⊢
        have e2 := g2 (by simp [hd])
        subst e2
        go_simp
        exact hK _ _ ⟨_, _, _, _, _, _, _, _, _, _, _, rfl, hb, g0, g1, g2, fun _ => rfl, g4, g5, g6, g7, g8, g9, g10, g11, g12, g13, g14⟩
      · rintro L a w' ⟨v68, v69, v70, v71, v72, v73, v74, v75, v76, v77, v78, rfl, hb, g0, g1, g2, g3, g4, g5, g6, g7, g8, g9, g10, g11, g12, g13, g14⟩ hl hd K hK
        simp [Region.binds] at hd
        dsimp only at hK ⊢
        have e3 := g3 (by simp [hd])
        subst e3
        have h11 : L 11 = false := by
          cases h : L 11 with
          | false => rfl
          | true => have := g13 h; rw [hl] at this; cases this
        obtain ⟨k0, k1, k2⟩ := (g11 h11).at_ HN.out.symm HX.out
        go_simp
        exact hK _ _ ⟨_, _, _, _, _, _, _, _, _, _, _, rfl, hb, g0, g1, g2, g3, fun _ => rfl, g5, g6, g7, g8, g9, g10, g11, g12, fun _ => rfl, g14⟩
      · rintro L a w' ⟨v68, v69, v70, v71, v72, v73, v74, v75, v76, v77, v78, rfl, hb, g0, g1, g2, g3, g4, g5, g6, g7, g8, g9, g10, g11, g12, g13, g14⟩ hl hd K hK
        dsimp only at hK ⊢
        go_simp
        exact hK _ _ ⟨_, _, _, _, _, _, _, _, _, _, _, rfl, hb, g0, g1, g2, g3, g4, fun _ => rfl, g6, g7, g8, g9, g10, g11, g12, g13, g14⟩
      · rintro L a w' ⟨v68, v69, v70, v71, v72, v73, v74, v75, v76, v77, v78, rfl, hb, g0, g1, g2, g3, g4, g5, g6, g7, g8, g9, g10, g11, g12, g13, g14⟩ hl hd K hK
        simp [Region.binds] at hd
        dsimp only at hK ⊢
        have e5 := g5 (by simp [hd])
        subst e5
        go_simp
        exact hK _ _ ⟨_, _, _, _, _, _, _, _, _, _, _, rfl, hb, g0, g1, g2, g3, g4, g5, fun _ => ⟨_, rfl⟩, g7, g8, g9, g10, g11, g12, g13, g14⟩
      · rintro L a w' ⟨v68, v69, v70, v71, v72, v73, v74, v75, v76, v77, v78, rfl, hb, g0, g1, g2, g3, g4, g5, g6, g7, g8, g9, g10, g11, g12, g13, g14⟩ hl hd K hK
        simp [Region.binds] at hd
        dsimp only at hK ⊢
        obtain ⟨z, hz⟩ := g6 (by simp [hd])
        subst hz
        have h11 : L 11 = false := by
          cases h : L 11 with
          | false => rfl
          | true => have := g14 h; rw [hl] at this; cases this
        go_wp2_with fail
        refine (pick_any z 3 w' (by omega) (by omega)).mono ?_
        rintro _ _ ⟨rfl, rfl⟩
        exact hK _ _ ⟨_, _, _, _, _, _, _, _, _, _, _, rfl, hb, g0, g1, g2, g3, g4, g5, g6, fun _ => ⟨_, rfl⟩, g8, g9, g10, g11, g12, g13, fun _ => rfl⟩
      · rintro L a w' ⟨v68, v69, v70, v71, v72, v73, v74, v75, v76, v77, v78, rfl, hb, g0, g1, g2, g3, g4, g5, g6, g7, g8, g9, g10, g11, g12, g13, g14⟩ hl hd K hK
        simp [Region.binds] at hd
        dsimp only at hK ⊢
        have e4 := g4 (by simp [hd])
        subst e4
        obtain ⟨z, hz⟩ := g7 (by simp [hd])
        subst hz
        go_simp
        exact hK _ _ ⟨_, _, _, _, _, _, _, _, _, _, _, rfl, hb, g0, g1, g2, g3, g4, g5, g6, g7, fun _ => ⟨_, rfl⟩, g9, g10, g11, g12, g13, g14⟩
      · rintro L a w' ⟨v68, v69, v70, v71, v72, v73, v74, v75, v76, v77, v78, rfl, hb, g0, g1, g2, g3, g4, g5, g6, g7, g8, g9, g10, g11, g12, g13, g14⟩ hl hd K hK
        simp [Region.binds] at hd
        dsimp only at hK ⊢
        have e0 := g0 (by simp [hd])
        subst e0
        have e1 := g1 (by simp [hd])
        subst e1
        go_simp
        exact hK _ _ ⟨_, _, _, _, _, _, _, _, _, _, _, rfl, hb, g0, g1, g2, g3, g4, g5, g6, g7, g8, fun _ => rfl, g10, g11, g12, g13, g14⟩
      · rintro L a w' ⟨v68, v69, v70, v71, v72, v73, v74, v75, v76, v77, v78, rfl, hb, g0, g1, g2, g3, g4, g5, g6, g7, g8, g9, g10, g11, g12, g13, g14⟩ hl hd K hK
        simp [Region.binds] at hd
        dsimp only at hK ⊢
        have e9 := g9 (by simp [hd])
        subst e9
        go_simp
        exact hK _ _ ⟨_, _, _, _, _, _, _, _, _, _, _, rfl, hb, g0, g1, g2, g3, g4, g5, g6, g7, g8, g9, fun _ => rfl, g11, g12, g13, g14⟩
      · rintro L a w' ⟨v68, v69, v70, v71, v72, v73, v74, v75, v76, v77, v78, rfl, hb, g0, g1, g2, g3, g4, g5, g6, g7, g8, g9, g10, g11, g12, g13, g14⟩ hl hd K hK
        simp [Region.binds] at hd
        dsimp only at hK ⊢
        have e10 := g10 (by simp [hd])
        subst e10
        obtain ⟨z, hz⟩ := g8 (by simp [hd])
        subst hz
        have ho := g11 hl
        have hd4 : L 4 = true := by simp [hd]
        have hd7 : L 7 = true := by simp [hd]
        have hfz := ho.froz (k * 4 + 1)
        obtain ⟨k0, k1, k2⟩ := ho.at_ HN.out.symm HX.out
        have hlt := ho.lt_
        go_simp
        exact hK _ _ ⟨_, _, _, _, _, _, _, _, _, _, _, rfl, below_row hb (grownBy_set w' ⟨g, k * 4 + 1, none⟩ _) HG.out hb.size, g0, g1, g2, g3, g4, g5, g6, g7, g8, g9, g10, fun h => absurd (show (true : Bool) = false from h) (by simp), fun _ => ⟨z, OutSn.set (j := 1) ho HN.out.symm HX.out (by omega) rfl (fun y => rfl)⟩, fun _ => hd4, fun _ => hd7⟩
    rintro a w3 ⟨v68, v69, v70, v71, v72, v73, v74, v75, v76, v77, v78, rfl, hb, g0, g1, g2, g3, g4, g5, g6, g7, g8, g9, g10, g11, g12, g13, g14⟩
    have e0 := g0 rfl
    subst e0
    have e1 := g1 rfl
    subst e1
    have e2 := g2 rfl
    subst e2
    have e3 := g3 rfl
    subst e3
    have e4 := g4 rfl
    subst e4
    have e5 := g5 rfl
    subst e5
    have e9 := g9 rfl
    subst e9
    have e10 := g10 rfl
    subst e10
    obtain ⟨z6, e6⟩ := g6 rfl
    subst e6
    obtain ⟨z7, e7⟩ := g7 rfl
    subst e7
    obtain ⟨z8, e8⟩ := g8 rfl
    subst e8
    obtain ⟨z, ho⟩ := g12 rfl
    have SX := Lib.hid ho.sl
    have BX := Lib.hid hb
    have SMX := Lib.hid (set_small (x' := ⟨x.ver, z, x.nid, x.l⟩) HSM.out HX.out rfl)
    have HLX := Lib.hid (show (H.set k ⟨x.ver, z, x.nid, x.l⟩).length ≤ 9 by rw [List.length_set, HN.out]; omega)
    clear g0 g1 g2 g3 g4 g5 g6 g7 g8 g9 g10 g11 g12 g13 g14 ho hb hgg
    obtain ⟨d0, hd0⟩ : ∃ d0 : World, d0 = w3 := ⟨_, rfl⟩
    rw [← hd0] at SX BX ⊢
    have SV0 := Lib.hid (SVS.out.below BX.out)
    have SR0 := Lib.hid (SRW.out.below BX.out)
    clear hd0
    have C1 := Lib.hid (chk_any (.slice (some ⟨g, 0, none⟩) n c) (H.set k ⟨x.ver, z, x.nid, x.l⟩) d0 SX.out SMX.out (by have := HLX.out; omega))
    obtain ⟨r1, hr1⟩ : ∃ r, chkV (H.set k ⟨x.ver, z, x.nid, x.l⟩) = r := ⟨_, rfl⟩
    have Hr1 := Lib.hid hr1
    clear hr1
    obtain ⟨e1, R1⟩ := r1
    rw [Hr1.out] at C1
    go_wp2_with fail
    refine C1.out.mono ?_
    rintro _ d1 ⟨w21, rfl, o1, b1⟩
    simp only at o1 ⊢
    have HSR1 := Lib.hid (show ∀ r ∈ R1, ∀ e ∈ r.add, e.small by have := chkV_small SMX.out; rw [Hr1.out] at this; exact this)
    obtain ⟨A21, k21, rfl, _, _⟩ := o1.form
    have T1 := Lib.hid (o1.sl HSR1.out)
    have q1 := Lib.hid b1
    clear o1 b1 C1
    have C2 := Lib.hid (rchk_any (.slice (some ⟨g, 0, none⟩) n c) (H.set k ⟨x.ver, z, x.nid, x.l⟩) d1 (SX.out.below q1.out) SMX.out (by have := HLX.out; omega))
    rw [Hr1.out] at C2
    go_wp2_with fail
    refine C2.out.mono ?_
    rintro _ d2 ⟨w22, rfl, o2, b2⟩
    simp only at o2 ⊢
    obtain ⟨A22, k22, rfl, _, _⟩ := o2.form
    have T2 := Lib.hid (o2.sl HSR1.out)
    have q2 := Lib.hid b2
    clear o2 b2 C2
    have C3 := Lib.hid (chk_any (.slice Av nv cv) (vs) d2 (SV0.out.below (bst q1.out q2.out)) HVS.out HVM.out)
    obtain ⟨r2, hr2⟩ : ∃ r, chkV (vs) = r := ⟨_, rfl⟩
    have Hr2 := Lib.hid hr2
    clear hr2
    obtain ⟨e2, R2⟩ := r2
    rw [Hr2.out] at C3
    go_wp2_with fail
    refine C3.out.mono ?_
    rintro _ d3 ⟨w23, rfl, o3, b3⟩
    simp only at o3 ⊢
    have HSR2 := Lib.hid (show ∀ r ∈ R2, ∀ e ∈ r.add, e.small by have := chkV_small HVS.out; rw [Hr2.out] at this; exact this)
    obtain ⟨A23, k23, rfl, _, _⟩ := o3.form
    have T3 := Lib.hid (o3.sl HSR2.out)
    have q3 := Lib.hid b3
    clear o3 b3 C3
    have C4 := Lib.hid (rchk_any (.slice Av nv cv) (vs) d3 (SV0.out.below (bst (bst q1.out q2.out) q3.out)) HVS.out HVM.out)
    rw [Hr2.out] at C4
    go_wp2_with fail
    refine C4.out.mono ?_
    rintro _ d4 ⟨w24, rfl, o4, b4⟩
    simp only at o4 ⊢
    obtain ⟨A24, k24, rfl, _, _⟩ := o4.form
    have T4 := Lib.hid (o4.sl HSR2.out)
    have q4 := Lib.hid b4
    clear o4 b4 C4
    have C5 := Lib.hid (hist_any (.slice Ar nr cr) (raw) d4 (SR0.out.below (bst (bst (bst q1.out q2.out) q3.out) q4.out)) HRM.out)
    obtain ⟨r3, hr3⟩ : ∃ r, histV (raw) = r := ⟨_, rfl⟩
    have Hr3 := Lib.hid hr3
    clear hr3
    obtain ⟨e3, S3⟩ := r3
    rw [Hr3.out] at C5
    go_wp2_with fail
    refine C5.out.mono ?_
    rintro _ d5 ⟨w25, rfl, o5, b5⟩
    simp only at o5 ⊢
    obtain ⟨A25, k25, rfl, _, _⟩ := o5.form
    have T5 := Lib.hid (o5.sl)
    have q5 := Lib.hid b5
    clear o5 b5 C5
    have C6 := Lib.hid (rhist_any (.slice Ar nr cr) (raw) d5 (SR0.out.below (bst (bst (bst (bst q1.out q2.out) q3.out) q4.out) q5.out)) HRM.out)
    rw [Hr3.out] at C6
    go_wp2_with fail
    refine C6.out.mono ?_
    rintro _ d6 ⟨w26, rfl, o6, b6⟩
    simp only at o6 ⊢
    obtain ⟨A26, k26, rfl, _, _⟩ := o6.form
    have T6 := Lib.hid (o6.sl)
    have q6 := Lib.hid b6
    clear o6 b6 C6
    have C7 := Lib.hid (hist_any (.slice A22 R1.length k22) (R1) d6 (T2.out.below (bst (bst (bst q3.out q4.out) q5.out) q6.out)) T2.out.max)
    obtain ⟨r4, hr4⟩ : ∃ r, histV (R1) = r := ⟨_, rfl⟩
    have Hr4 := Lib.hid hr4
    clear hr4
    obtain ⟨e4, S4⟩ := r4
    rw [Hr4.out] at C7
    go_wp2_with fail
    refine C7.out.mono ?_
    rintro _ d7 ⟨w27, rfl, o7, b7⟩
    simp only at o7 ⊢
    obtain ⟨A27, k27, rfl, _, _⟩ := o7.form
    have T7 := Lib.hid (o7.sl)
    have q7 := Lib.hid b7
    clear o7 b7 C7
    have C8 := Lib.hid (rhist_any (.slice A22 R1.length k22) (R1) d7 (T2.out.below (bst (bst (bst (bst q3.out q4.out) q5.out) q6.out) q7.out)) T2.out.max)
    rw [Hr4.out] at C8
    go_wp2_with fail
    refine C8.out.mono ?_
    rintro _ d8 ⟨w28, rfl, o8, b8⟩
    simp only at o8 ⊢
    obtain ⟨A28, k28, rfl, _, _⟩ := o8.form
    have T8 := Lib.hid (o8.sl)
    have q8 := Lib.hid b8
    clear o8 b8 C8
    go_wp2_with fail
    refine (awake20_any d8).mono ?_
    rintro _ d9 ⟨rfl, b9⟩
    have q9 := Lib.hid b9
    clear b9
    have C10 := Lib.hid (sameRcs_any _ _ _ d9 (T1.out.below (bst (bst (bst (bst (bst (bst (bst q2.out q3.out) q4.out) q5.out) q6.out) q7.out) q8.out) q9.out)) (T2.out.below (bst (bst (bst (bst (bst (bst q3.out q4.out) q5.out) q6.out) q7.out) q8.out) q9.out)))
    go_wp2_with fail
    refine C10.out.mono ?_
    rintro _ d10 ⟨rfl, b10⟩
    have q10 := Lib.hid b10
    clear b10 C10
    have C11 := Lib.hid (sameRcs_any _ _ _ d10 (T3.out.below (bst (bst (bst (bst (bst (bst q4.out q5.out) q6.out) q7.out) q8.out) q9.out) q10.out)) (T4.out.below (bst (bst (bst (bst (bst q5.out q6.out) q7.out) q8.out) q9.out) q10.out)))
    go_wp2_with fail
    refine C11.out.mono ?_
    rintro _ d11 ⟨rfl, b11⟩
    have q11 := Lib.hid b11
    clear b11 C11
    have C12 := Lib.hid (sameSns_any _ _ _ d11 (T5.out.below (bst (bst (bst (bst (bst q6.out q7.out) q8.out) q9.out) q10.out) q11.out)) (T6.out.below (bst (bst (bst (bst q7.out q8.out) q9.out) q10.out) q11.out)))
    go_wp2_with fail
    refine C12.out.mono ?_
    rintro _ d12 ⟨rfl, b12⟩
    have q12 := Lib.hid b12
    clear b12 C12
    have C13 := Lib.hid (sameSns_any _ _ _ d12 (T7.out.below (bst (bst (bst (bst q8.out q9.out) q10.out) q11.out) q12.out)) (T8.out.below (bst (bst (bst q9.out q10.out) q11.out) q12.out)))
    go_wp2_with fail
    refine C13.out.mono ?_
    rintro _ d13 ⟨rfl, b13⟩
    have q13 := Lib.hid b13
    clear b13 C13
    go_wp2
    go_ret
    exact RetBe.mk_ (by simp) (bst BX.out (bst (bst (bst (bst (bst (bst (bst (bst (bst (bst (bst (bst q1.out q2.out) q3.out) q4.out) q5.out) q6.out) q7.out) q8.out) q9.out) q10.out) q11.out) q12.out) q13.out))
  · have hnck : ¬ c = k := by omega
    have SX := Lib.hid (O2.out.back HN.out.symm hkn hc1)
    have BX := B2
    have SMX := Lib.hid (show ∀ s ∈ H.drop k, ∀ e ∈ s.l, e.small from fun s hs => HSM.out s (List.mem_of_mem_drop hs))
    have HLX := Lib.hid (show (H.drop k).length ≤ 9 by rw [List.length_drop, HN.out]; omega)
    have hk0 : (0 : Int) ≤ (k : Int) := by omega
    have hkn2 : (k : Int) ≤ (n : Int) := by omega
    go_upto_region 13 with (fail)
    obtain ⟨d0, hd0⟩ : ∃ d0 : World, d0 = w2 := ⟨_, rfl⟩
    rw [← hd0] at SX BX ⊢
    have SV0 := Lib.hid (SVS.out.below BX.out)
    have SR0 := Lib.hid (SRW.out.below BX.out)
    clear hd0
    have C1 := Lib.hid (chk_any (.slice (some ⟨g, k * 4, none⟩) (n - k) (c - k)) (H.drop k) d0 SX.out SMX.out (by have := HLX.out; omega))
    obtain ⟨r1, hr1⟩ : ∃ r, chkV (H.drop k) = r := ⟨_, rfl⟩
    have Hr1 := Lib.hid hr1
    clear hr1
    obtain ⟨e1, R1⟩ := r1
    rw [Hr1.out] at C1
    go_wp2_with fail
    refine C1.out.mono ?_
    rintro _ d1 ⟨w21, rfl, o1, b1⟩
    simp only at o1 ⊢
    have HSR1 := Lib.hid (show ∀ r ∈ R1, ∀ e ∈ r.add, e.small by have := chkV_small SMX.out; rw [Hr1.out] at this; exact this)
    obtain ⟨A21, k21, rfl, _, _⟩ := o1.form
    have T1 := Lib.hid (o1.sl HSR1.out)
    have q1 := Lib.hid b1
    clear o1 b1 C1
    have C2 := Lib.hid (rchk_any (.slice (some ⟨g, k * 4, none⟩) (n - k) (c - k)) (H.drop k) d1 (SX.out.below q1.out) SMX.out (by have := HLX.out; omega))
    rw [Hr1.out] at C2
    go_wp2_with fail
    refine C2.out.mono ?_
    rintro _ d2 ⟨w22, rfl, o2, b2⟩
    simp only at o2 ⊢
    obtain ⟨A22, k22, rfl, _, _⟩ := o2.form
    have T2 := Lib.hid (o2.sl HSR1.out)
    have q2 := Lib.hid b2
    clear o2 b2 C2
    have C3 := Lib.hid (chk_any (.slice Av nv cv) (vs) d2 (SV0.out.below (bst q1.out q2.out)) HVS.out HVM.out)
    obtain ⟨r2, hr2⟩ : ∃ r, chkV (vs) = r := ⟨_, rfl⟩
    have Hr2 := Lib.hid hr2
    clear hr2
    obtain ⟨e2, R2⟩ := r2
    rw [Hr2.out] at C3
    go_wp2_with fail
    refine C3.out.mono ?_
    rintro _ d3 ⟨w23, rfl, o3, b3⟩
    simp only at o3 ⊢
    have HSR2 := Lib.hid (show ∀ r ∈ R2, ∀ e ∈ r.add, e.small by have := chkV_small HVS.out; rw [Hr2.out] at this; exact this)
    obtain ⟨A23, k23, rfl, _, _⟩ := o3.form
    have T3 := Lib.hid (o3.sl HSR2.out)
    have q3 := Lib.hid b3
    clear o3 b3 C3
    have C4 := Lib.hid (rchk_any (.slice Av nv cv) (vs) d3 (SV0.out.below (bst (bst q1.out q2.out) q3.out)) HVS.out HVM.out)
    rw [Hr2.out] at C4
    go_wp2_with fail
    refine C4.out.mono ?_
    rintro _ d4 ⟨w24, rfl, o4, b4⟩
    simp only at o4 ⊢
    obtain ⟨A24, k24, rfl, _, _⟩ := o4.form
    have T4 := Lib.hid (o4.sl HSR2.out)
    have q4 := Lib.hid b4
    clear o4 b4 C4
    have C5 := Lib.hid (hist_any (.slice Ar nr cr) (raw) d4 (SR0.out.below (bst (bst (bst q1.out q2.out) q3.out) q4.out)) HRM.out)
    obtain ⟨r3, hr3⟩ : ∃ r, histV (raw) = r := ⟨_, rfl⟩
    have Hr3 := Lib.hid hr3
    clear hr3
    obtain ⟨e3, S3⟩ := r3
    rw [Hr3.out] at C5
    go_wp2_with fail
    refine C5.out.mono ?_
    rintro _ d5 ⟨w25, rfl, o5, b5⟩
    simp only at o5 ⊢
    obtain ⟨A25, k25, rfl, _, _⟩ := o5.form
    have T5 := Lib.hid (o5.sl)
    have q5 := Lib.hid b5
    clear o5 b5 C5
    have C6 := Lib.hid (rhist_any (.slice Ar nr cr) (raw) d5 (SR0.out.below (bst (bst (bst (bst q1.out q2.out) q3.out) q4.out) q5.out)) HRM.out)
    rw [Hr3.out] at C6
    go_wp2_with fail
    refine C6.out.mono ?_
    rintro _ d6 ⟨w26, rfl, o6, b6⟩
    simp only at o6 ⊢
    obtain ⟨A26, k26, rfl, _, _⟩ := o6.form
    have T6 := Lib.hid (o6.sl)
    have q6 := Lib.hid b6
    clear o6 b6 C6
    have C7 := Lib.hid (hist_any (.slice A22 R1.length k22) (R1) d6 (T2.out.below (bst (bst (bst q3.out q4.out) q5.out) q6.out)) T2.out.max)
    obtain ⟨r4, hr4⟩ : ∃ r, histV (R1) = r := ⟨_, rfl⟩
    have Hr4 := Lib.hid hr4
    clear hr4
    obtain ⟨e4, S4⟩ := r4
    rw [Hr4.out] at C7
    go_wp2_with fail
    refine C7.out.mono ?_
    rintro _ d7 ⟨w27, rfl, o7, b7⟩
    simp only at o7 ⊢
    obtain ⟨A27, k27, rfl, _, _⟩ := o7.form
    have T7 := Lib.hid (o7.sl)
    have q7 := Lib.hid b7
    clear o7 b7 C7
    have C8 := Lib.hid (rhist_any (.slice A22 R1.length k22) (R1) d7 (T2.out.below (bst (bst (bst (bst q3.out q4.out) q5.out) q6.out) q7.out)) T2.out.max)
    rw [Hr4.out] at C8
    go_wp2_with fail
    refine C8.out.mono ?_
    rintro _ d8 ⟨w28, rfl, o8, b8⟩
    simp only at o8 ⊢
    obtain ⟨A28, k28, rfl, _, _⟩ := o8.form
    have T8 := Lib.hid (o8.sl)
    have q8 := Lib.hid b8
    clear o8 b8 C8
    go_wp2_with fail
    refine (awake20_any d8).mono ?_
    rintro _ d9 ⟨rfl, b9⟩
    have q9 := Lib.hid b9
    clear b9
    have C10 := Lib.hid (sameRcs_any _ _ _ d9 (T1.out.below (bst (bst (bst (bst (bst (bst (bst q2.out q3.out) q4.out) q5.out) q6.out) q7.out) q8.out) q9.out)) (T2.out.below (bst (bst (bst (bst (bst (bst q3.out q4.out) q5.out) q6.out) q7.out) q8.out) q9.out)))
    go_wp2_with fail
    refine C10.out.mono ?_
    rintro _ d10 ⟨rfl, b10⟩
    have q10 := Lib.hid b10
    clear b10 C10
    have C11 := Lib.hid (sameRcs_any _ _ _ d10 (T3.out.below (bst (bst (bst (bst (bst (bst q4.out q5.out) q6.out) q7.out) q8.out) q9.out) q10.out)) (T4.out.below (bst (bst (bst (bst (bst q5.out q6.out) q7.out) q8.out) q9.out) q10.out)))
    go_wp2_with fail
    refine C11.out.mono ?_
    rintro _ d11 ⟨rfl, b11⟩
    have q11 := Lib.hid b11
    clear b11 C11
    have C12 := Lib.hid (sameSns_any _ _ _ d11 (T5.out.below (bst (bst (bst (bst (bst q6.out q7.out) q8.out) q9.out) q10.out) q11.out)) (T6.out.below (bst (bst (bst (bst q7.out q8.out) q9.out) q10.out) q11.out)))
    go_wp2_with fail
    refine C12.out.mono ?_
    rintro _ d12 ⟨rfl, b12⟩
    have q12 := Lib.hid b12
    clear b12 C12
    have C13 := Lib.hid (sameSns_any _ _ _ d12 (T7.out.below (bst (bst (bst (bst q8.out q9.out) q10.out) q11.out) q12.out)) (T8.out.below (bst (bst (bst q9.out q10.out) q11.out) q12.out)))
    go_wp2_with fail
    refine C13.out.mono ?_
    rintro _ d13 ⟨rfl, b13⟩
    have q13 := Lib.hid b13
    clear b13 C13
    go_wp2
    go_ret
    exact RetBe.mk_ (by simp) (bst BX.out (bst (bst (bst (bst (bst (bst (bst (bst (bst (bst (bst (bst q1.out q2.out) q3.out) q4.out) q5.out) q6.out) q7.out) q8.out) q9.out) q10.out) q11.out) q12.out) q13.out))
  · have SX := Lib.hid O2.out.sl
    have BX := B2
    have SMX := HSM
    have HLX := Lib.hid (show H.length ≤ 9 by rw [HN.out]; omega)
    go_upto_region 13 with (fail)
    obtain ⟨d0, hd0⟩ : ∃ d0 : World, d0 = w2 := ⟨_, rfl⟩
    rw [← hd0] at SX BX ⊢
    have SV0 := Lib.hid (SVS.out.below BX.out)
    have SR0 := Lib.hid (SRW.out.below BX.out)
    clear hd0
    have C1 := Lib.hid (chk_any (.slice (some ⟨g, 0, none⟩) n c) (H) d0 SX.out SMX.out (by have := HLX.out; omega))
    obtain ⟨r1, hr1⟩ : ∃ r, chkV (H) = r := ⟨_, rfl⟩
    have Hr1 := Lib.hid hr1
    clear hr1
    obtain ⟨e1, R1⟩ := r1
    rw [Hr1.out] at C1
    go_wp2_with fail
    refine C1.out.mono ?_
    rintro _ d1 ⟨w21, rfl, o1, b1⟩
    simp only at o1 ⊢
    have HSR1 := Lib.hid (show ∀ r ∈ R1, ∀ e ∈ r.add, e.small by have := chkV_small SMX.out; rw [Hr1.out] at this; exact this)
    obtain ⟨A21, k21, rfl, _, _⟩ := o1.form
    have T1 := Lib.hid (o1.sl HSR1.out)
    have q1 := Lib.hid b1
    clear o1 b1 C1
    have C2 := Lib.hid (rchk_any (.slice (some ⟨g, 0, none⟩) n c) (H) d1 (SX.out.below q1.out) SMX.out (by have := HLX.out; omega))
    rw [Hr1.out] at C2
    go_wp2_with fail
    refine C2.out.mono ?_
    rintro _ d2 ⟨w22, rfl, o2, b2⟩
    simp only at o2 ⊢
    obtain ⟨A22, k22, rfl, _, _⟩ := o2.form
    have T2 := Lib.hid (o2.sl HSR1.out)
    have q2 := Lib.hid b2
    clear o2 b2 C2
    have C3 := Lib.hid (chk_any (.slice Av nv cv) (vs) d2 (SV0.out.below (bst q1.out q2.out)) HVS.out HVM.out)
    obtain ⟨r2, hr2⟩ : ∃ r, chkV (vs) = r := ⟨_, rfl⟩
    have Hr2 := Lib.hid hr2
    clear hr2
    obtain ⟨e2, R2⟩ := r2
    rw [Hr2.out] at C3
    go_wp2_with fail
    refine C3.out.mono ?_
    rintro _ d3 ⟨w23, rfl, o3, b3⟩
    simp only at o3 ⊢
    have HSR2 := Lib.hid (show ∀ r ∈ R2, ∀ e ∈ r.add, e.small by have := chkV_small HVS.out; rw [Hr2.out] at this; exact this)
    obtain ⟨A23, k23, rfl, _, _⟩ := o3.form
    have T3 := Lib.hid (o3.sl HSR2.out)
    have q3 := Lib.hid b3
    clear o3 b3 C3
    have C4 := Lib.hid (rchk_any (.slice Av nv cv) (vs) d3 (SV0.out.below (bst (bst q1.out q2.out) q3.out)) HVS.out HVM.out)
    rw [Hr2.out] at C4
    go_wp2_with fail
    refine C4.out.mono ?_
    rintro _ d4 ⟨w24, rfl, o4, b4⟩
    simp only at o4 ⊢
    obtain ⟨A24, k24, rfl, _, _⟩ := o4.form
    have T4 := Lib.hid (o4.sl HSR2.out)
    have q4 := Lib.hid b4
    clear o4 b4 C4
    have C5 := Lib.hid (hist_any (.slice Ar nr cr) (raw) d4 (SR0.out.below (bst (bst (bst q1.out q2.out) q3.out) q4.out)) HRM.out)
    obtain ⟨r3, hr3⟩ : ∃ r, histV (raw) = r := ⟨_, rfl⟩
    have Hr3 := Lib.hid hr3
    clear hr3
    obtain ⟨e3, S3⟩ := r3
    rw [Hr3.out] at C5
    go_wp2_with fail
    refine C5.out.mono ?_
    rintro _ d5 ⟨w25, rfl, o5, b5⟩
    simp only at o5 ⊢
    obtain ⟨A25, k25, rfl, _, _⟩ := o5.form
    have T5 := Lib.hid (o5.sl)
    have q5 := Lib.hid b5
    clear o5 b5 C5
    have C6 := Lib.hid (rhist_any (.slice Ar nr cr) (raw) d5 (SR0.out.below (bst (bst (bst (bst q1.out q2.out) q3.out) q4.out) q5.out)) HRM.out)
    rw [Hr3.out] at C6
    go_wp2_with fail
    refine C6.out.mono ?_
    rintro _ d6 ⟨w26, rfl, o6, b6⟩
    simp only at o6 ⊢
    obtain ⟨A26, k26, rfl, _, _⟩ := o6.form
    have T6 := Lib.hid (o6.sl)
    have q6 := Lib.hid b6
    clear o6 b6 C6
    have C7 := Lib.hid (hist_any (.slice A22 R1.length k22) (R1) d6 (T2.out.below (bst (bst (bst q3.out q4.out) q5.out) q6.out)) T2.out.max)
    obtain ⟨r4, hr4⟩ : ∃ r, histV (R1) = r := ⟨_, rfl⟩
    have Hr4 := Lib.hid hr4
    clear hr4
    obtain ⟨e4, S4⟩ := r4
    rw [Hr4.out] at C7
    go_wp2_with fail
    refine C7.out.mono ?_
    rintro _ d7 ⟨w27, rfl, o7, b7⟩
    simp only at o7 ⊢
    obtain ⟨A27, k27, rfl, _, _⟩ := o7.form
    have T7 := Lib.hid (o7.sl)
    have q7 := Lib.hid b7
    clear o7 b7 C7
    have C8 := Lib.hid (rhist_any (.slice A22 R1.length k22) (R1) d7 (T2.out.below (bst (bst (bst (bst q3.out q4.out) q5.out) q6.out) q7.out)) T2.out.max)
    rw [Hr4.out] at C8
    go_wp2_with fail
    refine C8.out.mono ?_
    rintro _ d8 ⟨w28, rfl, o8, b8⟩
    simp only at o8 ⊢
    obtain ⟨A28, k28, rfl, _, _⟩ := o8.form
    have T8 := Lib.hid (o8.sl)
    have q8 := Lib.hid b8
    clear o8 b8 C8
    go_wp2_with fail
    refine (awake20_any d8).mono ?_
    rintro _ d9 ⟨rfl, b9⟩
    have q9 := Lib.hid b9
    clear b9
    have C10 := Lib.hid (sameRcs_any _ _ _ d9 (T1.out.below (bst (bst (bst (bst (bst (bst (bst q2.out q3.out) q4.out) q5.out) q6.out) q7.out) q8.out) q9.out)) (T2.out.below (bst (bst (bst (bst (bst (bst q3.out q4.out) q5.out) q6.out) q7.out) q8.out) q9.out)))
    go_wp2_with fail
    refine C10.out.mono ?_
    rintro _ d10 ⟨rfl, b10⟩
    have q10 := Lib.hid b10
    clear b10 C10
    have C11 := Lib.hid (sameRcs_any _ _ _ d10 (T3.out.below (bst (bst (bst (bst (bst (bst q4.out q5.out) q6.out) q7.out) q8.out) q9.out) q10.out)) (T4.out.below (bst (bst (bst (bst (bst q5.out q6.out) q7.out) q8.out) q9.out) q10.out)))
    go_wp2_with fail
    refine C11.out.mono ?_
    rintro _ d11 ⟨rfl, b11⟩
    have q11 := Lib.hid b11
    clear b11 C11
    have C12 := Lib.hid (sameSns_any _ _ _ d11 (T5.out.below (bst (bst (bst (bst (bst q6.out q7.out) q8.out) q9.out) q10.out) q11.out)) (T6.out.below (bst (bst (bst (bst q7.out q8.out) q9.out) q10.out) q11.out)))
    go_wp2_with fail
    refine C12.out.mono ?_
    rintro _ d12 ⟨rfl, b12⟩
    have q12 := Lib.hid b12
    clear b12 C12
    have C13 := Lib.hid (sameSns_any _ _ _ d12 (T7.out.below (bst (bst (bst (bst q8.out q9.out) q10.out) q11.out) q12.out)) (T8.out.below (bst (bst (bst q9.out q10.out) q11.out) q12.out)))
    go_wp2_with fail
    refine C13.out.mono ?_
    rintro _ d13 ⟨rfl, b13⟩
    have q13 := Lib.hid b13
    clear b13 C13
    go_wp2
    go_ret
    exact RetBe.mk_ (by simp) (bst BX.out (bst (bst (bst (bst (bst (bst (bst (bst (bst (bst (bst (bst q1.out q2.out) q3.out) q4.out) q5.out) q6.out) q7.out) q8.out) q9.out) q10.out) q11.out) q12.out) q13.out))
end Go.Proofs.Ytoikgjhekemjdaa
