/-
  The walk of the law SnapshotHistoryErrors.
-/
import Derived.Test.YtoikgjhekemjdaaRecSet
import Derived.Test.YtoikgjhekemjdaaLHist
import Derived.Test.YtoikgjhekemjdaaRChk
import Derived.Test.YtoikgjhekemjdaaHist
import Derived.Test.YtoikgjhekemjdaaRHist
import Derived.Test.YtoikgjhekemjdaaSames
namespace Go.Proofs.Ytoikgjhekemjdaa
open Go.RowKit Go.Sort
set_option maxRecDepth 100000 in
set_option maxHeartbeats 8000000 in
theorem snapshotHistoryErrors_walk (z1 : Value) (xs : List Int) (how at_ v : Int) (w : World)
    (hz : Sl w 1 z1 xs.length (ints xs)) (hzl : xs.length ≤ 9223372036854775807) (hzr : ∀ x ∈ xs, -9223372036854775808 ≤ x ∧ x ≤ 9223372036854775807) :
    Calls Try.prog 6 #[z1, .int .i64 how, .int .i64 at_, .int .i64 v] w (RetBe w true) := by
  obtain ⟨Az, cz, rfl, _, _⟩ := hz.form
  have HH := Lib.hid (lhist_any _ xs w hz hzl hzr)
  clear hz hzl hzr
  go_enter Try.func6, Try.ntmps6
  go_wp2_with fail
  refine HH.out.mono ?_
  rintro _ w1 ⟨v1, s, h, rfl, ho1, hk, hb1⟩
  clear HH
  have HCK := Lib.hid (rchk_any _ (s :: h) w1 ho1.sl hk.small (by have := hk.len; simp; omega))
  obtain ⟨r, hr1, hr2, hr3⟩ := hist_chk hk.ok hk.chain
  have HRS := chkV_small hk.small
  rw [hr1] at HCK HRS
  have HRM := Lib.hid (show ∀ x ∈ r, ∀ e ∈ x.add, e.small from HRS)
  have hl8 : r.length ≤ 8 := by have := hk.len; omega
  have hl0 : 0 < r.length := by omega
  have HRL := Lib.hid (show ∀ x ∈ r, x.rem.length ≤ 1000000 by
    have := chkV_rem (fun t ht => ?_) (show (chkV (s :: h)).2 = r by rw [hr1])
    · exact this
    · obtain ⟨j, hj, e⟩ := List.mem_iff_getElem.1 ht
      exact len_ok' (chain_at hk.ok hk.chain (show (s :: h)[j]? = some t by rw [List.getElem?_eq_getElem hj, e])))
  have B1 := Lib.hid hb1
  clear ho1 hb1 HRS hr1 hr2 hr3 hk
  go_wp2_with fail
  refine HCK.out.mono ?_
  rintro _ w2 ⟨v2, rfl, ho2, hb2⟩
  clear HCK
  simp only at ho2
  obtain ⟨g, c, rfl, hg1, hg2⟩ := ho2.form2 hl0
  obtain ⟨_, _, e2, hc1, hc2⟩ := ho2.form
  cases e2
  unfold maxLen at hc2
  have HG := Lib.hid (show w.heap.size ≤ g from Nat.le_trans B1.out.size hg1)
  have HG2 := Lib.hid hg2
  have B2 := Lib.hid (bst B1.out hb2)
  obtain ⟨n, hn⟩ : ∃ n, r.length = n := ⟨_, rfl⟩
  have HN := Lib.hid hn
  rw [hn] at hl8 hl0 hc1 ho2 ⊢
  have O2 := Lib.hid (ho2.mono (base' := w.heap.size) B1.out.size)
  clear ho2 hb2 hn hg1 hg2
  obtain ⟨k, hk⟩ : ∃ k : Nat, pick at_ n = k := ⟨(pick at_ n).toNat, by have := pick_lo at_ n (by omega); omega⟩
  have hkn : k < n := by have := pick_hi at_ n (by omega); omega
  have HP := Lib.hid (pick_any at_ n w2 (by omega) (by omega))
  rw [hk] at HP
  clear hk
  obtain ⟨m, hm⟩ : ∃ m, pick how 5 = m := ⟨_, rfl⟩
  have hm0 : 0 ≤ m := by rw [← hm]; exact pick_lo _ _ (by omega)
  have hm1 : m < 5 := by rw [← hm]; exact pick_hi _ _ (by omega)
  have HP5 := Lib.hid (pick_any how 5 w2 (by omega) (by omega))
  rw [hm] at HP5
  clear hm
  obtain ⟨x, hx⟩ : ∃ x, r[k]? = some x := ⟨_, List.getElem?_eq_getElem (by rw [HN.out]; exact hkn)⟩
  have HX := Lib.hid hx
  clear hx
  go_wp2_with fail
  refine HP.out.mono ?_
  rintro _ _ ⟨rfl, rfl⟩
  go_wp2_with fail
  refine HP5.out.mono ?_
  rintro _ _ ⟨rfl, rfl⟩
  clear HP HP5
  obtain ⟨_, q0, va, vr, p0, e0, hx0, hp0, hRA, hRO⟩ := (O2.out.sl HRM.out).load (k := k) HN.out.symm hkn
  cases e0
  have ex : q0 = x := by have := HX.out; rw [hx0] at this; injection this
  subst ex
  rw [Addr.add_lit, Nat.zero_add] at hp0
  subst hp0
  obtain ⟨hplt, c0, c1, c2, c3, c4, c5⟩ := hRA
  obtain ⟨hra, hrr, hrs⟩ := hRO
  obtain ⟨AA, cA, rfl, _, _⟩ := hra.form
  obtain ⟨AR, cR, rfl, _, hR2⟩ := hrr.form
  have HRR := Lib.hid hrr
  have HX2 := Lib.hid (HRL.out q0 (List.mem_of_getElem? HX.out))
  clear hra hrr hrs hx0
  dsimp only at c0 c1 c2 c3 c4 c5 hplt
  have hgg : g < w2.heap.size := HG2.out
  have hkz : (k : Int) < (n : Int) := by omega
  rcases (show m = 0 ∨ m = 1 ∨ m = 2 ∨ m = 3 ∨ m = 4 by omega) with rfl | rfl | rfl | rfl | rfl
  · have hf0 : w2.frozen? ⟨g, 0, none⟩ = false := O2.out.froz 0
    obtain ⟨us, e1, e2, e3⟩ := O2.out
    have HFR := Lib.hid (Sl.front (Sl.of_own (HN.out ▸ e2)) (show k ≤ n by omega))
    have HBK := Lib.hid (Sl.back (k := k + 1) (Sl.of_own (HN.out ▸ e2)) (show k + 1 ≤ n by omega))
    rw [rcds_take k e1 (by rw [HN.out]; omega)] at HFR
    rw [rcds_drop (k + 1) e1 (by rw [HN.out]; omega)] at HBK
    obtain ⟨xs1, hxs1⟩ : ∃ xs1, rcds (r.take k) (us.take k) = xs1 := ⟨_, rfl⟩
    obtain ⟨xs2, hxs2⟩ : ∃ xs2, rcds (r.drop (k + 1)) (us.drop (k + 1)) = xs2 := ⟨_, rfl⟩
    have hone : ∀ u ∈ us, u.1.oneCell' = true ∧ u.2.oneCell' = true := fun u hu => by
      obtain ⟨j, hj, e⟩ := List.mem_iff_getElem.1 hu
      obtain ⟨q1, q2⟩ := e3 j _ u (List.getElem?_eq_getElem (show j < r.length by omega)) (by rw [List.getElem?_eq_getElem hj, e])
      obtain ⟨A1, c1, f1, _⟩ := (Sl.of_own q1).form
      obtain ⟨A2, c2, f2, _⟩ := (Sl.of_own q2).form
      rw [f1, f2]; exact ⟨rfl, rfl⟩
    have HO1 := Lib.hid (show ∀ y ∈ xs1, y.oneCell' = true by rw [← hxs1]; exact one_rcds _ _ fun u hu => hone u (List.mem_of_mem_take hu))
    have HO2 := Lib.hid (show ∀ y ∈ xs2, y.oneCell' = true by rw [← hxs2]; exact one_rcds _ _ fun u hu => hone u (List.mem_of_mem_drop hu))
    rw [hxs1] at HFR
    rw [hxs2] at HBK
    have HX1 := Lib.hid hxs1
    have HX2b := Lib.hid hxs2
    have E1 := Lib.hid e1
    have E3 := Lib.hid e3
    obtain ⟨AX, hAX⟩ : ∃ AX, (if c = k + 1 then (some ⟨g, 0, none⟩ : Option Addr) else some ⟨g, (k + 1) * 6, none⟩) = AX := ⟨_, rfl⟩
    rw [hAX] at HBK
    have HKN := Lib.hid hkn
    clear e1 e2 e3 hxs1 hxs2 hone
    go_upto_region 6 with (fail)
    refine wp_region_inv (by kernel_rfl) (by kernel_rfl) (fun L a w' => ∃ v45 v46 v47 v48 v49 v50 v51 v52 v53 v9 : Value, a = ⟨#[.slice Az xs.length cz, .int .i64 how, .int .i64 at_, .int .i64 v, undef, undef, undef, undef, .bool false, v9, .int .i64 0, .int .i64 k, undef, undef, undef, undef, .tuple #[.slice (some ⟨g, 0, none⟩) n c, .int .i64 0], .slice Az xs.length cz, v1, .tuple #[.slice (some ⟨g, 0, none⟩) n c, .int .i64 0], .slice (some ⟨g, 0, none⟩) n c, .int .i64 0, .int .i64 at_, .slice (some ⟨g, 0, none⟩) n c, .int .i64 n, .int .i64 k, .int .i64 how, .int .i64 0, undef, undef, undef, undef, undef, undef, undef, undef, undef, undef, undef, undef, undef, undef, undef, .bool true, .bool true, v45, v46, v47, v48, v49, v50, v51, v52, v53, undef, undef, undef, undef, undef, undef, undef, undef, undef, undef, undef, undef, undef, undef, undef, undef, undef, undef, undef, undef, undef, undef, undef, undef, undef, undef, undef, undef, undef, undef, undef, undef, undef, undef, undef, undef, undef, undef, undef, undef, undef, undef, undef, undef, undef, undef, undef, undef, undef, undef, undef, undef, undef, undef, undef], []⟩ ∧
        Below w2.heap.size w2 w' ∧ Got (L 0) v45 (.slice (some ⟨g, 0, none⟩) n c) ∧ Got (L 1) v46 (.int .i64 k) ∧ Got (L 2) v47 (.slice (some ⟨g, 0, none⟩) k c) ∧ (L 3 = true → L 8 = false → w'.ownsRow w2.heap.size 38 6 v48 k xs1) ∧ Got (L 4) v49 (.slice (some ⟨g, 0, none⟩) n c) ∧ Got (L 5) v50 (.int .i64 k) ∧ Got (L 6) v51 (.int .i64 ((k : Int) + 1)) ∧ Got (L 7) v52 (.slice AX (n - (k + 1)) (c - (k + 1))) ∧ (L 8 = true → w'.ownsRow w2.heap.size 38 6 v53 (k + (n - (k + 1))) (xs1 ++ xs2)) ∧ (L 9 = true → v9 = v53) ∧ (L 9 = false → v9 = .slice (some ⟨g, 0, none⟩) n c) ∧ (L 9 = true → L 0 = true ∧ L 4 = true ∧ L 8 = true) ∧ (L 8 = true → L 3 = true))
      ?_ ?_ ?_
    · exact ⟨_, _, _, _, _, _, _, _, _, .slice (some ⟨g, 0, none⟩) n c, rfl, (Below.refl _ _).drew, nofun, nofun, nofun, nofun, nofun, nofun, nofun, nofun, nofun, nofun, fun _ => rfl, nofun, nofun⟩
    · refine ⟨?_, ?_, ?_, ?_, ?_, ?_, ?_, ?_, ?_, ?_, trivial⟩
      · rintro L a w' ⟨v45, v46, v47, v48, v49, v50, v51, v52, v53, v9, rfl, hb, g0, g1, g2, g3, g4, g5, g6, g7, g8, g9, g10, g11, g12⟩ hl hd K hK
        dsimp only at hK ⊢
        have h9 : L 9 = false := by
          cases h : L 9 with
          | false => rfl
          | true => have := (g11 h).1; rw [hl] at this; cases this
        have e9 := g10 h9
        subst e9
        go_simp
        exact hK _ _ ⟨_, _, _, _, _, _, _, _, _, _, rfl, hb, fun _ => rfl, g1, g2, g3, g4, g5, g6, g7, g8, g9, g10, fun h => ⟨rfl, (g11 h).2⟩, g12⟩
      · rintro L a w' ⟨v45, v46, v47, v48, v49, v50, v51, v52, v53, v9, rfl, hb, g0, g1, g2, g3, g4, g5, g6, g7, g8, g9, g10, g11, g12⟩ hl hd K hK
        dsimp only at hK ⊢
        go_simp
        exact hK _ _ ⟨_, _, _, _, _, _, _, _, _, _, rfl, hb, g0, fun _ => rfl, g2, g3, g4, g5, g6, g7, g8, g9, g10, g11, g12⟩
      · rintro L a w' ⟨v45, v46, v47, v48, v49, v50, v51, v52, v53, v9, rfl, hb, g0, g1, g2, g3, g4, g5, g6, g7, g8, g9, g10, g11, g12⟩ hl hd K hK
        simp [Region.binds] at hd
        dsimp only at hK ⊢
        have e0 := g0 (by simp [hd])
        subst e0
        have e1 := g1 (by simp [hd])
        subst e1
        have hkc : (k : Int) ≤ (c : Int) := by omega
        go_simp
        exact hK _ _ ⟨_, _, _, _, _, _, _, _, _, _, rfl, hb, g0, g1, fun _ => rfl, g3, g4, g5, g6, g7, g8, g9, g10, g11, g12⟩
      · rintro L a w' ⟨v45, v46, v47, v48, v49, v50, v51, v52, v53, v9, rfl, hb, g0, g1, g2, g3, g4, g5, g6, g7, g8, g9, g10, g11, g12⟩ hl hd K hK
        simp [Region.binds] at hd
        dsimp only at hK ⊢
        have e2 := g2 (by simp [hd])
        subst e2
        have h8 : L 8 = false := by
          cases h : L 8 with
          | false => rfl
          | true => have := g12 h; rw [hl] at this; cases this
        refine wp_app (P := Try.prog) (n := 0) (xs := []) (m := k) (base := w2.heap.size) (.const (.slice none 0 0)) (.tmp 47) (World.ownsRow_nil _ _ _ _) (HFR.out.below hb) hb.size under_rec info_rec rfl (by decide) HO1.out (by omega) (by omega) rfl rfl rfl ?_
        intro v4 w4 ho4 hg4 _
        have hown4 : w4.ownsRow w2.heap.size 38 6 v4 k xs1 := by simpa using ho4
        have hb4 : Below w'.heap.size w' w4 := ⟨hg4.os, hg4.tape, hg4.output, hg4.size, fun i hi => hg4.block i hi (by simp [Value.ownBlock])⟩
        exact hK _ _ ⟨_, _, _, _, _, _, _, _, _, _, rfl, bst hb hb4, g0, g1, g2, fun _ _ => hown4, g4, g5, g6, g7, fun h => absurd (show L 8 = true from h) (by rw [h8]; simp), g9, g10, g11, fun _ => rfl⟩
      · rintro L a w' ⟨v45, v46, v47, v48, v49, v50, v51, v52, v53, v9, rfl, hb, g0, g1, g2, g3, g4, g5, g6, g7, g8, g9, g10, g11, g12⟩ hl hd K hK
        dsimp only at hK ⊢
        have h9 : L 9 = false := by
          cases h : L 9 with
          | false => rfl
          | true => have := (g11 h).2.1; rw [hl] at this; cases this
        have e9 := g10 h9
        subst e9
        go_simp
        exact hK _ _ ⟨_, _, _, _, _, _, _, _, _, _, rfl, hb, g0, g1, g2, g3, fun _ => rfl, g5, g6, g7, g8, g9, g10, fun h => ⟨(g11 h).1, rfl, (g11 h).2.2⟩, g12⟩
      · rintro L a w' ⟨v45, v46, v47, v48, v49, v50, v51, v52, v53, v9, rfl, hb, g0, g1, g2, g3, g4, g5, g6, g7, g8, g9, g10, g11, g12⟩ hl hd K hK
        dsimp only at hK ⊢
        go_simp
        exact hK _ _ ⟨_, _, _, _, _, _, _, _, _, _, rfl, hb, g0, g1, g2, g3, g4, fun _ => rfl, g6, g7, g8, g9, g10, g11, g12⟩
      · rintro L a w' ⟨v45, v46, v47, v48, v49, v50, v51, v52, v53, v9, rfl, hb, g0, g1, g2, g3, g4, g5, g6, g7, g8, g9, g10, g11, g12⟩ hl hd K hK
        simp [Region.binds] at hd
        dsimp only at hK ⊢
        have e5 := g5 (by simp [hd])
        subst e5
        have hk2 : (k : Int) ≤ 100 := by omega
        go_simp
        exact hK _ _ ⟨_, _, _, _, _, _, _, _, _, _, rfl, hb, g0, g1, g2, g3, g4, g5, fun _ => congrArg _ (by rw [IntKind.wrap_i64]; omega), g7, g8, g9, g10, g11, g12⟩
      · rintro L a w' ⟨v45, v46, v47, v48, v49, v50, v51, v52, v53, v9, rfl, hb, g0, g1, g2, g3, g4, g5, g6, g7, g8, g9, g10, g11, g12⟩ hl hd K hK
        simp [Region.binds] at hd
        dsimp only at hK ⊢
        have e4 := g4 (by simp [hd])
        subst e4
        have e6 := g6 (by simp [hd])
        subst e6
        have hkc : (k : Int) + 1 ≤ (n : Int) := by omega
        have hkp : (0 : Int) ≤ (k : Int) + 1 := by omega
        go_simp
        exact hK _ _ ⟨_, _, _, _, _, _, _, _, _, _, rfl, hb, g0, g1, g2, g3, g4, g5, g6, fun _ => rfl, g8, g9, g10, g11, g12⟩
      · rintro L a w' ⟨v45, v46, v47, v48, v49, v50, v51, v52, v53, v9, rfl, hb, g0, g1, g2, g3, g4, g5, g6, g7, g8, g9, g10, g11, g12⟩ hl hd K hK
        simp [Region.binds] at hd
        dsimp only at hK ⊢
        have e7 := g7 (by simp [hd])
        subst e7
        have h3 : L 3 = true := by simp [hd]
        have ho := g3 h3 hl
        have h9 : L 9 = false := by
          cases h : L 9 with
          | false => rfl
          | true => have := (g11 h).2.2; rw [hl] at this; cases this
        refine wp_app (P := Try.prog) (n := k) (xs := xs1) (m := n - (k + 1)) (base := w2.heap.size) (.tmp 48) (.tmp 52) ho (HBK.out.below hb) hb.size under_rec info_rec rfl (by decide) HO2.out (by omega) (by omega) rfl rfl rfl ?_
        intro v4 w4 ho4 hg4 _
        exact hK _ _ ⟨_, _, _, _, _, _, _, _, _, _, rfl, hb.grown hg4 hb.size (fun b hb' => (ho.lt b hb').1), g0, g1, g2, fun _ h => absurd (show (true : Bool) = false from h) (by simp), g4, g5, g6, g7, fun _ => ho4, fun h => absurd (show L 9 = true from h) (by rw [h9]; simp), g10, fun h => absurd (show L 9 = true from h) (by rw [h9]; simp), fun _ => h3⟩
      · rintro L a w' ⟨v45, v46, v47, v48, v49, v50, v51, v52, v53, v9, rfl, hb, g0, g1, g2, g3, g4, g5, g6, g7, g8, g9, g10, g11, g12⟩ hl hd K hK
        simp [Region.binds] at hd
        dsimp only at hK ⊢
        have hd0 : L 0 = true := by simp [hd]
        have hd4 : L 4 = true := by simp [hd]
        have hd8 : L 8 = true := by simp [hd]
        go_simp
        exact hK _ _ ⟨_, _, _, _, _, _, _, _, _, _, rfl, hb, g0, g1, g2, g3, g4, g5, g6, g7, g8, fun _ => rfl, fun h => absurd (show (true : Bool) = false from h) (by simp), fun _ => ⟨hd0, hd4, hd8⟩, g12⟩
    rintro a w4 ⟨v45, v46, v47, v48, v49, v50, v51, v52, v53, v9, rfl, hb, g0, g1, g2, g3, g4, g5, g6, g7, g8, g9, g10, g11, g12⟩
    have e0 := g0 rfl
    subst e0
    have e1 := g1 rfl
    subst e1
    have e2 := g2 rfl
    subst e2
    have e4 := g4 rfl
    subst e4
    have e5 := g5 rfl
    subst e5
    have e6 := g6 rfl
    subst e6
    have e7 := g7 rfl
    subst e7
    have e9 := g9 rfl
    subst e9
    have ho4 := g8 rfl
    obtain ⟨A4, k4, rfl, _, _⟩ := (Sl.of_own ho4).form
    have SR := Lib.hid (show SlRc w4 (.slice A4 (k + (n - (k + 1))) k4) (r.eraseIdx k) by
      have hlen : (r.eraseIdx k).length = k + (n - (k + 1)) := by rw [List.length_eraseIdx, HN.out, if_pos hkn]; omega
      refine ⟨us.take k ++ us.drop (k + 1), by rw [hlen, List.length_append, List.length_take, List.length_drop, E1.out, HN.out]; omega, ?_, ?_⟩
      · rw [hlen, List.eraseIdx_eq_take_drop_succ, rcds_append (by simp [E1.out]), HX1.out, HX2b.out]
        exact Sl.of_own ho4
      · rw [List.eraseIdx_eq_take_drop_succ]
        intro j t u hj hu
        have key : ∀ {i : Nat}, r[i]? = some t → us[i]? = some u → RcOk w4 t u.1 u.2 := fun h1 h2 => ⟨(Sl.of_own (E3.out _ t u h1 h2).1).below hb, (Sl.of_own (E3.out _ t u h1 h2).2).below hb, HRM.out t (List.mem_of_getElem? h1)⟩
        have hlt : (r.take k).length = k := by rw [List.length_take, HN.out]; omega
        have hlu : (us.take k).length = k := by rw [List.length_take, E1.out, HN.out]; omega
        by_cases hjk : j < k
        · rw [List.getElem?_append_left (by rw [hlt]; exact hjk), List.getElem?_take, if_pos hjk] at hj
          rw [List.getElem?_append_left (by rw [hlu]; exact hjk), List.getElem?_take, if_pos hjk] at hu
          exact key hj hu
        · rw [List.getElem?_append_right (by rw [hlt]; omega), hlt, List.getElem?_drop] at hj
          rw [List.getElem?_append_right (by rw [hlu]; omega), hlu, List.getElem?_drop] at hu
          exact key hj hu)
    have HLEN := Lib.hid (show (r.eraseIdx k).length ≤ 9 by rw [List.length_eraseIdx, HN.out]; split <;> omega)
    have BB := Lib.hid (bst B2.out hb)
    clear g0 g1 g2 g3 g4 g5 g6 g7 g8 g9 g10 g11 g12 ho4 hb c0 c1 c2 c3 c4 c5 hplt
    have HA := Lib.hid (hist_any (.slice A4 (k + (n - (k + 1))) k4) (r.eraseIdx k) w4 SR.out (by have := HLEN.out; omega))
    obtain ⟨res, hres⟩ : ∃ res, histV (r.eraseIdx k) = res := ⟨_, rfl⟩
    rw [hres] at HA
    have HRES := Lib.hid hres
    clear hres
    go_wp2_with fail
    refine HA.out.mono ?_
    rintro _ wa ⟨va1, rfl, oa, ba⟩
    obtain ⟨er, hl⟩ := res
    simp only at oa ⊢
    obtain ⟨Aa, ca, rfl, _, _⟩ := oa.form
    have HB := Lib.hid (rhist_any (.slice A4 (k + (n - (k + 1))) k4) (r.eraseIdx k) wa (SR.out.below ba) (by have := HLEN.out; omega))
    rw [HRES.out] at HB
    have OA := Lib.hid oa
    have BA := Lib.hid (bst BB.out ba)
    obtain ⟨M, hM⟩ : ∃ M, hl.length = M := ⟨_, rfl⟩
    rw [hM]
    have HM := Lib.hid hM
    clear oa ba HA hM
    go_wp2_with fail
    refine HB.out.mono ?_
    rintro _ wb ⟨vb, rfl, ob, bb⟩
    simp only at ob ⊢
    obtain ⟨Ab, cb, rfl, _, _⟩ := ob.form
    have OB := Lib.hid ob
    have OAB := Lib.hid (OA.out.below bb)
    have BC := Lib.hid (bst BA.out bb)
    rw [HM.out]
    clear ob bb HB
    go_wp2_with fail
    refine (awake20_any wb).mono ?_
    rintro _ wc ⟨rfl, bc⟩
    have HS := Lib.hid (sameSns_any _ _ hl wc (OAB.out.below bc).sl (OB.out.below bc).sl)
    rw [HM.out] at HS
    have BD := Lib.hid (bst BC.out bc)
    clear bc
    go_wp2_with fail
    refine HS.out.mono ?_
    rintro _ wd ⟨rfl, bd⟩
    have BE := Lib.hid (bst BD.out bd)
    clear bd
    go_wp2
    go_ret
    exact RetBe.mk_ (by simp) BE.out
  · have hf0 := O2.out.froz (k * 6)
    have HP4 := Lib.hid (pick_any v 4 w2 (by omega) (by omega))
    obtain ⟨P, hP⟩ : ∃ P, pick v 4 = P := ⟨_, rfl⟩
    rw [hP] at HP4
    clear hP
    go_wp2_with fail
    refine HP4.out.mono ?_
    rintro _ _ ⟨rfl, rfl⟩
    go_upto_region 13 with (fail)
    obtain ⟨w3, hw3⟩ : ∃ w3, w3 = w2.setCell ⟨g, k * 6, none⟩ (.int .i64 P) := ⟨_, rfl⟩
    have OX := Lib.hid (show OwnRc w3 w.heap.size (.slice (some ⟨g, 0, none⟩) n c) (r.set k ⟨P, q0.ver, q0.seq, q0.nid, q0.add, q0.rem⟩) by rw [hw3]; exact OwnRc.set (j := 0) (y' := id) O2.out HN.out.symm HX.out (by omega) (fun y => rfl) (fun y h1 h2 => ⟨h1, h2⟩))
    have BB := Lib.hid (show Below w.heap.size w w3 by rw [hw3]; exact below_row B2.out (grownBy_set w2 ⟨g, k * 6, none⟩ _) HG.out B2.out.size)
    rw [← hw3]
    clear hw3 hf0 c0 c1 c2 c3 c4 c5 hplt hgg
    have SR := Lib.hid (show SlRc w3 (.slice (some ⟨g, 0, none⟩) n c) (r.set k ⟨P, q0.ver, q0.seq, q0.nid, q0.add, q0.rem⟩) from OX.out.sl (rec_mem_set HRM.out (HRM.out q0 (List.mem_of_getElem? HX.out))))
    have HLEN := Lib.hid (show (r.set k ⟨P, q0.ver, q0.seq, q0.nid, q0.add, q0.rem⟩).length ≤ 9 by rw [List.length_set, HN.out]; omega)
    have HA := Lib.hid (hist_any (.slice (some ⟨g, 0, none⟩) n c) (r.set k ⟨P, q0.ver, q0.seq, q0.nid, q0.add, q0.rem⟩) w3 SR.out (by have := HLEN.out; omega))
    obtain ⟨res, hres⟩ : ∃ res, histV (r.set k ⟨P, q0.ver, q0.seq, q0.nid, q0.add, q0.rem⟩) = res := ⟨_, rfl⟩
    rw [hres] at HA
    have HRES := Lib.hid hres
    clear hres
    go_wp2_with fail
    refine HA.out.mono ?_
    rintro _ wa ⟨va1, rfl, oa, ba⟩
    obtain ⟨er, hl⟩ := res
    simp only at oa ⊢
    obtain ⟨Aa, ca, rfl, _, _⟩ := oa.form
    have HB := Lib.hid (rhist_any (.slice (some ⟨g, 0, none⟩) n c) (r.set k ⟨P, q0.ver, q0.seq, q0.nid, q0.add, q0.rem⟩) wa (SR.out.below ba) (by have := HLEN.out; omega))
    rw [HRES.out] at HB
    have OA := Lib.hid oa
    have BA := Lib.hid (bst BB.out ba)
    obtain ⟨M, hM⟩ : ∃ M, hl.length = M := ⟨_, rfl⟩
    rw [hM]
    have HM := Lib.hid hM
    clear oa ba HA hM
    go_wp2_with fail
    refine HB.out.mono ?_
    rintro _ wb ⟨vb, rfl, ob, bb⟩
    simp only at ob ⊢
    obtain ⟨Ab, cb, rfl, _, _⟩ := ob.form
    have OB := Lib.hid ob
    have OAB := Lib.hid (OA.out.below bb)
    have BC := Lib.hid (bst BA.out bb)
    rw [HM.out]
    clear ob bb HB
    go_wp2_with fail
    refine (awake20_any wb).mono ?_
    rintro _ wc ⟨rfl, bc⟩
    have HS := Lib.hid (sameSns_any _ _ hl wc (OAB.out.below bc).sl (OB.out.below bc).sl)
    rw [HM.out] at HS
    have BD := Lib.hid (bst BC.out bc)
    clear bc
    go_wp2_with fail
    refine HS.out.mono ?_
    rintro _ wd ⟨rfl, bd⟩
    have BE := Lib.hid (bst BD.out bd)
    clear bd
    go_wp2
    go_ret
    exact RetBe.mk_ (by simp) BE.out
  · go_upto_region 10 with (fail)
    clear c0 c1 c2 c3 c4 c5 hplt
    refine wp_region_inv (by kernel_rfl) (by kernel_rfl) (fun L a w' => ∃ v64 v65 v66 v67 v68 v69 v70 v71 v72 v73 v74 : Value, a = ⟨#[.slice Az xs.length cz, .int .i64 how, .int .i64 at_, .int .i64 v, undef, undef, undef, undef, .bool false, .slice (some ⟨g, 0, none⟩) n c, .int .i64 0, .int .i64 k, undef, undef, undef, undef, .tuple #[.slice (some ⟨g, 0, none⟩) n c, .int .i64 0], .slice Az xs.length cz, v1, .tuple #[.slice (some ⟨g, 0, none⟩) n c, .int .i64 0], .slice (some ⟨g, 0, none⟩) n c, .int .i64 0, .int .i64 at_, .slice (some ⟨g, 0, none⟩) n c, .int .i64 n, .int .i64 k, .int .i64 how, .int .i64 2, undef, undef, undef, undef, undef, undef, undef, undef, undef, undef, undef, undef, undef, undef, undef, .bool false, .bool false, undef, undef, undef, undef, undef, undef, undef, undef, undef, .bool false, .bool false, undef, undef, undef, undef, undef, undef, .bool true, .bool true, v64, v65, v66, v67, v68, v69, v70, v71, v72, v73, v74, undef, undef, undef, undef, undef, undef, undef, undef, undef, undef, undef, undef, undef, undef, undef, undef, undef, undef, undef, undef, undef, undef, undef, undef, undef, undef, undef, undef, undef, undef, undef, undef, undef, undef], []⟩ ∧
        Below w.heap.size w w' ∧ Got (L 0) v64 (.slice (some ⟨g, 0, none⟩) n c) ∧ Got (L 1) v65 (.int .i64 k) ∧ Got (L 2) v66 (.pointer (some ⟨g, k * 6, none⟩)) ∧ Got (L 3) v67 (.pointer (some ⟨g, k * 6 + 1, none⟩)) ∧ Got (L 4) v68 (.int .i64 q0.ver) ∧ Got (L 5) v69 (.int .i64 v) ∧ (L 6 = true → ∃ z : Int, v70 = .int .i64 z) ∧ (L 7 = true → ∃ z : Int, v71 = .int .i64 z) ∧ (L 8 = true → ∃ z : Int, v72 = .int .i64 z) ∧ Got (L 9) v73 (.pointer (some ⟨g, k * 6, none⟩)) ∧ Got (L 10) v74 (.pointer (some ⟨g, k * 6 + 1, none⟩)) ∧ (L 11 = false → OwnRc w' w.heap.size (.slice (some ⟨g, 0, none⟩) n c) r) ∧ (L 11 = true → ∃ z : Int, OwnRc w' w.heap.size (.slice (some ⟨g, 0, none⟩) n c) (r.set k ⟨q0.kind, z, q0.seq, q0.nid, q0.add, q0.rem⟩)) ∧ (L 11 = true → L 4 = true) ∧ (L 11 = true → L 6 = true))
      ?_ ?_ ?_
    · exact ⟨_, _, _, _, _, _, _, _, _, _, _, rfl, (below_drewN B2.out 1), nofun, nofun, nofun, nofun, nofun, nofun, nofun, nofun, nofun, nofun, nofun, fun _ => O2.out, nofun, nofun, nofun⟩
    · refine ⟨?_, ?_, ?_, ?_, ?_, ?_, ?_, ?_, ?_, ?_, ?_, ?_, trivial⟩
      · rintro L a w' ⟨v64, v65, v66, v67, v68, v69, v70, v71, v72, v73, v74, rfl, hb, g0, g1, g2, g3, g4, g5, g6, g7, g8, g9, g10, g11, g12, g13, g14⟩ hl hd K hK
        dsimp only at hK ⊢
        go_simp
        exact hK _ _ ⟨_, _, _, _, _, _, _, _, _, _, _, rfl, hb, fun _ => rfl, g1, g2, g3, g4, g5, g6, g7, g8, g9, g10, g11, g12, g13, g14⟩
      · rintro L a w' ⟨v64, v65, v66, v67, v68, v69, v70, v71, v72, v73, v74, rfl, hb, g0, g1, g2, g3, g4, g5, g6, g7, g8, g9, g10, g11, g12, g13, g14⟩ hl hd K hK
        dsimp only at hK ⊢
        go_simp
        exact hK _ _ ⟨_, _, _, _, _, _, _, _, _, _, _, rfl, hb, g0, fun _ => rfl, g2, g3, g4, g5, g6, g7, g8, g9, g10, g11, g12, g13, g14⟩
      · rintro L a w' ⟨v64, v65, v66, v67, v68, v69, v70, v71, v72, v73, v74, rfl, hb, g0, g1, g2, g3, g4, g5, g6, g7, g8, g9, g10, g11, g12, g13, g14⟩ hl hd K hK
        simp [Region.binds] at hd
        dsimp only at hK ⊢
        have e0 := g0 (by simp [hd])
        subst e0
        have e1 := g1 (by simp [hd])
        subst e1
        go_simp
        exact hK _ _ ⟨_, _, _, _, _, _, _, _, _, _, _, rfl, hb, g0, g1, fun _ => rfl, g3, g4, g5, g6, g7, g8, g9, g10, g11, g12, g13, g14⟩
      · rintro L a w' ⟨v64, v65, v66, v67, v68, v69, v70, v71, v72, v73, v74, rfl, hb, g0, g1, g2, g3, g4, g5, g6, g7, g8, g9, g10, g11, g12, g13, g14⟩ hl hd K hK
        simp [Region.binds] at hd
        dsimp only at hK ⊢
        have e2 := g2 (by simp [hd])
        subst e2
        go_simp
        exact hK _ _ ⟨_, _, _, _, _, _, _, _, _, _, _, rfl, hb, g0, g1, g2, fun _ => rfl, g4, g5, g6, g7, g8, g9, g10, g11, g12, g13, g14⟩
      · rintro L a w' ⟨v64, v65, v66, v67, v68, v69, v70, v71, v72, v73, v74, rfl, hb, g0, g1, g2, g3, g4, g5, g6, g7, g8, g9, g10, g11, g12, g13, g14⟩ hl hd K hK
        simp [Region.binds] at hd
        dsimp only at hK ⊢
        have e3 := g3 (by simp [hd])
        subst e3
        have h11 : L 11 = false := by
          cases h : L 11 with
          | false => rfl
          | true => have := g13 h; rw [hl] at this; cases this
        obtain ⟨k0, k1, k2, k3⟩ := (g11 h11).at_ HN.out.symm HX.out HRM.out
        go_simp
        exact hK _ _ ⟨_, _, _, _, _, _, _, _, _, _, _, rfl, hb, g0, g1, g2, g3, fun _ => rfl, g5, g6, g7, g8, g9, g10, g11, g12, fun _ => rfl, g14⟩
      · rintro L a w' ⟨v64, v65, v66, v67, v68, v69, v70, v71, v72, v73, v74, rfl, hb, g0, g1, g2, g3, g4, g5, g6, g7, g8, g9, g10, g11, g12, g13, g14⟩ hl hd K hK
        dsimp only at hK ⊢
        go_simp
        exact hK _ _ ⟨_, _, _, _, _, _, _, _, _, _, _, rfl, hb, g0, g1, g2, g3, g4, fun _ => rfl, g6, g7, g8, g9, g10, g11, g12, g13, g14⟩
      · rintro L a w' ⟨v64, v65, v66, v67, v68, v69, v70, v71, v72, v73, v74, rfl, hb, g0, g1, g2, g3, g4, g5, g6, g7, g8, g9, g10, g11, g12, g13, g14⟩ hl hd K hK
        simp [Region.binds] at hd
        dsimp only at hK ⊢
        have e5 := g5 (by simp [hd])
        subst e5
        have h11 : L 11 = false := by
          cases h : L 11 with
          | false => rfl
          | true => have := g14 h; rw [hl] at this; cases this
        go_wp2_with fail
        refine (pick_any v 3 w' (by omega) (by omega)).mono ?_
        rintro _ _ ⟨rfl, rfl⟩
        exact hK _ _ ⟨_, _, _, _, _, _, _, _, _, _, _, rfl, hb, g0, g1, g2, g3, g4, g5, fun _ => ⟨_, rfl⟩, g7, g8, g9, g10, g11, g12, g13, fun _ => rfl⟩
      · rintro L a w' ⟨v64, v65, v66, v67, v68, v69, v70, v71, v72, v73, v74, rfl, hb, g0, g1, g2, g3, g4, g5, g6, g7, g8, g9, g10, g11, g12, g13, g14⟩ hl hd K hK
        simp [Region.binds] at hd
        dsimp only at hK ⊢
        obtain ⟨z, hz⟩ := g6 (by simp [hd])
        subst hz
        go_simp
        exact hK _ _ ⟨_, _, _, _, _, _, _, _, _, _, _, rfl, hb, g0, g1, g2, g3, g4, g5, g6, fun _ => ⟨_, rfl⟩, g8, g9, g10, g11, g12, g13, g14⟩
      · rintro L a w' ⟨v64, v65, v66, v67, v68, v69, v70, v71, v72, v73, v74, rfl, hb, g0, g1, g2, g3, g4, g5, g6, g7, g8, g9, g10, g11, g12, g13, g14⟩ hl hd K hK
        simp [Region.binds] at hd
        dsimp only at hK ⊢
        have e4 := g4 (by simp [hd])
        subst e4
        obtain ⟨z, hz⟩ := g7 (by simp [hd])
        subst hz
        go_simp
        exact hK _ _ ⟨_, _, _, _, _, _, _, _, _, _, _, rfl, hb, g0, g1, g2, g3, g4, g5, g6, g7, fun _ => ⟨_, rfl⟩, g9, g10, g11, g12, g13, g14⟩
      · rintro L a w' ⟨v64, v65, v66, v67, v68, v69, v70, v71, v72, v73, v74, rfl, hb, g0, g1, g2, g3, g4, g5, g6, g7, g8, g9, g10, g11, g12, g13, g14⟩ hl hd K hK
        simp [Region.binds] at hd
        dsimp only at hK ⊢
        have e0 := g0 (by simp [hd])
        subst e0
        have e1 := g1 (by simp [hd])
        subst e1
        go_simp
        exact hK _ _ ⟨_, _, _, _, _, _, _, _, _, _, _, rfl, hb, g0, g1, g2, g3, g4, g5, g6, g7, g8, fun _ => rfl, g10, g11, g12, g13, g14⟩
      · rintro L a w' ⟨v64, v65, v66, v67, v68, v69, v70, v71, v72, v73, v74, rfl, hb, g0, g1, g2, g3, g4, g5, g6, g7, g8, g9, g10, g11, g12, g13, g14⟩ hl hd K hK
        simp [Region.binds] at hd
        dsimp only at hK ⊢
        have e9 := g9 (by simp [hd])
        subst e9
        go_simp
        exact hK _ _ ⟨_, _, _, _, _, _, _, _, _, _, _, rfl, hb, g0, g1, g2, g3, g4, g5, g6, g7, g8, g9, fun _ => rfl, g11, g12, g13, g14⟩
      · rintro L a w' ⟨v64, v65, v66, v67, v68, v69, v70, v71, v72, v73, v74, rfl, hb, g0, g1, g2, g3, g4, g5, g6, g7, g8, g9, g10, g11, g12, g13, g14⟩ hl hd K hK
        simp [Region.binds] at hd
        dsimp only at hK ⊢
        have e10 := g10 (by simp [hd])
        subst e10
        obtain ⟨z, hz⟩ := g8 (by simp [hd])
        subst hz
        have ho := g11 hl
        have hd4 : L 4 = true := by simp [hd]
        have hd6 : L 6 = true := by simp [hd]
        have hfz := ho.froz (k * 6 + 1)
        obtain ⟨k0, k1, k2, k3⟩ := ho.at_ HN.out.symm HX.out HRM.out
        have hlt := ho.lt_
        go_simp
        exact hK _ _ ⟨_, _, _, _, _, _, _, _, _, _, _, rfl, below_row hb (grownBy_set w' ⟨g, k * 6 + 1, none⟩ _) HG.out hb.size, g0, g1, g2, g3, g4, g5, g6, g7, g8, g9, g10, fun h => absurd (show (true : Bool) = false from h) (by simp), fun _ => ⟨z, OwnRc.set (j := 1) (y' := id) ho HN.out.symm HX.out (by omega) (fun y => rfl) (fun y h1 h2 => ⟨h1, h2⟩)⟩, fun _ => hd4, fun _ => hd6⟩
    rintro a w3 ⟨v64, v65, v66, v67, v68, v69, v70, v71, v72, v73, v74, rfl, hb, g0, g1, g2, g3, g4, g5, g6, g7, g8, g9, g10, g11, g12, g13, g14⟩
    have e0 := g0 rfl
    subst e0
    have e1 := g1 rfl
    subst e1
    have e2 := g2 rfl
    subst e2
    have e3 := g3 rfl
    subst e3
    have e4 := g4 rfl
    subst e4
    have e5 := g5 rfl
    subst e5
    have e9 := g9 rfl
    subst e9
    have e10 := g10 rfl
    subst e10
    obtain ⟨z6, e6⟩ := g6 rfl
    subst e6
    obtain ⟨z7, e7⟩ := g7 rfl
    subst e7
    obtain ⟨z8, e8⟩ := g8 rfl
    subst e8
    obtain ⟨z, ho⟩ := g12 rfl
    have OX := Lib.hid ho
    have BB := Lib.hid hb
    clear g0 g1 g2 g3 g4 g5 g6 g7 g8 g9 g10 g11 g12 g13 g14 ho hb hgg
    have SR := Lib.hid (show SlRc w3 (.slice (some ⟨g, 0, none⟩) n c) (r.set k ⟨q0.kind, z, q0.seq, q0.nid, q0.add, q0.rem⟩) from OX.out.sl (rec_mem_set HRM.out (HRM.out q0 (List.mem_of_getElem? HX.out))))
    have HLEN := Lib.hid (show (r.set k ⟨q0.kind, z, q0.seq, q0.nid, q0.add, q0.rem⟩).length ≤ 9 by rw [List.length_set, HN.out]; omega)
    have HA := Lib.hid (hist_any (.slice (some ⟨g, 0, none⟩) n c) (r.set k ⟨q0.kind, z, q0.seq, q0.nid, q0.add, q0.rem⟩) w3 SR.out (by have := HLEN.out; omega))
    obtain ⟨res, hres⟩ : ∃ res, histV (r.set k ⟨q0.kind, z, q0.seq, q0.nid, q0.add, q0.rem⟩) = res := ⟨_, rfl⟩
    rw [hres] at HA
    have HRES := Lib.hid hres
    clear hres
    go_wp2_with fail
    refine HA.out.mono ?_
    rintro _ wa ⟨va1, rfl, oa, ba⟩
    obtain ⟨er, hl⟩ := res
    simp only at oa ⊢
    obtain ⟨Aa, ca, rfl, _, _⟩ := oa.form
    have HB := Lib.hid (rhist_any (.slice (some ⟨g, 0, none⟩) n c) (r.set k ⟨q0.kind, z, q0.seq, q0.nid, q0.add, q0.rem⟩) wa (SR.out.below ba) (by have := HLEN.out; omega))
    rw [HRES.out] at HB
    have OA := Lib.hid oa
    have BA := Lib.hid (bst BB.out ba)
    obtain ⟨M, hM⟩ : ∃ M, hl.length = M := ⟨_, rfl⟩
    rw [hM]
    have HM := Lib.hid hM
    clear oa ba HA hM
    go_wp2_with fail
    refine HB.out.mono ?_
    rintro _ wb ⟨vb, rfl, ob, bb⟩
    simp only at ob ⊢
    obtain ⟨Ab, cb, rfl, _, _⟩ := ob.form
    have OB := Lib.hid ob
    have OAB := Lib.hid (OA.out.below bb)
    have BC := Lib.hid (bst BA.out bb)
    rw [HM.out]
    clear ob bb HB
    go_wp2_with fail
    refine (awake20_any wb).mono ?_
    rintro _ wc ⟨rfl, bc⟩
    have HS := Lib.hid (sameSns_any _ _ hl wc (OAB.out.below bc).sl (OB.out.below bc).sl)
    rw [HM.out] at HS
    have BD := Lib.hid (bst BC.out bc)
    clear bc
    go_wp2_with fail
    refine HS.out.mono ?_
    rintro _ wd ⟨rfl, bd⟩
    have BE := Lib.hid (bst BD.out bd)
    clear bd
    go_wp2
    go_ret
    exact RetBe.mk_ (by simp) BE.out
  · go_upto_region 12 with (fail)
    clear c0 c1 c2 c3 c4 c5 hplt
    refine wp_region_inv (by kernel_rfl) (by kernel_rfl) (fun L a w' => ∃ v77 v78 v79 v80 v81 v82 v83 v84 v85 v86 v87 : Value, a = ⟨#[.slice Az xs.length cz, .int .i64 how, .int .i64 at_, .int .i64 v, undef, undef, undef, undef, .bool false, .slice (some ⟨g, 0, none⟩) n c, .int .i64 0, .int .i64 k, undef, undef, undef, undef, .tuple #[.slice (some ⟨g, 0, none⟩) n c, .int .i64 0], .slice Az xs.length cz, v1, .tuple #[.slice (some ⟨g, 0, none⟩) n c, .int .i64 0], .slice (some ⟨g, 0, none⟩) n c, .int .i64 0, .int .i64 at_, .slice (some ⟨g, 0, none⟩) n c, .int .i64 n, .int .i64 k, .int .i64 how, .int .i64 3, undef, undef, undef, undef, undef, undef, undef, undef, undef, undef, undef, undef, undef, undef, undef, .bool false, .bool false, undef, undef, undef, undef, undef, undef, undef, undef, undef, .bool false, .bool false, undef, undef, undef, undef, undef, undef, .bool false, .bool false, undef, undef, undef, undef, undef, undef, undef, undef, undef, undef, undef, .bool true, .bool true, v77, v78, v79, v80, v81, v82, v83, v84, v85, v86, v87, undef, undef, undef, undef, undef, undef, undef, undef, undef, undef, undef, undef, undef, undef, undef, undef, undef, undef, undef, undef, undef], []⟩ ∧
        Below w.heap.size w w' ∧ Got (L 0) v77 (.slice (some ⟨g, 0, none⟩) n c) ∧ Got (L 1) v78 (.int .i64 k) ∧ Got (L 2) v79 (.pointer (some ⟨g, k * 6, none⟩)) ∧ Got (L 3) v80 (.pointer (some ⟨g, k * 6 + 3, none⟩)) ∧ Got (L 4) v81 (.int .i64 q0.nid) ∧ Got (L 5) v82 (.int .i64 v) ∧ (L 6 = true → ∃ z : Int, v83 = .int .i64 z) ∧ (L 7 = true → ∃ z : Int, v84 = .int .i64 z) ∧ (L 8 = true → ∃ z : Int, v85 = .int .i64 z) ∧ Got (L 9) v86 (.pointer (some ⟨g, k * 6, none⟩)) ∧ Got (L 10) v87 (.pointer (some ⟨g, k * 6 + 3, none⟩)) ∧ (L 11 = false → OwnRc w' w.heap.size (.slice (some ⟨g, 0, none⟩) n c) r) ∧ (L 11 = true → ∃ z : Int, OwnRc w' w.heap.size (.slice (some ⟨g, 0, none⟩) n c) (r.set k ⟨q0.kind, q0.ver, q0.seq, z, q0.add, q0.rem⟩)) ∧ (L 11 = true → L 4 = true) ∧ (L 11 = true → L 6 = true))
      ?_ ?_ ?_
    · exact ⟨_, _, _, _, _, _, _, _, _, _, _, rfl, (below_drewN B2.out 1), nofun, nofun, nofun, nofun, nofun, nofun, nofun, nofun, nofun, nofun, nofun, fun _ => O2.out, nofun, nofun, nofun⟩
    · refine ⟨?_, ?_, ?_, ?_, ?_, ?_, ?_, ?_, ?_, ?_, ?_, ?_, trivial⟩
      · rintro L a w' ⟨v77, v78, v79, v80, v81, v82, v83, v84, v85, v86, v87, rfl, hb, g0, g1, g2, g3, g4, g5, g6, g7, g8, g9, g10, g11, g12, g13, g14⟩ hl hd K hK
        dsimp only at hK ⊢
        go_simp
        exact hK _ _ ⟨_, _, _, _, _, _, _, _, _, _, _, rfl, hb, fun _ => rfl, g1, g2, g3, g4, g5, g6, g7, g8, g9, g10, g11, g12, g13, g14⟩
      · rintro L a w' ⟨v77, v78, v79, v80, v81, v82, v83, v84, v85, v86, v87, rfl, hb, g0, g1, g2, g3, g4, g5, g6, g7, g8, g9, g10, g11, g12, g13, g14⟩ hl hd K hK
        dsimp only at hK ⊢
        go_simp
        exact hK _ _ ⟨_, _, _, _, _, _, _, _, _, _, _, rfl, hb, g0, fun _ => rfl, g2, g3, g4, g5, g6, g7, g8, g9, g10, g11, g12, g13, g14⟩
      · rintro L a w' ⟨v77, v78, v79, v80, v81, v82, v83, v84, v85, v86, v87, rfl, hb, g0, g1, g2, g3, g4, g5, g6, g7, g8, g9, g10, g11, g12, g13, g14⟩ hl hd K hK
        simp [Region.binds] at hd
        dsimp only at hK ⊢
        have e0 := g0 (by simp [hd])
        subst e0
        have e1 := g1 (by simp [hd])
        subst e1
        go_simp
        exact hK _ _ ⟨_, _, _, _, _, _, _, _, _, _, _, rfl, hb, g0, g1, fun _ => rfl, g3, g4, g5, g6, g7, g8, g9, g10, g11, g12, g13, g14⟩
      · rintro L a w' ⟨v77, v78, v79, v80, v81, v82, v83, v84, v85, v86, v87, rfl, hb, g0, g1, g2, g3, g4, g5, g6, g7, g8, g9, g10, g11, g12, g13, g14⟩ hl hd K hK
        simp [Region.binds] at hd
        dsimp only at hK ⊢
        have e2 := g2 (by simp [hd])
        subst e2
        go_simp
        exact hK _ _ ⟨_, _, _, _, _, _, _, _, _, _, _, rfl, hb, g0, g1, g2, fun _ => rfl, g4, g5, g6, g7, g8, g9, g10, g11, g12, g13, g14⟩
      · rintro L a w' ⟨v77, v78, v79, v80, v81, v82, v83, v84, v85, v86, v87, rfl, hb, g0, g1, g2, g3, g4, g5, g6, g7, g8, g9, g10, g11, g12, g13, g14⟩ hl hd K hK
        simp [Region.binds] at hd
        dsimp only at hK ⊢
        have e3 := g3 (by simp [hd])
        subst e3
        have h11 : L 11 = false := by
          cases h : L 11 with
          | false => rfl
          | true => have := g13 h; rw [hl] at this; cases this
        obtain ⟨k0, k1, k2, k3⟩ := (g11 h11).at_ HN.out.symm HX.out HRM.out
        go_simp
        exact hK _ _ ⟨_, _, _, _, _, _, _, _, _, _, _, rfl, hb, g0, g1, g2, g3, fun _ => rfl, g5, g6, g7, g8, g9, g10, g11, g12, fun _ => rfl, g14⟩
      · rintro L a w' ⟨v77, v78, v79, v80, v81, v82, v83, v84, v85, v86, v87, rfl, hb, g0, g1, g2, g3, g4, g5, g6, g7, g8, g9, g10, g11, g12, g13, g14⟩ hl hd K hK
        dsimp only at hK ⊢
        go_simp
        exact hK _ _ ⟨_, _, _, _, _, _, _, _, _, _, _, rfl, hb, g0, g1, g2, g3, g4, fun _ => rfl, g6, g7, g8, g9, g10, g11, g12, g13, g14⟩
      · rintro L a w' ⟨v77, v78, v79, v80, v81, v82, v83, v84, v85, v86, v87, rfl, hb, g0, g1, g2, g3, g4, g5, g6, g7, g8, g9, g10, g11, g12, g13, g14⟩ hl hd K hK
        simp [Region.binds] at hd
        dsimp only at hK ⊢
        have e5 := g5 (by simp [hd])
        subst e5
        have h11 : L 11 = false := by
          cases h : L 11 with
          | false => rfl
          | true => have := g14 h; rw [hl] at this; cases this
        go_wp2_with fail
        refine (pick_any v 9 w' (by omega) (by omega)).mono ?_
        rintro _ _ ⟨rfl, rfl⟩
        exact hK _ _ ⟨_, _, _, _, _, _, _, _, _, _, _, rfl, hb, g0, g1, g2, g3, g4, g5, fun _ => ⟨_, rfl⟩, g7, g8, g9, g10, g11, g12, g13, fun _ => rfl⟩
      · rintro L a w' ⟨v77, v78, v79, v80, v81, v82, v83, v84, v85, v86, v87, rfl, hb, g0, g1, g2, g3, g4, g5, g6, g7, g8, g9, g10, g11, g12, g13, g14⟩ hl hd K hK
        simp [Region.binds] at hd
        dsimp only at hK ⊢
        obtain ⟨z, hz⟩ := g6 (by simp [hd])
        subst hz
        go_simp
        exact hK _ _ ⟨_, _, _, _, _, _, _, _, _, _, _, rfl, hb, g0, g1, g2, g3, g4, g5, g6, fun _ => ⟨_, rfl⟩, g8, g9, g10, g11, g12, g13, g14⟩
      · rintro L a w' ⟨v77, v78, v79, v80, v81, v82, v83, v84, v85, v86, v87, rfl, hb, g0, g1, g2, g3, g4, g5, g6, g7, g8, g9, g10, g11, g12, g13, g14⟩ hl hd K hK
        simp [Region.binds] at hd
        dsimp only at hK ⊢
        have e4 := g4 (by simp [hd])
        subst e4
        obtain ⟨z, hz⟩ := g7 (by simp [hd])
        subst hz
        go_simp
        exact hK _ _ ⟨_, _, _, _, _, _, _, _, _, _, _, rfl, hb, g0, g1, g2, g3, g4, g5, g6, g7, fun _ => ⟨_, rfl⟩, g9, g10, g11, g12, g13, g14⟩
      · rintro L a w' ⟨v77, v78, v79, v80, v81, v82, v83, v84, v85, v86, v87, rfl, hb, g0, g1, g2, g3, g4, g5, g6, g7, g8, g9, g10, g11, g12, g13, g14⟩ hl hd K hK
        simp [Region.binds] at hd
        dsimp only at hK ⊢
        have e0 := g0 (by simp [hd])
        subst e0
        have e1 := g1 (by simp [hd])
        subst e1
        go_simp
        exact hK _ _ ⟨_, _, _, _, _, _, _, _, _, _, _, rfl, hb, g0, g1, g2, g3, g4, g5, g6, g7, g8, fun _ => rfl, g10, g11, g12, g13, g14⟩
      · rintro L a w' ⟨v77, v78, v79, v80, v81, v82, v83, v84, v85, v86, v87, rfl, hb, g0, g1, g2, g3, g4, g5, g6, g7, g8, g9, g10, g11, g12, g13, g14⟩ hl hd K hK
        simp [Region.binds] at hd
        dsimp only at hK ⊢
        have e9 := g9 (by simp [hd])
        subst e9
        go_simp
        exact hK _ _ ⟨_, _, _, _, _, _, _, _, _, _, _, rfl, hb, g0, g1, g2, g3, g4, g5, g6, g7, g8, g9, fun _ => rfl, g11, g12, g13, g14⟩
      · rintro L a w' ⟨v77, v78, v79, v80, v81, v82, v83, v84, v85, v86, v87, rfl, hb, g0, g1, g2, g3, g4, g5, g6, g7, g8, g9, g10, g11, g12, g13, g14⟩ hl hd K hK
        simp [Region.binds] at hd
        dsimp only at hK ⊢
        have e10 := g10 (by simp [hd])
        subst e10
        obtain ⟨z, hz⟩ := g8 (by simp [hd])
        subst hz
        have ho := g11 hl
        have hd4 : L 4 = true := by simp [hd]
        have hd6 : L 6 = true := by simp [hd]
        have hfz := ho.froz (k * 6 + 3)
        obtain ⟨k0, k1, k2, k3⟩ := ho.at_ HN.out.symm HX.out HRM.out
        have hlt := ho.lt_
        go_simp
        exact hK _ _ ⟨_, _, _, _, _, _, _, _, _, _, _, rfl, below_row hb (grownBy_set w' ⟨g, k * 6 + 3, none⟩ _) HG.out hb.size, g0, g1, g2, g3, g4, g5, g6, g7, g8, g9, g10, fun h => absurd (show (true : Bool) = false from h) (by simp), fun _ => ⟨z, OwnRc.set (j := 3) (y' := id) ho HN.out.symm HX.out (by omega) (fun y => rfl) (fun y h1 h2 => ⟨h1, h2⟩)⟩, fun _ => hd4, fun _ => hd6⟩
    rintro a w3 ⟨v77, v78, v79, v80, v81, v82, v83, v84, v85, v86, v87, rfl, hb, g0, g1, g2, g3, g4, g5, g6, g7, g8, g9, g10, g11, g12, g13, g14⟩
    have e0 := g0 rfl
    subst e0
    have e1 := g1 rfl
    subst e1
    have e2 := g2 rfl
    subst e2
    have e3 := g3 rfl
    subst e3
    have e4 := g4 rfl
    subst e4
    have e5 := g5 rfl
    subst e5
    have e9 := g9 rfl
    subst e9
    have e10 := g10 rfl
    subst e10
    obtain ⟨z6, e6⟩ := g6 rfl
    subst e6
    obtain ⟨z7, e7⟩ := g7 rfl
    subst e7
    obtain ⟨z8, e8⟩ := g8 rfl
    subst e8
    obtain ⟨z, ho⟩ := g12 rfl
    have OX := Lib.hid ho
    have BB := Lib.hid hb
    clear g0 g1 g2 g3 g4 g5 g6 g7 g8 g9 g10 g11 g12 g13 g14 ho hb hgg
    have SR := Lib.hid (show SlRc w3 (.slice (some ⟨g, 0, none⟩) n c) (r.set k ⟨q0.kind, q0.ver, q0.seq, z, q0.add, q0.rem⟩) from OX.out.sl (rec_mem_set HRM.out (HRM.out q0 (List.mem_of_getElem? HX.out))))
    have HLEN := Lib.hid (show (r.set k ⟨q0.kind, q0.ver, q0.seq, z, q0.add, q0.rem⟩).length ≤ 9 by rw [List.length_set, HN.out]; omega)
    have HA := Lib.hid (hist_any (.slice (some ⟨g, 0, none⟩) n c) (r.set k ⟨q0.kind, q0.ver, q0.seq, z, q0.add, q0.rem⟩) w3 SR.out (by have := HLEN.out; omega))
    obtain ⟨res, hres⟩ : ∃ res, histV (r.set k ⟨q0.kind, q0.ver, q0.seq, z, q0.add, q0.rem⟩) = res := ⟨_, rfl⟩
    rw [hres] at HA
    have HRES := Lib.hid hres
    clear hres
    go_wp2_with fail
    refine HA.out.mono ?_
    rintro _ wa ⟨va1, rfl, oa, ba⟩
    obtain ⟨er, hl⟩ := res
    simp only at oa ⊢
    obtain ⟨Aa, ca, rfl, _, _⟩ := oa.form
    have HB := Lib.hid (rhist_any (.slice (some ⟨g, 0, none⟩) n c) (r.set k ⟨q0.kind, q0.ver, q0.seq, z, q0.add, q0.rem⟩) wa (SR.out.below ba) (by have := HLEN.out; omega))
    rw [HRES.out] at HB
    have OA := Lib.hid oa
    have BA := Lib.hid (bst BB.out ba)
    obtain ⟨M, hM⟩ : ∃ M, hl.length = M := ⟨_, rfl⟩
    rw [hM]
    have HM := Lib.hid hM
    clear oa ba HA hM
    go_wp2_with fail
    refine HB.out.mono ?_
    rintro _ wb ⟨vb, rfl, ob, bb⟩
    simp only at ob ⊢
    obtain ⟨Ab, cb, rfl, _, _⟩ := ob.form
    have OB := Lib.hid ob
    have OAB := Lib.hid (OA.out.below bb)
    have BC := Lib.hid (bst BA.out bb)
    rw [HM.out]
    clear ob bb HB
    go_wp2_with fail
    refine (awake20_any wb).mono ?_
    rintro _ wc ⟨rfl, bc⟩
    have HS := Lib.hid (sameSns_any _ _ hl wc (OAB.out.below bc).sl (OB.out.below bc).sl)
    rw [HM.out] at HS
    have BD := Lib.hid (bst BC.out bc)
    clear bc
    go_wp2_with fail
    refine HS.out.mono ?_
    rintro _ wd ⟨rfl, bd⟩
    have BE := Lib.hid (bst BD.out bd)
    clear bd
    go_wp2
    go_ret
    exact RetBe.mk_ (by simp) BE.out
  · have hx2 := HX2.out
    have HP3 := Lib.hid (fun X => pick_any v 3 X (by omega) (by omega))
    obtain ⟨P, hP⟩ : ∃ P, pick v 3 = P := ⟨_, rfl⟩
    have hP0 : 0 ≤ P := by rw [← hP]; exact pick_lo _ _ (by omega)
    have hP3 : P < 3 := by rw [← hP]; exact pick_hi _ _ (by omega)
    rw [hP] at HP3
    clear hP
    obtain ⟨Q, hQ⟩ : ∃ Q, q0.rem.length = Q := ⟨_, rfl⟩
    have HQ := Lib.hid hQ
    rw [hQ] at hx2 c5
    have HRQ := Lib.hid (show Sl w2 1 (.slice AR Q cR) Q (ints q0.rem) by have := HRR.out; rw [hQ] at this; exact this)
    clear hQ
    go_upto_region 4 with (fail)
    go_wp2_with (at_builtin; go_must (refine appN _ _ (World.ownsRow_nil w2 w2.heap.size 3 1) HRQ.out (Nat.le_refl _) under_i64 info_i64 rfl (by decide) (one_ints' _) (by omega) (by omega) rfl rfl rfl rfl ?_))
    intro v3 w3 ho3 hg3 _
    have hb3 : Below w2.heap.size w2 w3 := ⟨hg3.os, hg3.tape, hg3.output, hg3.size, fun i hi => hg3.block i hi (by simp [Value.ownBlock])⟩
    have ho3' : w3.ownsRow w2.heap.size 3 1 v3 Q (ints q0.rem) := by simpa using ho3
    have O3 := Lib.hid ho3'
    have W3 := Lib.hid hb3
    clear ho3 hg3 hb3 ho3'
    go_wp2_with fail
    refine (HP3.out w3).mono ?_
    rintro _ _ ⟨rfl, rfl⟩
    have hsz := W3.out.size
    have ov := O3.out
    go_wp2_with (at_builtin; go_must (refine app1 _ _ ov (Below.refl w2.heap.size w3) (Nat.le_refl _) hsz under_i64 info_i64 rfl (by decide) rfl (by intro u hu; simp at hu; subst hu; rfl) (by omega) (by omega) rfl rfl rfl rfl ?_))
    intro g' cap' w9 ho9 hb9 hg9 hor9
    have O9 := Lib.hid (own_i1 HQ.out ho9)
    have W9 := Lib.hid (W3.out.trans hb9)
    have OR9 := Lib.hid (O2.out.below W9.out)
    have hf := OR9.out.froz (k * 6 + 5)
    have hlt9 := OR9.out.lt_
    have c9 := (W9.out.cell (p := { block := g, off := k * 6 + 5 }) HG2.out).trans c5
    clear ho9 hb9 hg9 hor9 hsz ov c0 c1 c2 c3 c4 c5 hplt
    go_upto_region 13 with (fail)
    obtain ⟨w4, hw4⟩ : ∃ w4, w4 = w9.setCell ⟨g, k * 6 + 5, none⟩ (.slice (some ⟨g', 0, none⟩) (Q + 1) cap') := ⟨_, rfl⟩
    have OX := Lib.hid (show OwnRc w4 w.heap.size (.slice (some ⟨g, 0, none⟩) n c) (r.set k ⟨q0.kind, q0.ver, q0.seq, q0.nid, q0.add, q0.rem ++ [50 + P]⟩) by
      rw [hw4]
      exact OwnRc.set (j := 5) (y' := fun y => (y.1, .slice (some ⟨g', 0, none⟩) (Q + 1) cap')) OR9.out HN.out.symm HX.out (by omega) (fun y => rfl) (fun y h1 h2 => ⟨h1, own_mono O9.out B2.out.size⟩))
    have BB := Lib.hid (show Below w.heap.size w w4 by rw [hw4]; exact below_row (bst B2.out W9.out) (grownBy_set w9 ⟨g, k * 6 + 5, none⟩ _) HG.out (bst B2.out W9.out).size)
    rw [← hw4]
    clear hw4 hf hlt9 c9 hgg
    have SR := Lib.hid (show SlRc w4 (.slice (some ⟨g, 0, none⟩) n c) (r.set k ⟨q0.kind, q0.ver, q0.seq, q0.nid, q0.add, q0.rem ++ [50 + P]⟩) from OX.out.sl (rec_mem_set HRM.out (HRM.out q0 (List.mem_of_getElem? HX.out))))
    have HLEN := Lib.hid (show (r.set k ⟨q0.kind, q0.ver, q0.seq, q0.nid, q0.add, q0.rem ++ [50 + P]⟩).length ≤ 9 by rw [List.length_set, HN.out]; omega)
    have HA := Lib.hid (hist_any (.slice (some ⟨g, 0, none⟩) n c) (r.set k ⟨q0.kind, q0.ver, q0.seq, q0.nid, q0.add, q0.rem ++ [50 + P]⟩) w4 SR.out (by have := HLEN.out; omega))
    obtain ⟨res, hres⟩ : ∃ res, histV (r.set k ⟨q0.kind, q0.ver, q0.seq, q0.nid, q0.add, q0.rem ++ [50 + P]⟩) = res := ⟨_, rfl⟩
    rw [hres] at HA
    have HRES := Lib.hid hres
    clear hres
    go_wp2_with fail
    refine HA.out.mono ?_
    rintro _ wa ⟨va1, rfl, oa, ba⟩
    obtain ⟨er, hl⟩ := res
    simp only at oa ⊢
    obtain ⟨Aa, ca, rfl, _, _⟩ := oa.form
    have HB := Lib.hid (rhist_any (.slice (some ⟨g, 0, none⟩) n c) (r.set k ⟨q0.kind, q0.ver, q0.seq, q0.nid, q0.add, q0.rem ++ [50 + P]⟩) wa (SR.out.below ba) (by have := HLEN.out; omega))
    rw [HRES.out] at HB
    have OA := Lib.hid oa
    have BA := Lib.hid (bst BB.out ba)
    obtain ⟨M, hM⟩ : ∃ M, hl.length = M := ⟨_, rfl⟩
    rw [hM]
    have HM := Lib.hid hM
    clear oa ba HA hM
    go_wp2_with fail
    refine HB.out.mono ?_
    rintro _ wb ⟨vb, rfl, ob, bb⟩
    simp only at ob ⊢
    obtain ⟨Ab, cb, rfl, _, _⟩ := ob.form
    have OB := Lib.hid ob
    have OAB := Lib.hid (OA.out.below bb)
    have BC := Lib.hid (bst BA.out bb)
    rw [HM.out]
    clear ob bb HB
    go_wp2_with fail
    refine (awake20_any wb).mono ?_
    rintro _ wc ⟨rfl, bc⟩
    have HS := Lib.hid (sameSns_any _ _ hl wc (OAB.out.below bc).sl (OB.out.below bc).sl)
    rw [HM.out] at HS
    have BD := Lib.hid (bst BC.out bc)
    clear bc
    go_wp2_with fail
    refine HS.out.mono ?_
    rintro _ wd ⟨rfl, bd⟩
    have BE := Lib.hid (bst BD.out bd)
    clear bd
    go_wp2
    go_ret
    exact RetBe.mk_ (by simp) BE.out
end Go.Proofs.Ytoikgjhekemjdaa
