/-
  The walk of the law SnapshotWindows.
-/
import Derived.Test.YtoikgjhekemjdaaWin
import Derived.Test.YtoikgjhekemjdaaChk
import Derived.Test.YtoikgjhekemjdaaHist
import Derived.Test.YtoikgjhekemjdaaSames
namespace Go.Proofs.Ytoikgjhekemjdaa
open Go.RowKit Go.Sort
theorem win_len {H : List Snp} {n : Int} (h : 1 ≤ n) : ((winV H n).length : Int) = min n (H.length : Int) := by
  unfold winV; rw [if_neg (by omega), List.length_drop]; omega
theorem win_chain {s : Snp} {h : List Snp} {n : Int} (hk : HistOk s h) (hn : 1 ≤ n) : ∃ x t, winV (s :: h) n = x :: t ∧ x.okB = true ∧ Chain x t := by
  obtain ⟨K, hK⟩ : ∃ K : Nat, (s :: h).length - n.toNat = K := ⟨_, rfl⟩
  have hKl : K < (s :: h).length := by simp at hK ⊢; omega
  obtain ⟨h1, t, h2, h3⟩ := chain_drop hk.ok hk.chain (List.getElem?_eq_getElem hKl)
  refine ⟨_, t, ?_, h1, h3⟩
  unfold winV; rw [if_neg (by omega), hK]; exact h2
theorem win_mem {H : List Snp} {n : Int} {t : Snp} (h : t ∈ winV H n) : t ∈ H := by
  unfold winV at h
  split at h
  · simp at h
  · exact List.mem_of_mem_drop h
set_option maxRecDepth 100000 in
set_option maxHeartbeats 8000000 in
theorem snapshotWindows_walk (z1 : Value) (xs : List Int) (k : Int) (w : World)
    (hz : Sl w 1 z1 xs.length (ints xs)) (hzl : xs.length ≤ 9223372036854775807) (hzr : ∀ x ∈ xs, -9223372036854775808 ≤ x ∧ x ≤ 9223372036854775807) (hkr : -9223372036854775808 ≤ k ∧ k ≤ 9223372036854775807) :
    Calls Try.prog 9 #[z1, .int .i64 k] w (RetBe w true) := by
  obtain ⟨Az, cz, rfl, _, _⟩ := hz.form
  have HH := Lib.hid (lhist_any _ xs w hz hzl hzr)
  have HKR := Lib.hid hkr
  clear hz hzl hzr hkr
  go_enter Try.func9, Try.ntmps9
  go_wp2_with fail
  refine HH.out.mono ?_
  rintro _ w1 ⟨v1, s, h, rfl, ho1, hk, hb1⟩
  clear HH
  have HWN := Lib.hid (fun (n : Int) (hn : 1 ≤ n) => win_chain hk hn)
  obtain ⟨H, hH⟩ : ∃ H, s :: h = H := ⟨_, rfl⟩
  have hl8 : H.length ≤ 8 := by rw [← hH]; have := hk.len; simp; omega
  have hl0 : 0 < H.length := by rw [← hH]; simp
  have HSM := Lib.hid (show ∀ t ∈ H, ∀ e ∈ t.l, e.small by rw [← hH]; exact hk.small)
  have HLE := Lib.hid (show ∀ t ∈ H, t.l.length ≤ 1000000 by
    rw [← hH]; intro t ht
    obtain ⟨j, hj, e⟩ := List.mem_iff_getElem.1 ht
    have := len_ok' (chain_at hk.ok hk.chain (show (s :: h)[j]? = some t by rw [List.getElem?_eq_getElem hj, e]))
    omega)
  rw [hH] at ho1
  simp only [hH] at HWN
  clear hk hH
  obtain ⟨A1, c1, rfl, _, _⟩ := ho1.form
  obtain ⟨ad, _, _, _, hA, _⟩ := ho1.sl.load (k := 0) rfl hl0
  cases hA
  have S1 := Lib.hid ho1.sl
  have B1 := Lib.hid hb1
  clear ho1 hb1
  obtain ⟨q, hq⟩ : ∃ q, pick k 12 = q := ⟨_, rfl⟩
  have hq0 : 0 ≤ q := by rw [← hq]; exact pick_lo _ _ (by omega)
  have hq1 : q < 12 := by rw [← hq]; exact pick_hi _ _ (by omega)
  have HPK := Lib.hid (pick_any k 12 w1 (by omega) (by omega))
  rw [hq] at HPK
  clear hq
  go_wp2_with fail
  refine HPK.out.mono ?_
  rintro _ _ ⟨rfl, rfl⟩
  have HWI := Lib.hid (win_any ad c1 H (q - 1) w1 S1.out hl0 (by omega) HLE.out (by omega))
  go_wp2_with fail
  refine HWI.out.mono ?_
  rintro _ w2 ⟨v2, rfl, hs2, hb2⟩
  obtain ⟨A2, c2, rfl, _, _⟩ := hs2.form
  obtain ⟨L, hL⟩ : ∃ L, winV H (q - 1) = L := ⟨_, rfl⟩
  rw [hL] at hs2 ⊢
  have HLL := Lib.hid hL
  have S2 := Lib.hid hs2
  have S12 := Lib.hid (S1.out.below hb2)
  have B2 := Lib.hid (bst B1.out hb2)
  have HW2 := Lib.hid (rwin_any ad c1 H (q - 1) w2 S12.out hl0 (by omega) (by omega))
  rw [hL] at HW2
  clear hs2 hb2 hL HWI
  go_wp2_with fail
  refine HW2.out.mono ?_
  rintro _ w3 ⟨v3, rfl, hs3, hb3⟩
  obtain ⟨A3, c3, rfl, _, _⟩ := hs3.form
  have S13 := Lib.hid (S12.out.below hb3)
  have S23 := Lib.hid (S2.out.below hb3)
  have B3 := Lib.hid (bst B2.out hb3)
  have HSA := Lib.hid (sameSns_any _ _ L w3 S23.out hs3)
  clear hs3 hb3 HW2
  go_wp2_with fail
  refine HSA.out.mono ?_
  rintro _ w4 ⟨rfl, hb4⟩
  have S14 := Lib.hid (S13.out.below hb4)
  have S24 := Lib.hid (S23.out.below hb4)
  have B4 := Lib.hid (bst B3.out hb4)
  have HW4 := Lib.hid (win_any ad c1 H k w4 S14.out hl0 (by omega) HLE.out HKR.out)
  clear hb4 HSA
  go_wp2_with fail
  refine HW4.out.mono ?_
  rintro _ w5 ⟨v5, rfl, hs5, hb5⟩
  obtain ⟨A5, c5, rfl, _, _⟩ := hs5.form
  have S15 := Lib.hid (S14.out.below hb5)
  have S25 := Lib.hid (S24.out.below hb5)
  have S55 := Lib.hid hs5
  have B5 := Lib.hid (bst B4.out hb5)
  have HW5 := Lib.hid (rwin_any ad c1 H k w5 S15.out hl0 (by omega) HKR.out)
  clear hs5 hb5 HW4
  go_wp2_with fail
  refine HW5.out.mono ?_
  rintro _ w6 ⟨v6, rfl, hs6, hb6⟩
  obtain ⟨A6, c6, rfl, _, _⟩ := hs6.form
  have S26 := Lib.hid (S25.out.below hb6)
  have B6 := Lib.hid (bst B5.out hb6)
  have HSB := Lib.hid (sameSns_any _ _ (winV H k) w6 (S55.out.below hb6) hs6)
  clear hs6 hb6 HW5
  go_wp2_with fail
  refine HSB.out.mono ?_
  rintro _ w7 ⟨rfl, hb7⟩
  have S27 := Lib.hid (S26.out.below hb7)
  have B7 := Lib.hid (bst B6.out hb7)
  clear hb7 HSB
  by_cases hn : q - 1 < 1
  · have hd1 : decide (q - 1 < 1) = true := by simpa using hn
    have hL0 : L = [] := by rw [← HLL.out]; unfold winV; exact if_pos hn
    subst hL0
    go_wp2_with fail
    refine (awake20_any w7).mono ?_
    rintro _ w8 ⟨rfl, hb8⟩
    have B8 := Lib.hid (bst B7.out hb8)
    clear hb8
    go_wp2
    go_ret
    exact RetBe.mk_ rfl B8.out
  · have hd1 : decide (q - 1 < 1) = false := by simpa using hn
    obtain ⟨x, t, hx1, hx2, hx3⟩ := HWN.out (q - 1) (by omega)
    rw [HLL.out] at hx1
    have HML := Lib.hid (show (L.length : Int) = min (q - 1) (H.length : Int) by rw [← HLL.out]; exact win_len (by omega))
    have hmin := HML.out.symm
    have hLs : ∀ t ∈ L, ∀ e ∈ t.l, e.small := fun t ht => HSM.out t (win_mem (by rw [HLL.out]; exact ht))
    have hLL8 : L.length ≤ 8 := by have := HML.out; omega
    have HCK := Lib.hid (chk_any _ L w7 S27.out hLs (by omega))
    obtain ⟨r, hr1, hr2, hr3⟩ := hist_chk hx2 hx3
    rw [← hx1] at hr1 hr3
    have HRM := chkV_small hLs
    rw [hr1] at HCK HRM
    have HRS := Lib.hid HRM
    have HR3 := Lib.hid hr3
    have HRL := Lib.hid (show r.length ≤ 8 by rw [hr2]; have := congrArg List.length hx1; simp at this; omega)
    have HN := Lib.hid hn
    clear HRM hr1 hr2 hr3 hx1 hx2 hx3 hn hLs
    go_wp2_with fail
    refine HCK.out.mono ?_
    rintro _ w8 ⟨v8, rfl, ho8, hb8⟩
    simp only at ho8
    obtain ⟨A8, c8, rfl, _, _⟩ := ho8.form
    have HHI := Lib.hid (hist_any _ r w8 (ho8.sl HRS.out) (by have := HRL.out; omega))
    rw [HR3.out] at HHI
    have S28 := Lib.hid (S27.out.below hb8)
    have B8 := Lib.hid (bst B7.out hb8)
    clear ho8 hb8 HCK
    go_wp2_with fail
    refine HHI.out.mono ?_
    rintro _ w9 ⟨v9, rfl, ho9, hb9⟩
    simp only at ho9
    obtain ⟨A9, c9, rfl, _, _⟩ := ho9.form
    have S29 := Lib.hid (S28.out.below hb9)
    have B9 := Lib.hid (bst B8.out hb9)
    have O9 := Lib.hid ho9
    clear ho9 hb9 HHI
    go_wp2_with fail
    refine (awake20_any w9).mono ?_
    rintro _ wA ⟨rfl, hbA⟩
    have BA := Lib.hid (bst B9.out hbA)
    have HSC := Lib.hid (sameSns_any _ _ L wA (O9.out.below hbA).sl (S29.out.below hbA))
    clear hbA
    go_wp2_with fail
    refine HSC.out.mono ?_
    rintro _ wB ⟨rfl, hbB⟩
    have BB := Lib.hid (bst BA.out hbB)
    clear hbB
    go_wp2
    go_ret
    exact RetBe.mk_ (by simp) BB.out
end Go.Proofs.Ytoikgjhekemjdaa
