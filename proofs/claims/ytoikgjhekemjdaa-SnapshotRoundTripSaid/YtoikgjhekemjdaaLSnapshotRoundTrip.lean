/-
  The walk of the law SnapshotRoundTrip.
-/
import Derived.Test.YtoikgjhekemjdaaLHist
import Derived.Test.YtoikgjhekemjdaaChk
import Derived.Test.YtoikgjhekemjdaaHist
import Derived.Test.YtoikgjhekemjdaaSames
namespace Go.Proofs.Ytoikgjhekemjdaa
open Go.RowKit Go.Sort
set_option maxRecDepth 100000 in
set_option maxHeartbeats 4000000 in
theorem snapshotRoundTrip_walk (z1 : Value) (xs : List Int) (w : World)
    (hz : Sl w 1 z1 xs.length (ints xs)) (hzl : xs.length ≤ 9223372036854775807) (hzr : ∀ x ∈ xs, -9223372036854775808 ≤ x ∧ x ≤ 9223372036854775807) :
    Calls Try.prog 8 #[z1] w (RetBe w true) := by
  obtain ⟨Az, cz, rfl, _, _⟩ := hz.form
  have HH := Lib.hid (lhist_any _ xs w hz hzl hzr)
  clear hz hzl hzr
  go_enter Try.func8, Try.ntmps8
  go_wp2_with fail
  refine HH.out.mono ?_
  rintro _ w1 ⟨v1, s, h, rfl, ho1, hk, hb1⟩
  clear HH
  obtain ⟨A1, c1, rfl, _, _⟩ := ho1.form
  have HCK := Lib.hid (chk_any _ (s :: h) w1 ho1.sl hk.small (by have := hk.len; simp; omega))
  obtain ⟨r, hr1, hr2, hr3⟩ := hist_chk hk.ok hk.chain
  have HRS := chkV_small hk.small
  rw [hr1] at HCK HRS
  have HRM := Lib.hid HRS
  have HR3 := Lib.hid hr3
  have HRL := Lib.hid (show r.length ≤ 8 by have := hk.len; omega)
  have O1 := Lib.hid ho1
  have B1 := Lib.hid hb1
  clear ho1 hb1 HRS hr1 hr2 hr3 hk
  obtain ⟨n, hn⟩ : ∃ n, (s :: h).length = n := ⟨_, rfl⟩
  rw [hn] at HCK ⊢
  have HN := Lib.hid hn
  clear hn
  go_wp2_with fail
  refine HCK.out.mono ?_
  rintro _ w2 ⟨v2, rfl, ho2, hb2⟩
  clear HCK
  simp only at ho2
  obtain ⟨A2, c2, rfl, _, _⟩ := ho2.form
  have HHI := Lib.hid (hist_any _ r w2 (ho2.sl HRM.out) (by have := HRL.out; omega))
  rw [HR3.out] at HHI
  have O2 := Lib.hid (O1.out.below hb2)
  have B2 := Lib.hid (bst B1.out hb2)
  obtain ⟨m, hm⟩ : ∃ m, r.length = m := ⟨_, rfl⟩
  rw [hm] at HHI ⊢
  clear hm
  clear ho2 hb2
  go_wp2_with fail
  refine HHI.out.mono ?_
  rintro _ w3 ⟨v3, rfl, ho3, hb3⟩
  clear HHI
  simp only at ho3
  obtain ⟨A3, c3, rfl, _, _⟩ := ho3.form
  have O3 := Lib.hid ho3
  have O31 := Lib.hid (O2.out.below hb3)
  have B3 := Lib.hid (bst B2.out hb3)
  rw [HN.out] at O3 ⊢
  clear ho3 hb3
  go_wp2_with fail
  refine (awake20_any w3).mono ?_
  rintro _ w4 ⟨rfl, hb4⟩
  have HS := Lib.hid (sameSns_any _ _ (s :: h) w4 (O3.out.below hb4).sl (O31.out.below hb4).sl)
  rw [HN.out] at HS
  have B4 := Lib.hid (bst B3.out hb4)
  clear hb4
  go_wp2_with fail
  refine HS.out.mono ?_
  rintro _ w5 ⟨rfl, hb5⟩
  have B5 := Lib.hid (bst B4.out hb5)
  clear hb5
  go_wp2
  go_ret
  exact RetBe.mk_ rfl B5.out
end Go.Proofs.Ytoikgjhekemjdaa
