/-
  The walk of the law DecimalRoundTrip.
-/
import Derived.Test.YtllijchdcminhaaDoorLawDec
namespace Go.Proofs.YtllijchdcminhaaDoor
open Go.RowKit
set_option linter.unusedVariables false
set_option maxRecDepth 100000 in
set_option maxHeartbeats 2000000 in
theorem decimalRoundTrip_walk (n s a : Int) (w : World) (ht : Env w) (s0 : 0 ≤ s) (s1 : s ≤ 255) :
    Calls Tryd.prog 4 #[.int .i64 n, .int .u8 s, .int .i64 a] w (RetB1' w true) := by
  have CN := Lib.hid (number_any n s w s0 s1)
  have p1 := pick_lo a 19 (by omega)
  have p2 := pick_hi a 19 (by omega)
  have P1 := Lib.hid (fun X => pick_any a 19 X (by omega) (by omega))
  obtain ⟨i, hi⟩ := Int.eq_ofNat_of_zero_le p1
  rw [hi] at p2 P1
  have hi18 : i ≤ 18 := by omega
  have HT0 := Lib.hid ht
  clear hi p1 ht
  go_enter Tryd.func4, Tryd.ntmps4
  go_wp2_with fail
  refine (P1.out _).mono ?_
  rintro _ _ ⟨rfl, rfl⟩
  go_wp2_with fail
  refine CN.out.mono ?_
  rintro _ _ ⟨m, rfl, m0, m1, rfl⟩
  obtain ⟨T, hT⟩ : ∃ T : ByteArray, T.data.toList = decStr (decide (m < 0)) m.natAbs i := ⟨⟨(decStr (decide (m < 0)) m.natAbs i).toArray⟩, by simp⟩
  have hTs : T.size ≤ 62 := by rw [← size_data, hT]; exact decStr_len _ _ _ (by omega) hi18
  have CF := Lib.hid (fun X (h : Tab X) => retDec_of (T := T) (b := 0) (by rw [decV_in m0 m1 hi18]; exact hT) (by rw [decV_in m0 m1 hi18]) (decfmt_any m i X h))
  have CP := Lib.hid (fun X (h : Env X) => retRb_of (a := m) (b := 0) (by rw [hT, show ((i : Int)) = (i : Int) + (0 : Nat) by omega, parse_back m0 m1 (by omega)]; rfl) (decpar_any T i X h (by omega)))
  clear hT
  go_wp2_with fail
  refine (CF.out _ HT0.out.tab).mono ?_
  rintro _ w1 ⟨rfl, hb1⟩
  have HT1 := Lib.hid (HT0.out.below hb1)
  have HB1 := Lib.hid hb1
  clear hb1
  go_wp2_with fail
  refine (CP.out _ HT1.out).mono ?_
  rintro _ w2 ⟨rfl, hb2⟩
  have HT2 := Lib.hid (HT1.out.below hb2)
  have HB2 := Lib.hid (bst HB1.out hb2)
  clear hb2
  go_wp2_with fail
  refine (awake5_any _ HT2.out.tab).mono ?_
  rintro _ w5 ⟨rfl, hb5⟩
  have HB5 := Lib.hid (bst HB2.out hb5)
  clear hb5
  go_wp2
  go_ret
  exact ⟨by simp, HB5.out⟩
end Go.Proofs.YtllijchdcminhaaDoor
