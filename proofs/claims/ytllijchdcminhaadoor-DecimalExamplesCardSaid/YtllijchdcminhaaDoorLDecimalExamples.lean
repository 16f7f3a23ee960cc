/-
  The walk of the law DecimalExamples.
-/
import Derived.Test.YtllijchdcminhaaDoorLawDec
namespace Go.Proofs.YtllijchdcminhaaDoor
open Go.RowKit
set_option linter.unusedVariables false
theorem exd1 : decV (-105) 2 = ([45, 49, 46, 48, 53], 0) := by decide +kernel
theorem exd2 : decP [49, 46, 53] 2 = (150, 0) := by decide +kernel
theorem exd3 : rescaleV 150 2 1 = (15, 0) := by decide +kernel
theorem exd4 : rescaleV 155 2 1 = (0, 8) := by decide +kernel
set_option maxRecDepth 100000 in
set_option maxHeartbeats 2000000 in
theorem decimalExamples_walk (w : World) (ht : Env w) :
    Calls Tryd.prog 5 #[] w (RetB1' w true) := by
  have HT0 := Lib.hid ht
  have CF := Lib.hid (fun X (h : Tab X) => retDec_of (T := { data := #[45, 49, 46, 48, 53] }) (b := 0) (by rw [exd1]) (by rw [exd1]) (decfmt_any (-105) 2 X h))
  have CP := Lib.hid (fun X (h : Env X) => retRb_of (a := 150) (b := 0) exd2 (decpar_any { data := #[49, 46, 53] } 2 X h (by decide)))
  have CR := Lib.hid (fun X => retRs_of2 (a := 15) (b := 0) exd3 (rescale_any 150 2 1 X (by omega) (by omega) (by omega) (by omega)))
  have CS := Lib.hid (fun X => retRs_of2 (a := 0) (b := 8) exd4 (rescale_any 155 2 1 X (by omega) (by omega) (by omega) (by omega)))
  clear ht
  go_enter Tryd.func5, Tryd.ntmps5
  go_wp2_with fail
  refine (CF.out _ HT0.out.tab).mono ?_
  rintro _ w1 ⟨rfl, hb1⟩
  have HT1 := Lib.hid (HT0.out.below hb1)
  have HB1 := Lib.hid hb1
  clear hb1
  go_wp2_with fail
  refine (CP.out _ HT1.out).mono ?_
  rintro _ w2 ⟨rfl, hb2⟩
  have HB2 := Lib.hid (bst HB1.out hb2)
  clear hb2
  go_wp2_with fail
  refine (CR.out _).mono ?_
  rintro _ _ ⟨rfl, rfl⟩
  go_wp2_with fail
  refine (CS.out _).mono ?_
  rintro _ _ ⟨rfl, rfl⟩
  go_wp2
  go_ret
  exact ⟨by simp, HB2.out⟩
end Go.Proofs.YtllijchdcminhaaDoor
