/-
  The walk of the law ValueExamples.
-/
import Derived.Test.YtgdahafokjdafaaDoorVFmt5
import Derived.Test.YtgdahafokjdafaaDoorValPut
namespace Go.Proofs.YtgdahafokjdafaaDoor
open Go.RowKit
set_option linter.unusedVariables false
theorem exv1 : fmtV 3 0 false false 0 ⟨#[1, 2]⟩ = ([34, 48, 49, 48, 50, 34], 0) := by
  unfold fmtV
  rw [if_neg (by omega), if_neg (by decide), if_neg (by decide), if_neg (by decide), if_neg (by decide), if_neg (by decide), if_pos rfl]
  decide
set_option maxRecDepth 100000 in
set_option maxHeartbeats 2000000 in
theorem valueExamples_walk (w : World) (ht : Tab w) :
    Calls Tryd.prog 3 #[] w (RetB1' w true) := by
  have CF := Lib.hid (vfmt_any ⟨#[]⟩ 3 0 false false 0 ⟨#[1, 2]⟩ w ht (by omega) (by decide))
  rw [exv1] at CF
  have CP := Lib.hid (fun X => vPut_any false 3 ⟨#[]⟩ X (by omega) (by omega) (by decide))
  rw [put3] at CP
  go_enter Tryd.func3, Tryd.ntmps3
  go_wp2_with fail
  refine CF.out.mono ?_
  rintro _ w1 ⟨rfl, hb1⟩
  have HB1 := Lib.hid hb1
  clear hb1
  go_wp2_with fail
  refine (CP.out _).mono ?_
  rintro _ w2 ⟨rfl, hb2⟩
  have HB2 := Lib.hid (bst HB1.out hb2)
  clear hb2
  go_wp2
  go_ret
  exact ⟨by simp, HB2.out⟩
end Go.Proofs.YtgdahafokjdafaaDoor
