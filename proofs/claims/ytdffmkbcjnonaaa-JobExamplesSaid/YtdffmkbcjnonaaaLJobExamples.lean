/-
  The walk of the law JobExamples.
-/
import Derived.Test.YtdffmkbcjnonaaaSteps
namespace Go.Proofs.Ytdffmkbcjnonaaa
open Go.RowKit
set_option maxHeartbeats 400000 in
theorem jobExamples_walk (w : World) : Calls Try.prog 4 #[] w (RetBool w true) := by
  have hR : reads [3, 2, 4] 5 = [[0, 1], [2]] := by decide
  have hO : outs 7 3 = [3, 3, 1] := by decide
  have hT : sameL [[0, 1], [2]] [[0, 1], [2]] = true := by decide
  have hU : same [3, 3, 1] [3, 3, 1] = true := by decide
  have HR := Lib.hid hR
  have HO := Lib.hid hO
  have HT := Lib.hid hT
  have HU := Lib.hid hU
  clear hR hO hT hU
  go_enter Try.func4, Try.ntmps4
  go_wp2_with fail
  refine (reads_any _ [3, 2, 4] 5 _ (lit_sl w 3 [3, 2, 4] (by decide)) (by decide) (by decide)).mono ?_
  rw [HR.out]
  rintro e w1 ⟨v1, vs, rfl, hbel, hown, hll⟩
  have hb1 : Below w.heap.size w w1 := bst ((Below.refl _ _).alloc (Nat.le_refl _) _) hbel
  obtain ⟨A1, c1, rfl, _, _⟩ := (Sl.of_own hown).form
  go_wp2_with fail
  have hb2 := litW_below w1 25 3 [0, 1] [2]
  refine (sameL_any _ _ vs _ [[0, 1], [2]] [[0, 1], [2]] (litW w1 25 3 [0, 1] [2]) ((Sl.of_own hown).below hb2) (litW_sl w1 _ _ _ _) (hll.rl.below hb2) (litW_rl w1 _ _ _ _ (by decide) (by decide))).mono ?_
  rw [HT.out]
  rintro e w2 ⟨rfl, n, hw2⟩
  have hb3 : Below w.heap.size w w2 := by rw [hw2]; exact below_drewN (bst hb1 hb2) n
  clear hw2
  go_wp2_with fail
  refine (outs_any 7 3 _).mono ?_
  rw [HO.out]
  rintro e w3 ⟨v3, rfl, hb4, hown3⟩
  obtain ⟨A3, c3, rfl, _, _⟩ := (Sl.of_own hown3).form
  go_wp2_with fail
  refine (same_any _ _ [3, 3, 1] [3, 3, 1] _ ((Sl.of_own hown3).alloc _) (lit_sl w3 3 [3, 3, 1] (by decide))).mono ?_
  rw [HU.out]
  rintro e w4 ⟨rfl, n, hw4⟩
  have hb5 : Below w.heap.size w w4 := by rw [hw4]; exact below_drewN ((bst hb3 hb4).alloc (bst hb3 hb4).size _) n
  clear hw4
  go_wp2
  go_ret
  exact ⟨rfl, hb5⟩
end Go.Proofs.Ytdffmkbcjnonaaa
