/-
  The walk of the law DecimalRescales.
-/
import Derived.Test.YtlchfaakmgclcaaDoorDecFmt
import Derived.Test.YtlchfaakmgclcaaDoorPick
namespace Go.Proofs.YtlchfaakmgclcaaDoor
open Go.RowKit
def RetB1' (w : World) (b : Bool) (e : Ending) (w' : World) : Prop := e = .returned (.bool b) ∧ Below w.heap.size w w'
theorem dec51 : decV 5 1 = ([48, 46, 53], 0) := by decide +kernel
set_option maxHeartbeats 400000 in
theorem awake5_any (w : World) (ht : Tab w) : Calls Tryd.prog 28 #[] w (RetB1' w true) := by
  have C := Lib.hid (show Calls Tryd.prog 25 #[.int .i64 5, .int .i64 1] w (RetDec w ([48, 46, 53], 0)) by rw [← dec51]; exact decfmt_any 5 1 w ht)
  go_enter Tryd.func28, Tryd.ntmps28
  go_wp2_with fail
  refine C.out.mono ?_
  rintro e w1 ⟨rfl, hb1⟩
  have HB := Lib.hid hb1
  clear hb1
  go_wp2
  go_ret
  exact ⟨by simp, HB.out⟩
theorem scale_any (v : Int) (w : World) : Calls Tryd.prog 26 #[.int .i64 v] w fun e w' => e = .returned (.int .i64 (pick v 21 - 1)) ∧ w = w' := by
  have p1 := pick_lo v 21 (by omega)
  have p2 := pick_hi v 21 (by omega)
  go_enter Tryd.func26, Tryd.ntmps26
  go_wp2_with fail
  refine (pick_any v 21 w (by omega) (by omega)).mono ?_
  rintro e w' ⟨rfl, rfl⟩
  go_wp2
  go_ret
  exact ⟨rfl, rfl⟩
set_option maxRecDepth 100000 in
set_option maxHeartbeats 2000000 in
theorem decimalRescales_walk (n s a b : Int) (w : World) (ht : Tab w) (_h0 : -9223372036854775808 ≤ n) (_h1 : n ≤ 9223372036854775807) (s0 : 0 ≤ s) (s1 : s ≤ 255) :
    Calls Tryd.prog 7 #[.int .i64 n, .int .u8 s, .int .i64 a, .int .i64 b] w (RetB1' w true) := by
  have p1 := pick_lo a 21 (by omega)
  have p2 := pick_hi a 21 (by omega)
  have p3 := pick_lo b 21 (by omega)
  have p4 := pick_hi b 21 (by omega)
  have S1 := Lib.hid (fun X => scale_any a X)
  have S2 := Lib.hid (fun X => scale_any b X)
  obtain ⟨x, hx⟩ : ∃ x, pick a 21 - 1 = x := ⟨_, rfl⟩
  obtain ⟨y, hy⟩ : ∃ y, pick b 21 - 1 = y := ⟨_, rfl⟩
  rw [hx] at S1
  rw [hy] at S2
  have hx0 : -1 ≤ x ∧ x ≤ 20 := by omega
  have hy0 : -1 ≤ y ∧ y ≤ 20 := by omega
  clear hx hy p1 p2 p3 p4
  have R1 := Lib.hid (fun m X => rescale_any m x y X (by omega) (by omega) (by omega) (by omega))
  have R2 := Lib.hid (fun m X => rrescale_any m x y X (by omega) (by omega) (by omega) (by omega))
  have HA := Lib.hid (awake5_any w ht)
  clear hx0 hy0
  go_enter Tryd.func7, Tryd.ntmps7
  go_wp2_with (first
    | (with_reducible refine (S1.out _).mono ?_; rintro _ _ ⟨rfl, rfl⟩)
    | (with_reducible refine (S2.out _).mono ?_; rintro _ _ ⟨rfl, rfl⟩))
  refine (R1.out _ _).mono ?_
  rintro _ _ ⟨rfl, rfl⟩
  go_wp2_with (first
    | (with_reducible refine (S1.out _).mono ?_; rintro _ _ ⟨rfl, rfl⟩)
    | (with_reducible refine (S2.out _).mono ?_; rintro _ _ ⟨rfl, rfl⟩))
  refine (R2.out _ _).mono ?_
  rintro _ _ ⟨rfl, rfl⟩
  go_wp2_with fail
  refine HA.out.mono ?_
  rintro _ w1 ⟨rfl, hb⟩
  have HB := Lib.hid hb
  clear hb
  go_wp2
  go_ret
  exact ⟨by simp, HB.out⟩
end Go.Proofs.YtlchfaakmgclcaaDoor
