/-
  The contracts of job.Outputs and ref27.Outputs: both divide the live rows into the same parts.
-/
import Derived.Test.YtoikgjhekemjdaaProg
import Derived.Test.YtoikgjhekemjdaaOutsSpec
namespace Go.Proofs.Ytoikgjhekemjdaa
open Go.RowKit
theorem info_int : (Try.prog.info? 3).map (fun i => (i.zero, i.size, i.bytes)) = some (some (.int .i64 0), 1, 8) := by kernel_rfl

set_option maxHeartbeats 400000 in
theorem outs_any (live rows : Int) (w : World) :
    Calls Try.prog 105 #[.int .i64 live, .int .i64 rows] w (RetRow w 3 1 (outs live rows).length (ints (outs live rows))) := by
  by_cases h1 : live < 1
  · have hfin := Lib.hid (show outs live rows = [] by simp [outs, h1])
    go_enter Try.func105, Try.ntmps105
    go_wp2
    go_ret
    exact RetRow.nil_ _ _ _ (by rw [hfin.out]; rfl) (by rw [hfin.out]; rfl)
  by_cases h2 : rows < 1
  · have hfin := Lib.hid (show outs live rows = [] by simp [outs, h2])
    go_enter Try.func105, Try.ntmps105
    go_wp2
    go_ret
    exact RetRow.nil_ _ _ _ (by rw [hfin.out]; rfl) (by rw [hfin.out]; rfl)
  by_cases h3 : 16384 < live
  · have hfin := Lib.hid (show outs live rows = [] by simp [outs, h3])
    go_enter Try.func105, Try.ntmps105
    go_wp2
    go_ret
    exact RetRow.nil_ _ _ _ (by rw [hfin.out]; rfl) (by rw [hfin.out]; rfl)
  have Hfin := Lib.hid (show outs live rows = parts rows live.toNat live by simp only [outs]; rw [if_neg (by omega)])
  go_enter Try.func105, Try.ntmps105
  go_wp2
  go_loopw [0, 5] (fun x v wr => ∃ (n : Int) (l : List Int), 0 ≤ n ∧ n + l.length ≤ live ∧ x = .int .i64 n ∧ wr.ownsRow w.heap.size 3 1 v l.length (ints l) ∧ Below w.heap.size w wr ∧ Hid (l ++ parts rows n.toNat n = parts rows live.toNat live))
    (fun x _ _ => (intOf x).toNat)
  case atStart => exact ⟨live, [], by omega, by simp, rfl, World.ownsRow_nil _ _ _ _, Below.refl _ _, rfl⟩
  case round =>
    obtain ⟨n, l, hn0, hnl, rfl, hown, hbel, hh⟩ := hrel
    by_cases hlt : 0 < n
    · by_cases hr : rows < n
      · have hstep := Lib.hid (parts_next l rows n (parts rows live.toNat live) rows (by omega) hlt (by omega) hh.out)
        clear hh
        go_wp2_with (at_builtin; go_must (refine app1 _ _ hown hbel (Nat.le_refl _) hbel.size Try.underlying36 info_int rfl (by decide) rfl (oneInt _ _) (by omega) (by omega) rfl rfl rfl rfl ?_))
        intro g' cap' w1 hown' hbel' _ _
        clear hown hbel
        go_wp2
        go_roundw
        case rel => exact ⟨n - rows, l ++ [rows], by omega, by simp; omega, by go_num, own_ints hown', hbel', hstep.out⟩
        case measure => simp [intOf]; omega
      · have hstep := Lib.hid (parts_next l rows n (parts rows live.toNat live) n (by omega) hlt (by omega) hh.out)
        clear hh
        go_wp2_with (at_builtin; go_must (refine app1 _ _ hown hbel (Nat.le_refl _) hbel.size Try.underlying36 info_int rfl (by decide) rfl (oneInt _ _) (by omega) (by omega) rfl rfl rfl rfl ?_))
        intro g' cap' w1 hown' hbel' _ _
        clear hown hbel
        go_wp2
        go_roundw
        case rel => exact ⟨n - n, l ++ [n], by omega, by simp; omega, by go_num, own_ints hown', hbel', hstep.out⟩
        case measure => simp [intOf]; omega
    · go_wp2
      go_ret
      have e := hh.out
      rw [parts_end rows n (by omega), List.append_nil, ← Hfin.out] at e
      subst e
      exact RetRow.mk_ hbel hown rfl rfl
end Go.Proofs.Ytoikgjhekemjdaa
