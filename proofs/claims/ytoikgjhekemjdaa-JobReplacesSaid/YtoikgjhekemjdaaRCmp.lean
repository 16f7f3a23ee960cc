/-
  The contract of ref6.Compare.
-/
import Derived.Test.YtoikgjhekemjdaaBase
namespace Go.Proofs.Ytoikgjhekemjdaa
open Go.RowKit
set_option maxHeartbeats 400000 in
theorem order_any (x y : Bool) (w : World) : Calls Try.prog 118 #[.bool x, .bool y] w (RetI0 w (if x then -1 else if y then 0 else 1)) := by
  cases x <;> cases y
  all_goals
    go_enter Try.func118, Try.ntmps118
    go_wp2
    go_ret
    exact RetI0.mk_ (by simp)
set_option maxHeartbeats 1000000 in
theorem rcompare_any (t : Int) (na : Bool) (xa : Int) (sa : ByteArray) (nb : Bool) (xb : Int) (sb : ByteArray) (w : World) :
    Calls Try.prog 111 #[.int .i64 t, .agg #[.bool na, .int .i64 xa, .string sa], .agg #[.bool nb, .int .i64 xb, .string sb]] w (RetN w (cmpV t na xa sa nb xb sb)) := by
  have hb2 := ((Below.refl w.heap.size w).alloc (Nat.le_refl _) (.cells #[.bool na, .int .i64 xa, .string sa] 30)).alloc (by simp) (.cells #[.bool nb, .int .i64 xb, .string sb] 30)
  cases na <;> cases nb
  · by_cases ht : t = 3
    · have H := Lib.hid (show (if Op.bytesLess sa.toList sb.toList then (-1 : Int) else if sa.toList == sb.toList then 0 else 1) = cmpV t false xa sa false xb sb by
        rw [less_of, Go.ByteArray.toList_eq, Go.ByteArray.toList_eq, ordS_eq]; simp [cmpV, ht])
      have ht' : (t == 3) = true := by simpa using ht
      clear ht
      go_enter Try.func111, Try.ntmps111
      go_wp2_with fail
      refine (order_any _ _ _).mono ?_
      rintro e w1 ⟨rfl, rfl⟩
      rw [H.out]
      go_wp2
      go_ret
      exact RetN.mk_ rfl hb2
    · have H := Lib.hid (show (if decide (xa < xb) then (-1 : Int) else if xa == xb then 0 else 1) = cmpV t false xa sa false xb sb by rw [ordI_eq]; simp [cmpV, ht])
      have ht' : (t == 3) = false := by simpa using ht
      clear ht
      go_enter Try.func111, Try.ntmps111
      go_wp2_with fail
      refine (order_any _ _ _).mono ?_
      rintro e w1 ⟨rfl, rfl⟩
      rw [H.out]
      go_wp2
      go_ret
      exact RetN.mk_ rfl hb2
  all_goals
    go_enter Try.func111, Try.ntmps111
    go_wp2
    go_ret
    exact RetN.mk_ (by simp [cmpV]) hb2
end Go.Proofs.Ytoikgjhekemjdaa
