/-
  The contracts of date.Leap, date.length, date.Civil and of the reference's Leap, month, january, Civil.
-/
import Derived.Test.YtjnamjkdjcndiaaDoorCal
import Derived.Test.YtjnamjkdjcndiaaDoorBase
namespace Go.Proofs.YtjnamjkdjcndiaaDoor
open Go.RowKit
def RetN' (w : World) (x : Int) (e : Ending) (w' : World) : Prop := e = .returned (.int .i64 x) ∧ w = w'
theorem RetN'.mk_ {w : World} {x y : Int} (h : x = y) : RetN' w x (.returned (.int .i64 y)) w := by subst h; exact ⟨rfl, rfl⟩
theorem ret0_int {P : Program} {f : FuncId} {args : Array Value} {w : World} {x y : Int} (h : x = y) (hc : Calls P f args w (RetN' w x)) : Calls P f args w fun e w' => e = .returned (.int .i64 y) ∧ w = w' := by subst h; exact hc
theorem lp_true {y : Int} (h : leapB y = true) : lp y = 1 := by unfold lp; rw [if_pos h]
theorem lp_false {y : Int} (h : leapB y = false) : lp y = 0 := by unfold lp; rw [h]; rfl
theorem mon_2 {y : Int} {x : Int} (h : lp y = x) : monL y 2 = 28 + x := by unfold monL; rw [if_pos rfl, h]
theorem mon_30 (y : Int) {m : Int} (h : m = 4 ∨ m = 6 ∨ m = 9 ∨ m = 11) : monL y m = 30 := by unfold monL; rw [if_neg (by omega), if_pos h]
theorem mon_31 (y : Int) {m : Int} (h2 : m ≠ 2) (h : ¬(m = 4 ∨ m = 6 ∨ m = 9 ∨ m = 11)) : monL y m = 31 := by unfold monL; rw [if_neg h2, if_neg h]
set_option maxHeartbeats 1000000 in
theorem leap_any (y : Int) (w : World) (h0 : 0 ≤ y) (h1 : y ≤ 100000) : Calls Tryd.prog 85 #[.int .i64 y] w (Ret0 w (leapB y)) := by
  have HL := Lib.hid (show leapB y = ((y % 4 == 0 && y % 100 != 0) || y % 400 == 0) from rfl)
  obtain ⟨a, ha⟩ : ∃ a, y % 4 = a := ⟨_, rfl⟩
  obtain ⟨b, hb⟩ : ∃ b, y % 100 = b := ⟨_, rfl⟩
  obtain ⟨c, hc⟩ : ∃ c, y % 400 = c := ⟨_, rfl⟩
  rw [ha, hb, hc] at HL
  by_cases a0 : a = 0
  · subst a0
    by_cases b0 : b = 0
    · subst b0
      by_cases c0 : c = 0
      · subst c0
        go_enter Tryd.func85, Tryd.ntmps85
        go_wp2
        go_ret
        exact Ret0.mk_ (by rw [HL.out]; rfl)
      · have t : (c == 0) = false := by simpa using c0
        go_enter Tryd.func85, Tryd.ntmps85
        go_wp2
        go_ret
        exact Ret0.mk_ (by rw [HL.out, t]; rfl)
    · have t : (b == 0) = false := by simpa using b0
      have t' : (b != 0) = true := by simpa using b0
      go_enter Tryd.func85, Tryd.ntmps85
      go_wp2
      go_ret
      exact Ret0.mk_ (by rw [HL.out, t']; rfl)
  · have t0 : (a == 0) = false := by simpa using a0
    by_cases c0 : c = 0
    · subst c0
      go_enter Tryd.func85, Tryd.ntmps85
      go_wp2
      go_ret
      exact Ret0.mk_ (by rw [HL.out, t0]; rfl)
    · have t : (c == 0) = false := by simpa using c0
      go_enter Tryd.func85, Tryd.ntmps85
      go_wp2
      go_ret
      exact Ret0.mk_ (by rw [HL.out, t0, t]; rfl)
set_option maxHeartbeats 1000000 in
theorem rleap_any (y : Int) (w : World) (h0 : 0 ≤ y) (h1 : y ≤ 100000) : Calls Tryd.prog 84 #[.int .i64 y] w (Ret0 w (leapB y)) := by
  have HL := Lib.hid (show leapB y = ((y % 4 == 0 && y % 100 != 0) || y % 400 == 0) from rfl)
  obtain ⟨a, ha⟩ : ∃ a, y % 4 = a := ⟨_, rfl⟩
  obtain ⟨b, hb⟩ : ∃ b, y % 100 = b := ⟨_, rfl⟩
  obtain ⟨c, hc⟩ : ∃ c, y % 400 = c := ⟨_, rfl⟩
  rw [ha, hb, hc] at HL
  by_cases a0 : a = 0
  · subst a0
    by_cases b0 : b = 0
    · subst b0
      by_cases c0 : c = 0
      · subst c0
        go_enter Tryd.func84, Tryd.ntmps84
        go_wp2
        go_ret
        exact Ret0.mk_ (by rw [HL.out]; rfl)
      · have t : (c == 0) = false := by simpa using c0
        go_enter Tryd.func84, Tryd.ntmps84
        go_wp2
        go_ret
        exact Ret0.mk_ (by rw [HL.out, t]; rfl)
    · have t : (b == 0) = false := by simpa using b0
      have t' : (b != 0) = true := by simpa using b0
      go_enter Tryd.func84, Tryd.ntmps84
      go_wp2
      go_ret
      exact Ret0.mk_ (by rw [HL.out, t']; rfl)
  · have t0 : (a == 0) = false := by simpa using a0
    by_cases c0 : c = 0
    · subst c0
      go_enter Tryd.func84, Tryd.ntmps84
      go_wp2
      go_ret
      exact Ret0.mk_ (by rw [HL.out, t0]; rfl)
    · have t : (c == 0) = false := by simpa using c0
      go_enter Tryd.func84, Tryd.ntmps84
      go_wp2
      go_ret
      exact Ret0.mk_ (by rw [HL.out, t0, t]; rfl)
set_option maxHeartbeats 1000000 in
theorem mlen_any (y m : Int) (w : World) (h0 : 0 ≤ y) (h1 : y ≤ 100000) : Calls Tryd.prog 75 #[.int .i64 y, .int .i64 m] w (RetN' w (monL y m)) := by
  by_cases m2 : m = 2
  · subst m2
    have C := Lib.hid (leap_any y w h0 h1)
    cases hb : leapB y with
    | true =>
      rw [hb] at C
      have HE := Lib.hid (mon_2 (lp_true hb))
      clear hb
      go_enter Tryd.func75, Tryd.ntmps75
      go_wp2_with fail
      refine C.out.mono ?_
      rintro _ _ ⟨rfl, rfl⟩
      go_wp2
      go_ret
      exact RetN'.mk_ HE.out
    | false =>
      rw [hb] at C
      have HE := Lib.hid (mon_2 (lp_false hb))
      clear hb
      go_enter Tryd.func75, Tryd.ntmps75
      go_wp2_with fail
      refine C.out.mono ?_
      rintro _ _ ⟨rfl, rfl⟩
      go_wp2
      go_ret
      exact RetN'.mk_ HE.out
  · by_cases m30 : m = 4 ∨ m = 6 ∨ m = 9 ∨ m = 11
    · have HE := Lib.hid (mon_30 y m30)
      clear m2
      rcases m30 with rfl | rfl | rfl | rfl
      all_goals
        go_enter Tryd.func75, Tryd.ntmps75
        go_wp2
        go_ret
        exact RetN'.mk_ HE.out
    · have HE := Lib.hid (mon_31 y m2 m30)
      have q1 : (m == 2) = false := by simpa using m2
      have q2 : (m == 4) = false := by simp; omega
      have q3 : (m == 6) = false := by simp; omega
      have q4 : (m == 9) = false := by simp; omega
      have q5 : (m == 11) = false := by simp; omega
      clear m2 m30
      go_enter Tryd.func75, Tryd.ntmps75
      go_wp2
      go_ret
      exact RetN'.mk_ HE.out
set_option maxHeartbeats 1000000 in
theorem rmonth_any (y m : Int) (w : World) (h0 : 0 ≤ y) (h1 : y ≤ 100000) : Calls Tryd.prog 74 #[.int .i64 y, .int .i64 m] w (RetN' w (monL y m)) := by
  by_cases m2 : m = 2
  · subst m2
    have C := Lib.hid (rleap_any y w h0 h1)
    cases hb : leapB y with
    | true =>
      rw [hb] at C
      have HE := Lib.hid (mon_2 (lp_true hb))
      clear hb
      go_enter Tryd.func74, Tryd.ntmps74
      go_wp2_with fail
      refine C.out.mono ?_
      rintro _ _ ⟨rfl, rfl⟩
      go_wp2
      go_ret
      exact RetN'.mk_ HE.out
    | false =>
      rw [hb] at C
      have HE := Lib.hid (mon_2 (lp_false hb))
      clear hb
      go_enter Tryd.func74, Tryd.ntmps74
      go_wp2_with fail
      refine C.out.mono ?_
      rintro _ _ ⟨rfl, rfl⟩
      go_wp2
      go_ret
      exact RetN'.mk_ HE.out
  · by_cases m30 : m = 4 ∨ m = 6 ∨ m = 9 ∨ m = 11
    · have HE := Lib.hid (mon_30 y m30)
      clear m2
      rcases m30 with rfl | rfl | rfl | rfl
      all_goals
        go_enter Tryd.func74, Tryd.ntmps74
        go_wp2
        go_ret
        exact RetN'.mk_ HE.out
    · have HE := Lib.hid (mon_31 y m2 m30)
      have q1 : (m == 2) = false := by simpa using m2
      have q2 : (m == 4) = false := by simp; omega
      have q3 : (m == 6) = false := by simp; omega
      have q4 : (m == 9) = false := by simp; omega
      have q5 : (m == 11) = false := by simp; omega
      clear m2 m30
      go_enter Tryd.func74, Tryd.ntmps74
      go_wp2
      go_ret
      exact RetN'.mk_ HE.out
set_option maxHeartbeats 1000000 in
theorem january_any (y : Int) (w : World) (h0 : 1 ≤ y) (h1 : y ≤ 100000) : Calls Tryd.prog 73 #[.int .i64 y] w (RetN' w (jan y)) := by
  have HE := Lib.hid (show jan y = 365 * (y - 1) + (y - 1) / 4 - (y - 1) / 100 + (y - 1) / 400 - 719162 from rfl)
  go_enter Tryd.func73, Tryd.ntmps73
  go_wp2
  go_ret
  exact RetN'.mk_ (by rw [HE.out, Int.sub_eq_add_neg])
end Go.Proofs.YtjnamjkdjcndiaaDoor
