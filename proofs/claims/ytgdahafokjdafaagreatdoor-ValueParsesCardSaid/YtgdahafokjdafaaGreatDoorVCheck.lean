/-
  The contracts of value.Check and ref6.Check.
-/
import Derived.Test.YtgdahafokjdafaaGreatDoorCmp
import Derived.Test.YtgdahafokjdafaaGreatDoorNameSpec
namespace Go.Proofs.YtgdahafokjdafaaGreatDoor
open Go.RowKit
def permB (t n : Int) (s : ByteArray) : Bool :=
  if t = 2 then decide (n = 0 ∨ n = 1) else if t = 4 then decide (-719162 ≤ n ∧ n ≤ 2932896) else if t = 5 then decide (-999999999999999999 ≤ n ∧ n ≤ 999999999999999999) else if t = 3 then decide (s.size ≤ 64) else true
def checkV (t : Int) (cn : Bool) (nul : Bool) (n : Int) (s : ByteArray) : Int :=
  if t < 1 ∨ 5 < t then 1 else if (nul = true ∨ t ≠ 3) ∧ s.size ≠ 0 then 11 else if (nul = true ∨ t = 3) ∧ n ≠ 0 then 11 else if nul = true ∧ cn = false then 12 else if nul = false ∧ permB t n s = false then 4 else 0
def RetB1 (w : World) (b : Bool) (e : Ending) (w' : World) : Prop := e = .returned (.bool b) ∧ Below w.heap.size w w'
theorem RetB1.mk_ {w w' : World} {b b' : Bool} (h : b = b') (hb : Below w.heap.size w w') : RetB1 w b (.returned (.bool b')) w' := by subst h; exact ⟨rfl, hb⟩
set_option maxHeartbeats 1000000 in
theorem perm_any (t n : Int) (nul : Bool) (s : ByteArray) (w : World) (hs : s.size ≤ 9223372036854775807) :
    Calls Tryz.prog 52 #[.int .i64 t, .agg #[.bool nul, .int .i64 n, .string s]] w (RetB1 w (permB t n s)) := by
  have hb := (Below.refl w.heap.size w).alloc (Nat.le_refl _) (.cells #[.bool nul, .int .i64 n, .string s] 28)
  by_cases h2 : t = 2
  · subst h2
    by_cases hn : n = 0
    · have H := Lib.hid (show permB 2 n s = true by simp [permB, hn])
      have hn0 : (n == 0) = true := by simpa using hn
      clear hn
      go_enter Tryz.func52, Tryz.ntmps52
      go_wp2
      go_ret
      exact RetB1.mk_ H.out hb
    · have hn0 : (n == 0) = false := by simpa using hn
      by_cases hn1 : n = 1
      · have H := Lib.hid (show permB 2 n s = true by simp [permB, hn1])
        have hn1' : (n == 1) = true := by simpa using hn1
        clear hn hn1
        go_enter Tryz.func52, Tryz.ntmps52
        go_wp2
        go_ret
        exact RetB1.mk_ H.out hb
      · have H := Lib.hid (show permB 2 n s = false by simp [permB, hn, hn1])
        have hn1' : (n == 1) = false := by simpa using hn1
        clear hn hn1
        go_enter Tryz.func52, Tryz.ntmps52
        go_wp2
        go_ret
        exact RetB1.mk_ H.out hb
  by_cases h4 : t = 4
  · subst h4
    by_cases hn : n < -719162
    · have H := Lib.hid (show permB 4 n s = false by simp [permB]; omega)
      go_enter Tryz.func52, Tryz.ntmps52
      go_wp2
      go_ret
      exact RetB1.mk_ H.out hb
    · by_cases hn1 : 2932896 < n
      · have H := Lib.hid (show permB 4 n s = false by simp [permB]; omega)
        have hd : decide (n ≤ 2932896) = false := by simp; omega
        go_enter Tryz.func52, Tryz.ntmps52
        go_wp2
        go_ret
        exact RetB1.mk_ H.out hb
      · have H := Lib.hid (show permB 4 n s = true by simp [permB]; omega)
        have hd : decide (n ≤ 2932896) = true := by simp; omega
        go_enter Tryz.func52, Tryz.ntmps52
        go_wp2
        go_ret
        exact RetB1.mk_ H.out hb
  by_cases h5 : t = 5
  · subst h5
    by_cases hn : n < -999999999999999999
    · have H := Lib.hid (show permB 5 n s = false by simp [permB]; omega)
      go_enter Tryz.func52, Tryz.ntmps52
      go_wp2
      go_ret
      exact RetB1.mk_ H.out hb
    · by_cases hn1 : 999999999999999999 < n
      · have H := Lib.hid (show permB 5 n s = false by simp [permB]; omega)
        have hd : decide (n ≤ 999999999999999999) = false := by simp; omega
        go_enter Tryz.func52, Tryz.ntmps52
        go_wp2
        go_ret
        exact RetB1.mk_ H.out hb
      · have H := Lib.hid (show permB 5 n s = true by simp [permB]; omega)
        have hd : decide (n ≤ 999999999999999999) = true := by simp; omega
        go_enter Tryz.func52, Tryz.ntmps52
        go_wp2
        go_ret
        exact RetB1.mk_ H.out hb
  by_cases h3 : t = 3
  · subst h3
    by_cases hn : s.size ≤ 64
    · have H := Lib.hid (show permB 3 n s = true by simp [permB]; omega)
      have hd : decide ((s.size : Int) ≤ 64) = true := by simp; omega
      go_enter Tryz.func52, Tryz.ntmps52
      go_wp2
      go_ret
      exact RetB1.mk_ H.out hb
    · have H := Lib.hid (show permB 3 n s = false by simp [permB]; omega)
      have hd : decide ((s.size : Int) ≤ 64) = false := by simp; omega
      go_enter Tryz.func52, Tryz.ntmps52
      go_wp2
      go_ret
      exact RetB1.mk_ H.out hb
  have H := Lib.hid (show permB t n s = true by simp [permB, h2, h3, h4, h5])
  have e2 : (t == 2) = false := by simpa using h2
  have e3 : (t == 3) = false := by simpa using h3
  have e4 : (t == 4) = false := by simpa using h4
  have e5 : (t == 5) = false := by simpa using h5
  clear h2 h3 h4 h5
  go_enter Tryz.func52, Tryz.ntmps52
  go_wp2
  go_ret
  exact RetB1.mk_ H.out hb
set_option maxHeartbeats 400000 in
theorem known_any (t : Int) (b : Bool) (hb : b = decide (1 ≤ t ∧ t ≤ 5)) (w : World) : Calls Tryz.prog 12 #[.int .i64 t] w (Ret0 w b) := by
  by_cases h1 : t < 1
  · have H := Lib.hid (show b = false by rw [hb]; simp; omega)
    clear hb
    go_enter Tryz.func12, Tryz.ntmps12
    go_wp2
    go_ret
    exact Ret0.mk_ H.out
  · by_cases h2 : 5 < t
    · have H := Lib.hid (show b = false by rw [hb]; simp; omega)
      have hd : decide (t ≤ 5) = false := by simp; omega
      clear hb
      go_enter Tryz.func12, Tryz.ntmps12
      go_wp2
      go_ret
      exact Ret0.mk_ H.out
    · have H := Lib.hid (show b = true by rw [hb]; simp; omega)
      have hd : decide (t ≤ 5) = true := by simp; omega
      clear hb
      go_enter Tryz.func12, Tryz.ntmps12
      go_wp2
      go_ret
      exact Ret0.mk_ H.out
set_option maxHeartbeats 400000 in
theorem typed_any (t : Int) (b : Bool) (hb : b = decide (1 ≤ t ∧ t ≤ 5)) (w : World) : Calls Tryz.prog 17 #[.int .i64 t] w (Ret0 w b) := by
  by_cases h1 : t < 1
  · have H := Lib.hid (show b = false by rw [hb]; simp; omega)
    clear hb
    go_enter Tryz.func17, Tryz.ntmps17
    go_wp2
    go_ret
    exact Ret0.mk_ H.out
  · by_cases h2 : 5 < t
    · have H := Lib.hid (show b = false by rw [hb]; simp; omega)
      have hd : decide (t ≤ 5) = false := by simp; omega
      clear hb
      go_enter Tryz.func17, Tryz.ntmps17
      go_wp2
      go_ret
      exact Ret0.mk_ H.out
    · have H := Lib.hid (show b = true by rw [hb]; simp; omega)
      have hd : decide (t ≤ 5) = true := by simp; omega
      clear hb
      go_enter Tryz.func17, Tryz.ntmps17
      go_wp2
      go_ret
      exact Ret0.mk_ H.out
end Go.Proofs.YtgdahafokjdafaaGreatDoor
