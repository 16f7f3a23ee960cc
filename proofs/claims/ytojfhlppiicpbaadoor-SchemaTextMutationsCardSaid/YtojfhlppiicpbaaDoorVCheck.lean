/-
  The contracts of value.Check and ref6.Check.
-/
import Derived.Test.YtojfhlppiicpbaaDoorBase
import Derived.Test.YtojfhlppiicpbaaDoorNameSpec
namespace Go.Proofs.YtojfhlppiicpbaaDoor
open Go.RowKit
def permB (t n : Int) (s : ByteArray) : Bool :=
  if t = 2 then decide (n = 0 ∨ n = 1) else if t = 4 then decide (-719162 ≤ n ∧ n ≤ 2932896) else if t = 5 then decide (-999999999999999999 ≤ n ∧ n ≤ 999999999999999999) else if t = 3 then decide (s.size ≤ 64) else true
def checkV (t : Int) (cn : Bool) (nul : Bool) (n : Int) (s : ByteArray) : Int :=
  if t < 1 ∨ 5 < t then 1 else if (nul = true ∨ t ≠ 3) ∧ s.size ≠ 0 then 11 else if (nul = true ∨ t = 3) ∧ n ≠ 0 then 11 else if nul = true ∧ cn = false then 12 else if nul = false ∧ permB t n s = false then 4 else 0
def RetB1 (w : World) (b : Bool) (e : Ending) (w' : World) : Prop := e = .returned (.bool b) ∧ Below w.heap.size w w'
theorem RetB1.mk_ {w w' : World} {b b' : Bool} (h : b = b') (hb : Below w.heap.size w w') : RetB1 w b (.returned (.bool b')) w' := by subst h; exact ⟨rfl, hb⟩
set_option maxHeartbeats 400000 in
theorem typed_any (t : Int) (b : Bool) (hb : b = decide (1 ≤ t ∧ t ≤ 5)) (w : World) : Calls Tryd.prog 39 #[.int .i64 t] w (Ret0 w b) := by
  by_cases h1 : t < 1
  · have H := Lib.hid (show b = false by rw [hb]; simp; omega)
    clear hb
    go_enter Tryd.func39, Tryd.ntmps39
    go_wp2
    go_ret
    exact Ret0.mk_ H.out
  · by_cases h2 : 5 < t
    · have H := Lib.hid (show b = false by rw [hb]; simp; omega)
      have hd : decide (t ≤ 5) = false := by simp; omega
      clear hb
      go_enter Tryd.func39, Tryd.ntmps39
      go_wp2
      go_ret
      exact Ret0.mk_ H.out
    · have H := Lib.hid (show b = true by rw [hb]; simp; omega)
      have hd : decide (t ≤ 5) = true := by simp; omega
      clear hb
      go_enter Tryd.func39, Tryd.ntmps39
      go_wp2
      go_ret
      exact Ret0.mk_ H.out
end Go.Proofs.YtojfhlppiicpbaaDoor
