/-
  The contract of keep.Same at string.
-/
import Derived.Test.YtojfhlppiicpbaaDoorProg
import Derived.Test.YtojfhlppiicpbaaDoorStrs
import Derived.Test.YtojfhlppiicpbaaDoorBase
import Derived.Lib.SlicesS
import Derived.Deep.QuietTactic
import Derived.BigQuiet
namespace Go.Proofs.YtojfhlppiicpbaaDoor
open Go.RowKit
theorem strs_ne {s t : ByteArray} (h : s ≠ t) : (s.toList != t.toList) = true := by
  have := (Lib.bytes_beq_false_iff s t).2 h
  simp only [bne, this, Bool.not_false]
theorem strs_eq {s t : ByteArray} (h : s = t) : (s.toList != t.toList) = false := by
  have := (Lib.bytes_beq_iff s t).2 h
  simp only [bne, this, Bool.not_true]
theorem strq_ne {s t : ByteArray} (h : s ≠ t) : (s.toList == t.toList) = false := (Lib.bytes_beq_false_iff s t).2 h
theorem strq_eq {s t : ByteArray} (h : s = t) : (s.toList == t.toList) = true := (Lib.bytes_beq_iff s t).2 h
def sameS (xs ys : List ByteArray) : Bool := decide (xs = ys)
theorem sameS_len {xs ys : List ByteArray} (h : xs.length ≠ ys.length) : false = sameS xs ys := by unfold sameS; symm; rw [decide_eq_false_iff_not]; rintro rfl; exact h rfl
theorem sameS_no {xs ys : List ByteArray} {k : Nat} {x y : ByteArray} (hx : xs[k]? = some x) (hy : ys[k]? = some y) (h : ¬ x = y) : false = sameS xs ys := by
  unfold sameS; symm; rw [decide_eq_false_iff_not]; rintro rfl; rw [hx] at hy; injection hy with e; exact h e
theorem sameS_yes {xs ys : List ByteArray} (h : xs = ys) : true = sameS xs ys := by unfold sameS; symm; rw [decide_eq_true_eq]; exact h
end Go.Proofs.YtojfhlppiicpbaaDoor
