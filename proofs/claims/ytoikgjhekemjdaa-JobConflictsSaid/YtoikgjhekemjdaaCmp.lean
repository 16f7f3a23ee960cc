/-
  The contracts of value.Compare and ref6.Compare: one order of values.
-/
import Derived.Test.YtoikgjhekemjdaaProg
import Derived.Test.YtoikgjhekemjdaaMem
import Derived.WalkLawsBesides
namespace Go.Proofs.Ytoikgjhekemjdaa
open Go.RowKit
def ordI (a b : Int) : Int := if a < b then -1 else if b < a then 1 else 0
def ordS (a b : List UInt8) : Int := if a < b then -1 else if a = b then 0 else 1
/-- The order of two values of type t: null first. -/
def cmpV (t : Int) (na : Bool) (xa : Int) (sa : ByteArray) (nb : Bool) (xb : Int) (sb : ByteArray) : Int :=
  if na && nb then 0 else if na then -1 else if nb then 1 else if t = 3 then ordS sa.data.toList sb.data.toList else ordI xa xb
/-- The call answers the number x; the world is as it was. -/
def RetI0 (w : World) (x : Int) (e : Ending) (w' : World) : Prop := e = .returned (.int .i64 x) ∧ w = w'
theorem RetI0.mk_ {w : World} {x x' : Int} (h : x = x') : RetI0 w x (.returned (.int .i64 x')) w := by subst h; exact ⟨rfl, rfl⟩
/-- The call answers the number x; nothing that was there has turned. -/
def RetN (w : World) (x : Int) (e : Ending) (w' : World) : Prop := e = .returned (.int .i64 x) ∧ Below w.heap.size w w'
theorem RetN.mk_ {w w' : World} {x x' : Int} (h : x = x') (hb : Below w.heap.size w w') : RetN w x (.returned (.int .i64 x')) w' := by subst h; exact ⟨rfl, hb⟩
/-- The model's '<' on strings is the lexical order of the bytes. -/
theorem less_lex : ∀ (x y : List UInt8), Op.bytesLess x y = decide (x < y)
  | [], [] => by simp [Op.bytesLess]
  | _ :: _, [] => by simp [Op.bytesLess]
  | [], _ :: _ => by simp [Op.bytesLess]
  | a :: x, b :: y => by
    rw [Op.bytesLess, less_lex x y]
    simp only [List.cons_lt_cons_iff]
    by_cases h1 : a < b <;> by_cases h2 : a = b <;> by_cases h3 : x < y <;> simp [h1, h2, h3]
theorem less_of (a b : ByteArray) : Op.bytesLess a.toList b.toList = decide (a.data.toList < b.data.toList) := by
  rw [Go.ByteArray.toList_eq, Go.ByteArray.toList_eq]; exact less_lex _ _
theorem ordS_eq (a b : List UInt8) : (if decide (a < b) then (-1 : Int) else if a == b then 0 else 1) = ordS a b := by simp [ordS]
theorem ordI_eq (a b : Int) : (if decide (a < b) then (-1 : Int) else if a == b then 0 else 1) = ordI a b := by
  unfold ordI
  by_cases h : a < b
  · simp [h]
  · by_cases h2 : b < a
    · have : a ≠ b := by omega
      simp [h, h2, this]
    · have : a = b := by omega
      simp [this]
end Go.Proofs.Ytoikgjhekemjdaa
