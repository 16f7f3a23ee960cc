/-
  The contract of value.Put, and of the helper awake of the statements of layer 6.
-/
import Derived.Test.YtoikgjhekemjdaaVarPut
import Derived.Test.YtoikgjhekemjdaaBase
import Derived.WalkSpells
import Derived.Lib.QuietBelow
import Derived.BigQuiet
namespace Go.Proofs.Ytoikgjhekemjdaa
open Go.RowKit Go.Sort
def putV (nul : Bool) (n : Int) (s : ByteArray) : List UInt8 := if nul then [0] else (1 :: Lib.uvarint (Lib.zigzag n)) ++ Lib.uvarint s.size ++ s.data.toList
theorem bs_append (a b : ByteArray) : (a ++ b).data.toList = a.data.toList ++ b.data.toList := by simp
theorem reg_str {P : Program} {f : FuncId} {args : Array Value} {w : World} {l : List UInt8} (h : ∀ W, Calls P f args W (RetStr W l)) : ∀ d os, Calls P f args (grow (redrawn w d) os) fun e w'' => e = .returned (.string ⟨l.toArray⟩) ∧ ∃ p : Regrown, w'' = grow (redrawn w p.d) p.os :=
  fun d os => Calls.regrown_of ((h (grow (redrawn w d) os)).mono fun _ _ h => h)
theorem reg_same {P : Program} {f : FuncId} {args : Array Value} {w : World} {v : Value} (h : ∀ W, Calls P f args W fun e w' => e = .returned v ∧ W = w') : ∀ d os, Calls P f args (grow (redrawn w d) os) fun e w'' => e = .returned v ∧ ∃ p : Regrown, w'' = grow (redrawn w p.d) p.os :=
  fun d os => (h (grow (redrawn w d) os)).mono fun _ _ h => ⟨h.1, ⟨d, os⟩, h.2.symm⟩
def RetB1' (w : World) (b : Bool) (e : Ending) (w' : World) : Prop := e = .returned (.bool b) ∧ Below w.heap.size w w'
theorem put3 : putV false 3 ⟨#[]⟩ = [1, 6, 0] := by
  have e1 : Lib.zigzag 3 = 6 := by decide
  have e2 : (⟨#[]⟩ : ByteArray).size = 0 := rfl
  simp [putV, e1, e2, Lib.uvarint_small]
end Go.Proofs.Ytoikgjhekemjdaa
