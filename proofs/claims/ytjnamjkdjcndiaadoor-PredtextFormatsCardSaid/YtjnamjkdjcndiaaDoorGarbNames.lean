/-
  The contracts of garbage.Part, Del, Log and of the reference's.
-/
import Derived.Test.YtjnamjkdjcndiaaDoorAtoi
import Derived.Test.YtjnamjkdjcndiaaDoorRNumber
namespace Go.Proofs.YtjnamjkdjcndiaaDoor
open Go.RowKit Go.Sort
/-- The call answers the string l; nothing that was there has turned. -/
def RetSB (w : World) (l : List UInt8) (e : Ending) (w' : World) : Prop := e = .returned (.string ⟨l.toArray⟩) ∧ Below w.heap.size w w'
theorem RetSB.mk_ {w w' : World} {l : List UInt8} {s : ByteArray} (h : s.data.toList = l) (hb : Below w.heap.size w w') : RetSB w l (.returned (.string s)) w' := by
  subst h; exact ⟨rfl, hb⟩
theorem itoa_len (n : Int) (h0 : -9223372036854775808 ≤ n) (h1 : n ≤ 9223372036854775807) : (Lib.itoa n).length ≤ 20 := by
  unfold Lib.itoa
  split
  · rw [List.length_cons]; have := itoa_len64 n.natAbs (by omega); omega
  · have := itoa_len64 n.toNat (by omega); omega
theorem nameL_bad (c : UInt8) {n : Int} (h : ¬(1 ≤ n ∧ n ≤ 2147483647)) : nameL c n = [] := by unfold nameL; rw [if_neg h]
theorem nameL_good (c : UInt8) {n : Int} (h : 1 ≤ n ∧ n ≤ 2147483647) : nameL c n = c :: Lib.itoa n := by unfold nameL; rw [if_pos h]
theorem nameL_len (c : UInt8) (n : Int) : (nameL c n).length ≤ 30 := by
  by_cases h : 1 ≤ n ∧ n ≤ 2147483647
  · rw [nameL_good c h, List.length_cons]; have := itoa_len n (by omega) (by omega); omega
  · rw [nameL_bad c h]; simp
end Go.Proofs.YtjnamjkdjcndiaaDoor
