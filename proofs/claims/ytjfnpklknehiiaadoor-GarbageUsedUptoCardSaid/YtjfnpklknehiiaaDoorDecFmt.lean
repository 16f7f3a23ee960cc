/-
  The contract of decimal.Format.
-/
import Derived.Test.YtjfnpklknehiiaaDoorBase
import Derived.Test.YtjfnpklknehiiaaDoorShelf
import Derived.Lib.Strings
import Derived.Lib.ItoaLen
import Derived.Lib.Repeat
import Derived.Lib.SmallJoins
import Derived.Lib.QuietBelow
import Derived.Deep.QuietTactic
import Derived.BigQuiet
namespace Go.Proofs.YtjfnpklknehiiaaDoor
open Go.RowKit Go.Sort
/-- The library's table of powers of ten is as its text lays it. -/
abbrev Tab (w : World) : Prop := Lib.TabIs Tryd.prog w "internal/strconv.uint64pow10" .u64 Lib.pow10Tab
theorem tab_glob : Tryd.prog.globalNamed "internal/strconv.uint64pow10" = some 2 := by kernel_rfl
theorem Tab.below {w w' : World} (h : Tab w) (hb : Below w.heap.size w w') : Tab w' := Joins.tab_stays tab_glob h hb (Nat.le_refl _)
theorem sizeD (s : ByteArray) : s.data.toList.length = s.size := by rw [Array.length_toList]; rfl
theorem strEq {s t : ByteArray} (h : s.data.toList = t.data.toList) : s = t := by
  cases s; cases t; simp only [ByteArray.mk.injEq]; exact Array.toList_inj.1 h
def padL (m k : Nat) : List UInt8 := List.replicate (k + 1 - (Lib.itoa m).length) 48 ++ Lib.itoa m
theorem itoa_pos (m : Nat) : 1 ≤ (Lib.itoa (m : Int)).length := by
  rw [Lib.itoa_nonneg, Lib.decDigits_length]; exact Lib.nDigits_pos m
theorem itoa_le (m : Nat) (h : m ≤ 999999999999999999) : (Lib.itoa (m : Int)).length ≤ 21 := Lib.itoa_length_le m (by omega) (by omega)
theorem repeatL_48 (c : Nat) : Lib.repeatL [48] c = List.replicate c 48 := by
  induction c with
  | zero => rfl
  | succ c ih => rw [Lib.repeatL, ih]; rfl
theorem padL_len (m k : Nat) : k < (padL m k).length := by unfold padL; rw [List.length_append, List.length_replicate]; have := itoa_pos m; omega
theorem padL_le (m k : Nat) (h : m ≤ 999999999999999999) (hk : k ≤ 18) : (padL m k).length ≤ 60 := by unfold padL; rw [List.length_append, List.length_replicate]; have := itoa_le m h; omega
/-- The text of a number with a scale. -/
def decStr (neg : Bool) (m k : Nat) : List UInt8 :=
  (if neg then [45] else []) ++ (if k = 0 then padL m k else (padL m k).take ((padL m k).length - k) ++ [46] ++ (padL m k).drop ((padL m k).length - k))
def decV (n k : Int) : List UInt8 × Int := if withB n && scaB k then (decStr (decide (n < 0)) n.natAbs k.toNat, 0) else ([], 4)
theorem fin_eq (sg P : ByteArray) (j : Nat) (_h : j < P.size) : (sg ++ P.extract 0 (P.size - j) ++ { data := #[46] } ++ P.extract (P.size - j) P.size).data.toList = sg.data.toList ++ (P.data.toList.take (P.data.toList.length - j) ++ [46] ++ P.data.toList.drop (P.data.toList.length - j)) := by
  have e1 : (P.extract 0 (P.size - j)).data.toList = P.data.toList.take (P.data.toList.length - j) := by rw [Lib.extract_data, List.drop_zero, sizeD, Nat.sub_zero]
  have e2 : (P.extract (P.size - j) P.size).data.toList = P.data.toList.drop (P.data.toList.length - j) := by
    rw [Lib.extract_data, sizeD]; exact List.take_of_length_le (by rw [List.length_drop, sizeD]; omega)
  rw [ByteArray.data_append, ByteArray.data_append, ByteArray.data_append, Array.toList_append, Array.toList_append, Array.toList_append, e1, e2]
  simp
def RetDec (w : World) (r : List UInt8 × Int) (e : Ending) (w' : World) : Prop := e = .returned (.tuple #[.string ⟨r.1.toArray⟩, .int .i64 r.2]) ∧ Below w.heap.size w w'
theorem RetDec.mk_ {w w' : World} {r : List UInt8 × Int} {s : ByteArray} {x : Int} (h1 : s.data.toList = r.1) (h2 : x = r.2) (hb : Below w.heap.size w w') : RetDec w r (.returned (.tuple #[.string s, .int .i64 x])) w' := by
  subst h2; unfold RetDec; rw [← h1]; exact ⟨rfl, hb⟩
theorem below_gd (w : World) (k : Nat) (os : Array Obj) : Below w.heap.size w (grow (w.drewN k) os) := by
  have := below_regrown w (w.drawn + k) os
  exact this
end Go.Proofs.YtjfnpklknehiiaaDoor
