/-
  Texts of bytes in plain Lean: pairs of hexadecimal digits in quotes; that they read what Format writes.
-/
import Derived.Test.YtgdahafokjdafaaGreatDoorNameSpec
namespace Go.Proofs.YtgdahafokjdafaaGreatDoor
open Go.RowKit
def hexV (c : UInt8) : Nat := if 48 ≤ c.toNat ∧ c.toNat ≤ 57 then c.toNat - 48 else if 97 ≤ c.toNat ∧ c.toNat ≤ 102 then c.toNat - 87 else 16
def hexA (l : List UInt8) (j : Nat) : Nat := hexV (l.getD (1 + 2 * j) 0)
def hexD (l : List UInt8) (j : Nat) : Nat := hexV (l.getD (2 + 2 * j) 0)
def okQ (l : List UInt8) (j : Nat) : Bool := decide (hexA l j < 16 ∧ hexD l j < 16)
def hexQ (l : List UInt8) (j : Nat) : UInt8 := UInt8.ofNat (16 * hexA l j + hexD l j)
def allQ (l : List UInt8) (n : Nat) : Bool := (List.range n).all (okQ l)
def outQ (l : List UInt8) (n : Nat) : List UInt8 := (List.range n).map (hexQ l)
/-- What the text of bytes reads as. -/
def bytV (l : List UInt8) : List UInt8 × Int :=
  if l.length < 2 ∨ l.length % 2 ≠ 0 ∨ l.headD 0 ≠ 34 ∨ l.getD (l.length - 1) 0 ≠ 34 then ([], 2)
  else if allQ l ((l.length - 2) / 2) = false then ([], 2) else if 64 < (l.length - 2) / 2 then ([], 4) else (outQ l ((l.length - 2) / 2), 0)
theorem hexV_le (c : UInt8) : hexV c ≤ 16 := by unfold hexV; split; omega; split <;> omega
theorem allQ_succ (l : List UInt8) (n : Nat) : allQ l (n + 1) = (allQ l n && okQ l n) := by unfold allQ; rw [List.range_succ, List.all_append]; simp
theorem outQ_succ (l : List UInt8) (n : Nat) : outQ l (n + 1) = outQ l n ++ [hexQ l n] := by unfold outQ; rw [List.range_succ, List.map_append]; rfl
theorem outQ_len (l : List UInt8) (n : Nat) : (outQ l n).length = n := by unfold outQ; rw [List.length_map, List.length_range]
theorem allQ_stop {l : List UInt8} {j n : Nat} (hj : j < n) (h : okQ l j = false) : allQ l n = false := by
  unfold allQ; rw [List.all_eq_false]; exact ⟨j, List.mem_range.2 hj, by rw [h]; decide⟩
theorem getD_at {s : ByteArray} {k : Nat} (h : k < s.size) : s.data.toList.getD k 0 = s[k] := by
  rw [List.getD_eq_getElem?_getD, get_data s k h]; rfl
end Go.Proofs.YtgdahafokjdafaaGreatDoor
