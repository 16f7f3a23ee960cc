/-
  What value.Format and ref6.Format make of values of type Bytes; the contract of ref6.Format at them.
-/
import Derived.Test.YtgdahafokjdafaaGreatDoorVFmt2
import Derived.Test.YtgdahafokjdafaaGreatDoorVarPut
import Derived.Test.YtgdahafokjdafaaGreatDoorBase
import Derived.Deep.QuietTactic
import Derived.BigQuiet
import Derived.Laws.BytesArg
namespace Go.Proofs.YtgdahafokjdafaaGreatDoor
open Go.RowKit Go.Sort
set_option linter.unusedVariables false
theorem and15 (x : Nat) (h : x < 256) : bits .and .u8 (x : Int) 15 = ((x % 16 : Nat) : Int) := by
  have : ∀ x : Fin 256, bits .and .u8 ((x.val : Nat) : Int) 15 = ((x.val % 16 : Nat) : Int) := by decide +kernel
  exact this ⟨x, h⟩
abbrev hexS : ByteArray := { data := #[48, 49, 50, 51, 52, 53, 54, 55, 56, 57, 97, 98, 99, 100, 101, 102] }
def hexI (l : List UInt8) : List Int := l.flatMap fun c => [((hexC (c.toNat / 16)).toNat : Int), ((hexC (c.toNat % 16)).toNat : Int)]
theorem check_bytes {cn : Bool} {n : Int} {s : ByteArray} (h : checkV 3 cn false n s = 0) : s.size ≤ 64 := by
  unfold checkV at h
  rw [if_neg (by omega)] at h
  split at h
  · cases h
  · split at h
    · cases h
    · split at h
      · cases h
      · split at h
        · cases h
        · rename_i hp
          simp [permB] at hp
          omega
theorem hexS_at (c : Nat) (h : c < 16) : (hexS.extract c (c + 1)).data.toList = [hexC c] := by
  have : ∀ c : Fin 16, (hexS.extract c.val (c.val + 1)).data.toList = [hexC c.val] := by decide +kernel
  exact this ⟨c, h⟩
theorem hexL_snoc {s : ByteArray} {m : Nat} (h : m < s.size) : hexL (s.data.toList.take (m + 1)) = hexL (s.data.toList.take m) ++ [hexC (s[m].toNat / 16), hexC (s[m].toNat % 16)] := by
  rw [List.take_add_one, get_data s m h, Option.toList_some]
  simp [hexL]
end Go.Proofs.YtgdahafokjdafaaGreatDoor
