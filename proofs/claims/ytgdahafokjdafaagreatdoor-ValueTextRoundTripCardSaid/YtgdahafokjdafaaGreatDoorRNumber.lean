/-
  The contract of ref6.Number: every 64-bit integer's numeral.
-/
import Derived.Test.YtgdahafokjdafaaGreatDoorRDigits
import Derived.Test.YtgdahafokjdafaaGreatDoorNumLaw
namespace Go.Proofs.YtgdahafokjdafaaGreatDoor
open Go.RowKit
theorem itoa_len64 (m : Nat) (h : m ≤ 9223372036854775808) : (Lib.decDigits m).length ≤ 19 := dd_len_lt m 19 (by omega) (Nat.lt_of_le_of_lt h (by decide))
theorem digL0_len (m : Nat) (h : m ≤ 9223372036854775808) : (digL m 0).length ≤ 19 := by
  unfold digL
  split
  · simp
  · rw [List.length_append, List.length_replicate]; have := itoa_len64 m h; omega
theorem digL0_pos (m : Nat) (h : 1 ≤ m) : digL m 0 = Lib.decDigits m := by
  unfold digL; rw [if_neg (by omega)]; simp
theorem tm_neg (m : Nat) : (-(m : Int)).tmod 10 = -((m % 10 : Nat) : Int) := by
  rw [Int.neg_tmod, Int.tmod_eq_emod_of_nonneg (by omega)]; rfl
theorem td_neg (m : Nat) : (-(m : Int)).tdiv 10 = -((m / 10 : Nat) : Int) := by
  rw [Int.neg_tdiv, Int.tdiv_eq_ediv_of_nonneg (by omega)]; rfl
theorem retS_small : ∀ c : Fin 10, (({ data := #[48, 49, 50, 51, 52, 53, 54, 55, 56, 57] } : ByteArray).extract c.val (c.val + 1)).data.toList = Lib.itoa (c.val : Int) := fun c => by
  rw [dig_str c.val c.isLt, Lib.itoa_nonneg, dd_one c.isLt]
end Go.Proofs.YtgdahafokjdafaaGreatDoor
