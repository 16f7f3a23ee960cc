/-
  The contract of ref6.Number: every 64-bit integer's numeral.
-/
import Derived.Test.YtjnamjkdjcndiaaDoorRDigits
import Derived.Test.YtjnamjkdjcndiaaDoorNumLaw
namespace Go.Proofs.YtjnamjkdjcndiaaDoor
open Go.RowKit
theorem itoa_len64 (m : Nat) (h : m ≤ 9223372036854775808) : (Lib.decDigits m).length ≤ 19 := dd_len_lt m 19 (by omega) (Nat.lt_of_le_of_lt h (by decide))
theorem digL0_len (m : Nat) (h : m ≤ 9223372036854775808) : (digL m 0).length ≤ 19 := by
  unfold digL
  split
  · simp
  · rw [List.length_append, List.length_replicate]; have := itoa_len64 m h; omega
theorem digL0_pos (m : Nat) (h : 1 ≤ m) : digL m 0 = Lib.decDigits m := by
  unfold digL; rw [if_neg (by omega)]; simp
theorem tm_neg (m : Nat) : (-(m : Int)).tmod 10 = -((m % 10 : Nat) : Int) := by
  rw [Int.neg_tmod, Int.tmod_eq_emod_of_nonneg (by omega)]; rfl
theorem td_neg (m : Nat) : (-(m : Int)).tdiv 10 = -((m / 10 : Nat) : Int) := by
  rw [Int.neg_tdiv, Int.tdiv_eq_ediv_of_nonneg (by omega)]; rfl
theorem retS_small : ∀ c : Fin 10, (({ data := #[48, 49, 50, 51, 52, 53, 54, 55, 56, 57] } : ByteArray).extract c.val (c.val + 1)).data.toList = Lib.itoa (c.val : Int) := fun c => by
  rw [dig_str c.val c.isLt, Lib.itoa_nonneg, dd_one c.isLt]
set_option maxRecDepth 100000 in
set_option maxHeartbeats 2000000 in
theorem number6_small (c : Nat) (w : World) (hc : c < 10) : Calls Tryd.prog 50 #[.int .i64 c] w (RetS w (Lib.itoa (c : Int))) := by
  have HE := Lib.hid (retS_small ⟨c, hc⟩)
  go_enter Tryd.func50, Tryd.ntmps50
  go_wp2
  go_ret
  exact RetS.mk_ HE.out
set_option maxRecDepth 100000 in
set_option maxHeartbeats 2000000 in
theorem number6_pos (n : Nat) (w : World) (h0 : 10 ≤ n) (hn : n ≤ 9223372036854775807) : Calls Tryd.prog 50 #[.int .i64 n] w (RetS w (Lib.itoa (n : Int))) := by
  have HL := Lib.hid (show (digL n 0).length ≤ 19 from digL0_len n (by omega))
  have HE := Lib.hid (show digL n 0 = Lib.itoa (n : Int) by rw [Lib.itoa_nonneg, digL0_pos n (by omega)])
  have hneg : decide ((n : Int) < 0) = false := decide_eq_false (by omega)
  go_enter Tryd.func50, Tryd.ntmps50
  go_wp2
  go_loop [0, 3] (fun x t => ∃ (m : Nat) (S : ByteArray), x = .int .i64 m ∧ t = .string S ∧ m ≤ 9223372036854775807 ∧ S.size ≤ 19 ∧ Hid (digL m 0 ++ S.data.toList = digL n 0)) (fun x _ => (intOf x).toNat)
  case atStart => exact ⟨n, { data := #[] }, rfl, rfl, hn, by decide, Lib.hid (by simp)⟩
  case round =>
    obtain ⟨m, S, rfl, rfl, hm, hS, hr⟩ := hrel
    by_cases hgo : m = 0
    · subst hgo
      have HF := Lib.hid (show S.data.toList = Lib.itoa (n : Int) by rw [← HE.out, ← hr.out]; rfl)
      go_wp2
      go_ret
      exact RetS.mk_ HF.out
    · have HN := Lib.hid (show digL (m / 10) 0 ++ (UInt8.ofNat (48 + m % 10) :: S.data.toList) = digL n 0 by
        rw [← hr.out, digL_zero m (by omega)]; simp)
      have hS2 : S.size ≤ 18 := by
        have := congrArg List.length HN.out
        have h2 := HL.out
        rw [List.length_append, List.length_cons, sizeD] at this; omega
      have hne : ((m : Int) != 0) = true := by simp; omega
      obtain ⟨D, hD⟩ : ∃ D : ByteArray, (({ data := #[48, 49, 50, 51, 52, 53, 54, 55, 56, 57] } : ByteArray).extract (m % 10) (m % 10 + 1)) = D := ⟨_, rfl⟩
      have hDl : D.data.toList = [UInt8.ofNat (48 + m % 10)] := by rw [← hD]; exact dig_str _ (by omega)
      have hDs : D.size = 1 := by rw [← sizeD, hDl]; rfl
      have HD := Lib.hid hDl
      clear hDl
      go_wp2
      go_round
      case rel => exact ⟨m / 10, D ++ S, by go_num, rfl, by omega, by rw [ByteArray.size_append]; omega, Lib.hid (by rw [ByteArray.data_append, Array.toList_append, HD.out]; exact HN.out)⟩
      case measure => simp [intOf]; omega
set_option maxRecDepth 100000 in
set_option maxHeartbeats 2000000 in
theorem number6_neg (n : Nat) (w : World) (h0 : 1 ≤ n) (hn : n ≤ 9223372036854775808) : Calls Tryd.prog 50 #[.int .i64 (-(n : Int))] w (RetS w (Lib.itoa (-(n : Int)))) := by
  have HL := Lib.hid (show (digL n 0).length ≤ 19 from digL0_len n (by omega))
  have HE := Lib.hid (show 45 :: digL n 0 = Lib.itoa (-(n : Int)) by rw [Lib.itoa_neg n h0, digL0_pos n h0])
  have hneg : decide (-(n : Int) < 0) = true := decide_eq_true (by omega)
  have hneg2 : decide (0 ≤ -(n : Int)) = false := decide_eq_false (by omega)
  go_enter Tryd.func50, Tryd.ntmps50
  go_wp2
  go_loop [0, 3] (fun x t => ∃ (m : Nat) (S : ByteArray), x = .int .i64 (-(m : Int)) ∧ t = .string S ∧ m ≤ 9223372036854775808 ∧ S.size ≤ 19 ∧ Hid (digL m 0 ++ S.data.toList = digL n 0)) (fun x _ => (-(intOf x)).toNat)
  case atStart => exact ⟨n, { data := #[] }, rfl, rfl, hn, by decide, Lib.hid (by simp)⟩
  case round =>
    obtain ⟨m, S, rfl, rfl, hm, hS, hr⟩ := hrel
    by_cases hgo : m = 0
    · subst hgo
      have HF := Lib.hid (show ({ data := #[45] } ++ S : ByteArray).data.toList = Lib.itoa (-(n : Int)) by rw [ByteArray.data_append, Array.toList_append, ← HE.out, ← hr.out]; rfl)
      go_wp2
      go_ret
      exact RetS.mk_ HF.out
    · have HN := Lib.hid (show digL (m / 10) 0 ++ (UInt8.ofNat (48 + m % 10) :: S.data.toList) = digL n 0 by
        rw [← hr.out, digL_zero m (by omega)]; simp)
      have hS2 : S.size ≤ 18 := by
        have := congrArg List.length HN.out
        have h2 := HL.out
        rw [List.length_append, List.length_cons, sizeD] at this; omega
      have hne : (-(m : Int) != 0) = true := by simp; omega
      obtain ⟨c, hc⟩ : ∃ c : Nat, m % 10 = c := ⟨_, rfl⟩
      obtain ⟨q, hq⟩ : ∃ q : Nat, m / 10 = q := ⟨_, rfl⟩
      have t1 := tm_neg m
      have t2 := td_neg m
      rw [hc] at t1 HN
      rw [hq] at t2 HN
      have hcb : c < 10 := by omega
      have hqb : q ≤ 922337203685477580 := by omega
      have hqm : q < m := by omega
      clear hc hq
      by_cases hc0 : c = 0
      · subst hc0
        obtain ⟨D, hD⟩ : ∃ D : ByteArray, (({ data := #[48, 49, 50, 51, 52, 53, 54, 55, 56, 57] } : ByteArray).extract 0 1) = D := ⟨_, rfl⟩
        have hDl : D.data.toList = [UInt8.ofNat (48 + 0)] := by rw [← hD]; exact dig_str 0 (by omega)
        have hDs : D.size = 1 := by rw [← sizeD, hDl]; rfl
        have HD := Lib.hid hDl
        clear hDl
        go_wp2
        go_round
        case rel => exact ⟨q, D ++ S, by go_num, rfl, by omega, by rw [ByteArray.size_append]; omega, Lib.hid (by rw [ByteArray.data_append, Array.toList_append, HD.out]; exact HN.out)⟩
        case measure => simp [intOf]; omega
      · obtain ⟨D, hD⟩ : ∃ D : ByteArray, (({ data := #[48, 49, 50, 51, 52, 53, 54, 55, 56, 57] } : ByteArray).extract c (c + 1)) = D := ⟨_, rfl⟩
        have hDl : D.data.toList = [UInt8.ofNat (48 + c)] := by rw [← hD]; exact dig_str _ (by omega)
        have hDs : D.size = 1 := by rw [← sizeD, hDl]; rfl
        have HD := Lib.hid hDl
        clear hDl
        go_wp2
        go_round
        case rel => exact ⟨q, D ++ S, by go_num, rfl, by omega, by rw [ByteArray.size_append]; omega, Lib.hid (by rw [ByteArray.data_append, Array.toList_append, HD.out]; exact HN.out)⟩
        case measure => simp [intOf]; omega
theorem number6_any (n : Int) (w : World) (h0 : -9223372036854775808 ≤ n) (h1 : n ≤ 9223372036854775807) : Calls Tryd.prog 50 #[.int .i64 n] w (RetS w (Lib.itoa n)) := by
  by_cases hn : n < 0
  · obtain ⟨m, hm⟩ : ∃ m : Nat, n = -(m : Int) := ⟨n.natAbs, by omega⟩
    subst hm
    exact number6_neg m w (by omega) (by omega)
  · obtain ⟨m, rfl⟩ := Int.eq_ofNat_of_zero_le (show 0 ≤ n by omega)
    by_cases hs : m < 10
    · exact number6_small m w hs
    · exact number6_pos m w (by omega) (by omega)
end Go.Proofs.YtjnamjkdjcndiaaDoor
