/-
  The contract of ref1.FormatDecimal.
-/
import Derived.Test.YtjnamjkdjcndiaaDoorRDigits
namespace Go.Proofs.YtjnamjkdjcndiaaDoor
open Go.RowKit
theorem decStr_split (neg : Bool) (m j : Nat) : decStr neg m j = (if neg then [45] else []) ++ (digL (m / 10 ^ j) 1 ++ (if j = 0 then [] else 46 :: digL (m % 10 ^ j) j)) := by
  obtain ⟨e, l⟩ := padL_split j m
  unfold decStr
  congr 1
  by_cases hj : j = 0
  · subst hj; rw [if_pos rfl, if_pos rfl, e]
    have : digL (m % 10 ^ 0) 0 = [] := List.eq_nil_of_length_eq_zero l
    rw [this]
  · rw [if_neg hj, if_neg hj, e, List.length_append, l, Nat.add_sub_cancel, List.take_left, List.drop_left]; simp
set_option maxRecDepth 100000 in
set_option maxHeartbeats 2000000 in
theorem rdecfmt_any (n k : Int) (w : World) : Calls Tryd.prog 49 #[.int .i64 n, .int .i64 k] w (RetDec w (decV n k)) := by
  have C1 := Lib.hid (fun X => decnum_any n k X)
  by_cases hok : (withB n && scaB k) = true
  case neg =>
    have HF := Lib.hid (show decV n k = ([], 4) by unfold decV; rw [if_neg hok])
    rw [show (withB n && scaB k) = false by simpa using hok] at C1
    clear hok
    go_enter Tryd.func49, Tryd.ntmps49
    go_wp2_with (first
      | (with_reducible refine (C1.out _).mono ?_; rintro _ _ ⟨rfl, rfl⟩))
    go_ret2
    exact RetDec.mk_ (by rw [HF.out]) (by rw [HF.out]) (Below.refl _ _)
  case pos =>
  have HF := Lib.hid (show decV n k = (decStr (decide (n < 0)) n.natAbs k.toNat, 0) by unfold decV; rw [if_pos hok])
  rw [hok] at C1
  simp only [Bool.and_eq_true] at hok
  have k1 := withB_bd hok.1
  have k2 := scaB_bd hok.2
  clear hok
  obtain ⟨j, rfl⟩ := Int.eq_ofNat_of_zero_le k2.1
  rw [Int.toNat_natCast] at HF
  have hj : j ≤ 18 := by omega
  obtain ⟨m, hm⟩ : ∃ m, n.natAbs = m := ⟨_, rfl⟩
  have hm1 : m ≤ 999999999999999999 := by omega
  rw [hm, decStr_split] at HF
  obtain ⟨P, hP⟩ : ∃ P : Nat, 10 ^ j = P := ⟨_, rfl⟩
  have hP1 : 1 ≤ P := by rw [← hP]; exact Nat.pow_pos (by decide)
  have hP2 : P ≤ 1000000000000000000 := by rw [← hP]; exact Nat.le_trans (Nat.pow_le_pow_right (by decide) (show j ≤ 18 by omega)) (by decide)
  have CP := Lib.hid (fun X => retP_of (power_any j X hj))
  rw [hP] at HF CP
  clear hP
  have q1 : m / P ≤ m := Nat.div_le_self _ _
  have q2 : m % P ≤ m := Nat.mod_le _ _
  obtain ⟨Q, hQ⟩ : ∃ Q : ByteArray, Q.data.toList = digL (m / P) 1 := ⟨⟨(digL (m / P) 1).toArray⟩, by simp⟩
  obtain ⟨R, hR⟩ : ∃ R : ByteArray, R.data.toList = digL (m % P) j := ⟨⟨(digL (m % P) j).toArray⟩, by simp⟩
  have CQ := Lib.hid (fun X => retS_of hQ (digits_any (m / P) 1 X (by omega) (by omega)))
  have CR := Lib.hid (fun X => retS_of hR (digits_any (m % P) j X (by omega) hj))
  rw [show ((m / P : Nat) : Int) = wrap64 ((m : Int) / (P : Int)) from by rw [← Int.natCast_ediv]; exact (IntWalk.wrap64_in _ ⟨Int.le_trans (by decide) (Int.natCast_nonneg _), by omega⟩).symm, show ((1 : Nat) : Int) = 1 from rfl] at CQ
  have CR2 := CR
  rw [show ((m % P : Nat) : Int) = (m : Int) % (P : Int) from rfl] at CR
  rw [show ((m % P : Nat) : Int) = wrap64 ((m : Int) % (P : Int)) from by rw [← Int.natCast_emod]; exact (IntWalk.wrap64_in _ ⟨by omega, by omega⟩).symm] at CR2
  have lD : ∀ a b : Nat, a ≤ 999999999999999999 → b ≤ 18 → (digL a b).length ≤ 60 := fun a b ha hb => by
    unfold digL
    rw [List.length_append, List.length_replicate]
    split
    · simp; omega
    · have := itoa_le a ha; rw [Lib.itoa_nonneg] at this; omega
  have lQ : Q.size ≤ 60 := by rw [← sizeD, hQ]; exact lD _ _ (by omega) (by omega)
  have lR : R.size ≤ 60 := by rw [← sizeD, hR]; exact lD _ _ (by omega) hj
  have HQ := Lib.hid hQ
  have HR := Lib.hid hR
  clear hQ hR q1 q2 lD
  by_cases hneg : n < 0
  · obtain rfl : n = -(m : Int) := by omega
    have hm0 : 0 < m := by omega
    clear hm
    by_cases hj0 : j = 0
    · have t0 : decide ((0 : Int) < (j : Int)) = false := by simp; omega
      have HJ := Lib.hid hj0
      have hj2 : ¬0 < j := by omega
      clear hj0
      go_enter Tryd.func49, Tryd.ntmps49
      go_wp2_with (first
        | (with_reducible refine (C1.out _).mono ?_; rintro _ _ ⟨rfl, rfl⟩)
        | (with_reducible refine (CP.out _).mono ?_; rintro _ _ ⟨rfl, rfl⟩)
        | (with_reducible refine (CQ.out _).mono ?_; rintro _ _ ⟨rfl, rfl⟩)
        | (with_reducible refine (CR.out _).mono ?_; rintro _ _ ⟨rfl, rfl⟩)
        | (with_reducible refine (CR2.out _).mono ?_; rintro _ _ ⟨rfl, rfl⟩))
      go_ret2
      exact RetDec.mk_ (by rw [HF.out]; simp only []; rw [if_pos (show decide (-(m : Int) < 0) = true from decide_eq_true hneg), if_pos HJ.out, ← HQ.out]; simp) (by rw [HF.out]) (Below.refl _ _)
    · have t0 : decide ((0 : Int) < (j : Int)) = true := by simp; omega
      have hj1 : 0 < j := by omega
      have HJ := Lib.hid hj0
      clear hj0
      go_enter Tryd.func49, Tryd.ntmps49
      go_wp2_with (first
        | (with_reducible refine (C1.out _).mono ?_; rintro _ _ ⟨rfl, rfl⟩)
        | (with_reducible refine (CP.out _).mono ?_; rintro _ _ ⟨rfl, rfl⟩)
        | (with_reducible refine (CQ.out _).mono ?_; rintro _ _ ⟨rfl, rfl⟩)
        | (with_reducible refine (CR.out _).mono ?_; rintro _ _ ⟨rfl, rfl⟩)
        | (with_reducible refine (CR2.out _).mono ?_; rintro _ _ ⟨rfl, rfl⟩))
      go_ret2
      exact RetDec.mk_ (by rw [HF.out]; simp only []; rw [if_pos (show decide (-(m : Int) < 0) = true from decide_eq_true hneg), if_neg HJ.out, ← HQ.out, ← HR.out]; simp) (by rw [HF.out]) (Below.refl _ _)
  · obtain rfl : n = (m : Int) := by omega
    clear hm
    by_cases hj0 : j = 0
    · have t0 : decide ((0 : Int) < (j : Int)) = false := by simp; omega
      have HJ := Lib.hid hj0
      have hj2 : ¬0 < j := by omega
      clear hj0
      go_enter Tryd.func49, Tryd.ntmps49
      go_wp2_with (first
        | (with_reducible refine (C1.out _).mono ?_; rintro _ _ ⟨rfl, rfl⟩)
        | (with_reducible refine (CP.out _).mono ?_; rintro _ _ ⟨rfl, rfl⟩)
        | (with_reducible refine (CQ.out _).mono ?_; rintro _ _ ⟨rfl, rfl⟩)
        | (with_reducible refine (CR.out _).mono ?_; rintro _ _ ⟨rfl, rfl⟩)
        | (with_reducible refine (CR2.out _).mono ?_; rintro _ _ ⟨rfl, rfl⟩))
      go_ret2
      exact RetDec.mk_ (by rw [HF.out]; simp only []; rw [if_neg (show ¬decide ((m : Int) < 0) = true by simp), if_pos HJ.out, ← HQ.out]; simp) (by rw [HF.out]) (Below.refl _ _)
    · have t0 : decide ((0 : Int) < (j : Int)) = true := by simp; omega
      have hj1 : 0 < j := by omega
      have HJ := Lib.hid hj0
      clear hj0
      go_enter Tryd.func49, Tryd.ntmps49
      go_wp2_with (first
        | (with_reducible refine (C1.out _).mono ?_; rintro _ _ ⟨rfl, rfl⟩)
        | (with_reducible refine (CP.out _).mono ?_; rintro _ _ ⟨rfl, rfl⟩)
        | (with_reducible refine (CQ.out _).mono ?_; rintro _ _ ⟨rfl, rfl⟩)
        | (with_reducible refine (CR.out _).mono ?_; rintro _ _ ⟨rfl, rfl⟩)
        | (with_reducible refine (CR2.out _).mono ?_; rintro _ _ ⟨rfl, rfl⟩))
      go_ret2
      exact RetDec.mk_ (by rw [HF.out]; simp only []; rw [if_neg (show ¬decide ((m : Int) < 0) = true by simp), if_neg HJ.out, ← HQ.out, ← HR.out]; simp) (by rw [HF.out]) (Below.refl _ _)
end Go.Proofs.YtjnamjkdjcndiaaDoor
