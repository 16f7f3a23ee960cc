/-
  The contract of ref1.ParseDecimal.
-/
import Derived.Test.YtgdahafokjdafaaGreatDoorRDecParse0
namespace Go.Proofs.YtgdahafokjdafaaGreatDoor
open Go.RowKit Go.Sort
set_option linter.unusedVariables false
theorem valN_lead {a : List UInt8} (ha : a.all digB = true) (hh : a.headD 0 ≠ 48) (hl : 18 < a.length) (p : List UInt8) (j : Nat) : 999999999999999999 < valP a p j := by
  have hne : a ≠ [] := by intro e; rw [e] at hl; simp at hl
  obtain ⟨_, e⟩ := valN_pos a _ rfl hne ha hh
  have h1 : 999999999999999999 < valN a := by
    by_cases h : valN a < 10 ^ 18
    · have := dd_len_lt (valN a) 18 (by decide) h
      rw [e] at this; omega
    · have e18 : (10 : Nat) ^ 18 = 1000000000000000000 := by decide
      omega
  rw [valP_eq, valN_app]
  have h2 : valN a * 1 ≤ valN a * 10 ^ p.length := Nat.mul_le_mul_left _ (Nat.pow_pos (by decide))
  have h3 : (valN a * 10 ^ p.length + valN p) * 1 ≤ (valN a * 10 ^ p.length + valN p) * 10 ^ j := Nat.mul_le_mul_left _ (Nat.pow_pos (by decide))
  omega
theorem take_val {Z : ByteArray} {q : Nat} (h : q < Z.size) : valN (Z.data.toList.take (q + 1)) = valN (Z.data.toList.take q) * 10 + (Z[q].toNat - 48) := by
  rw [List.take_add_one, get_data Z q h, Option.toList_some, valN_snoc]
theorem take_big {Z : ByteArray} {q : Nat} (h : q < Z.size) (hv : 99999999999999999 < valN (Z.data.toList.take q)) : 999999999999999999 < valN Z.data.toList := by
  have e : Z.data.toList = Z.data.toList.take q ++ Z.data.toList.drop q := (List.take_append_drop q _).symm
  rw [e, valN_app]
  have hl : 1 ≤ (Z.data.toList.drop q).length := by rw [List.length_drop, size_data]; omega
  have h1 : 10 ^ 1 ≤ 10 ^ (Z.data.toList.drop q).length := Nat.pow_le_pow_right (by decide) hl
  have h2 : valN (Z.data.toList.take q) * 10 ^ 1 ≤ valN (Z.data.toList.take q) * 10 ^ (Z.data.toList.drop q).length := Nat.mul_le_mul_left _ h1
  omega
def strSz : Value → Nat
  | .string s => s.size
  | _ => 0
theorem outP_big {ng : Bool} {v : Nat} (h : 999999999999999999 < v) : outP ng v = (0, 8) := if_pos h
theorem outP_small {ng : Bool} {v : Nat} (h : v ≤ 999999999999999999) : outP ng v = (if ng = true then -(v : Int) else (v : Int), 0) := if_neg (by omega)
set_option maxRecDepth 100000 in
set_option maxHeartbeats 4000000 in
theorem rdecpar_any (s : ByteArray) (k : Int) (w : World) (hs : s.size ≤ 140737488351232) :
    Calls Tryz.prog 20 #[.string s, .int .i64 k] w (RetRb w (decP s.data.toList k)) := by
  by_cases hk : scaB k = true
  case neg =>
    have hk' : scaB k = false := by simpa using hk
    have HO := Lib.hid (decP_range (l := s.data.toList) hk')
    have hk2 : k < 0 ∨ (¬(k < 0) ∧ 18 < k) := by unfold scaB at hk'; simp at hk'; omega
    clear hk hk'
    rcases hk2 with h | ⟨h, h'⟩
    all_goals
      go_enter Tryz.func20, Tryz.ntmps20
      go_wp2
      go_ret2
      exact RetRb.mk_ HO.out (Below.refl _ _)
  have HK := Lib.hid hk
  have hk2 := scaB_bd hk
  obtain ⟨j, rfl⟩ := Int.eq_ofNat_of_zero_le hk2.1
  have hj : j ≤ 18 := by omega
  clear hk hk2
  obtain ⟨W, hW⟩ : ∃ W : ByteArray, W.data.toList = spW (bodyL s.data.toList) := ⟨⟨(spW (bodyL s.data.toList)).toArray⟩, by simp⟩
  obtain ⟨F, hF⟩ : ∃ F : ByteArray, F.data.toList = (spR (bodyL s.data.toList)).tail := ⟨⟨(spR (bodyL s.data.toList)).tail.toArray⟩, by simp⟩
  have hWF : W.size + F.size ≤ s.size := by
    rw [← size_data, ← size_data F, ← size_data s, hW, hF]
    have h1 := body_len s.data.toList
    have h2 := congrArg List.length (sp_whole (bodyL s.data.toList))
    rw [List.length_append] at h2
    rw [List.length_tail]
    omega
  have FM := Lib.hid (fun X => form_any s W F hW hF X hs)
  have HW := Lib.hid hW
  have HF := Lib.hid hF
  obtain ⟨ng, hn⟩ : ∃ ng : Bool, negB s.data.toList = ng := ⟨_, rfl⟩
  obtain ⟨z, hz⟩ : ∃ z : Bool, (ng && zeroB (W ++ F).data.toList) = z := ⟨_, rfl⟩
  have HN := Lib.hid hn
  have HZ := Lib.hid hz
  unfold FormRes at FM
  rw [hn, hz] at FM
  have HD := Lib.hid (show formB (bodyL s.data.toList) = true → decP s.data.toList (j : Int) = if z = true then (0, 2) else if (j : Int) < (F.size : Int) then (0, 8) else outP ng (valP W.data.toList F.data.toList (j - F.size)) from fun hf => by
    unfold decP
    rw [if_neg (by rw [HK.out]; decide), if_neg (by rw [hf]; decide), hn, ← hW, ← hF, ← Array.toList_append, ← ByteArray.data_append, hz, size_data, Int.toNat_natCast])
  clear hW hF hn hz
  have DONE : ∀ {r : Int × Int} {n : Nat} {a b : Int}, decP s.data.toList (j : Int) = (a, b) → RetRb w (decP s.data.toList (j : Int)) (.returned (.tuple #[.int .i64 a, .int .i64 b])) (w.drewN n) := fun h => RetRb.mk_ h (below_dn w _)
  go_enter Tryz.func20, Tryz.ntmps20
  go_wp2_with fail
  refine (FM.out _).mono ?_
  rintro _ w1 (⟨hf, rfl, n, rfl⟩ | ⟨hf, rfl, n, rfl⟩)
  · have HO := Lib.hid (decP_form (l := s.data.toList) HK.out hf)
    clear hf
    go_wp2
    go_ret2
    exact RetRb.mk_ HO.out (below_dn w n)
  have HF1 := Lib.hid hf
  have HD1 := Lib.hid (HD.out hf)
  clear hf
  cases z with
  | true =>
    have HO := Lib.hid (HD1.out.trans (if_pos rfl))
    go_wp2
    go_ret2
    exact RetRb.mk_ HO.out (below_dn w n)
  | false =>
  have HD2 := Lib.hid (HD1.out.trans (if_neg (by decide)))
  by_cases hlong : (j : Int) < (F.size : Int)
  · have HO := Lib.hid (HD2.out.trans (if_pos hlong))
    go_wp2
    go_ret2
    exact RetRb.mk_ HO.out (below_dn w n)
  have HD3 := Lib.hid (HD2.out.trans (if_neg hlong))
  have HWd := Lib.hid (show W.data.toList.all digB = true by rw [HW.out]; exact spW_all _)
  by_cases h18 : 18 < W.size
  · have HO := Lib.hid (HD3.out.trans (outP_big (by
      refine valN_lead HWd.out ?_ (by rw [size_data]; exact h18) _ _
      have h := HF1.out
      unfold formB wholeOk at h
      simp only [Bool.and_eq_true, Bool.or_eq_true, decide_eq_true_eq] at h
      rw [← HW.out, size_data] at h
      rcases h.1.2 with h2 | h2
      · omega
      · exact h2)))
    go_wp2
    go_ret2
    exact RetRb.mk_ HO.out (below_dn w n)
  have HFd := Lib.hid (show F.data.toList.all digB = true by
    rw [HF.out]
    have h := HF1.out
    unfold formB at h
    rw [Bool.and_eq_true] at h
    cases hr : spR (bodyL s.data.toList) with
    | nil => rfl
    | cons c p =>
      rw [hr] at h
      simp only [restOk, Bool.and_eq_true] at h
      exact h.2.2.2)
  have hFj : F.size ≤ j := by omega
  have hsum1 : ¬(9223372036854775807 < W.size + F.size) := by omega
  have hsum2 : ¬((9223372036854775807 : Int) < (W.size : Int) + (F.size : Int)) := by omega
  have hlong2 : ¬((j : Int) < (F.size : Int)) := hlong
  go_wp2
  go_loop [11] (fun t => ∃ (m : Nat) (Z : ByteArray), t = .string Z ∧ Hid (Z.data.toList = W.data.toList ++ F.data.toList ++ List.replicate m 48) ∧ m ≤ j - F.size ∧ Hid (Z.size = W.size + F.size + m)) (fun t => W.size + j - strSz t)
  case atStart => exact ⟨0, W ++ F, rfl, Lib.hid (by rw [ByteArray.data_append, Array.toList_append]; simp), by omega, Lib.hid (by rw [ByteArray.size_append]; rfl)⟩
  case round =>
    obtain ⟨m, Z, rfl, hZ, hm, hZs⟩ := hrel
    by_cases hmj : m < j - F.size
    · have c1 : (Z.size : Int) < (W.size : Int) + (j : Int) := by have := hZs.out; omega
      have c2 : ¬(9223372036854775807 < Z.size + 1) := by have := hZs.out; omega
      have c3 : ¬((9223372036854775807 : Int) < (Z.size : Int) + 1) := by omega
      have HX := Lib.hid (show Z.size < W.size + j by omega)
      go_wp2
      go_round
      case rel => exact ⟨m + 1, Z ++ ⟨#[48]⟩, rfl, Lib.hid (by rw [ByteArray.data_append, Array.toList_append, hZ.out, List.replicate_succ']; simp), by omega, Lib.hid (by rw [ByteArray.size_append, hZs.out]; rfl)⟩
      case measure =>
        have := HX.out
        simp only [strSz, ByteArray.size_append]
        show W.size + j - (Z.size + 1) < _
        omega
    · have c1 : ¬((Z.size : Int) < (W.size : Int) + (j : Int)) := by have := hZs.out; omega
      have HZv := Lib.hid (show valN Z.data.toList = valP W.data.toList F.data.toList (j - F.size) by rw [hZ.out, show m = j - F.size by omega]; rfl)
      have HZd := Lib.hid (show Z.data.toList.all digB = true by rw [hZ.out, List.all_append, List.all_append, HWd.out, HFd.out, rep_dig]; rfl)
      have hZb : Z.size ≤ 9223372036854775806 := by have := hZs.out; omega
      have HD4 := Lib.hid (show decP s.data.toList (j : Int) = outP ng (valN Z.data.toList) by rw [HZv.out]; exact HD3.out)
      clear hZ hZs hm hmj
      go_wp2
      go_loop [4, 5, 10, 12] (fun a b v i => a = .int .i64 0 ∧ b = .int .i64 0 ∧ ∃ q : Nat, q ≤ Z.size ∧ i = .int .i64 q ∧ v = .int .i64 (valN (Z.data.toList.take q) : Int) ∧ Hid (valN (Z.data.toList.take q) ≤ 999999999999999999)) (fun _ _ _ i => Z.size - (intOf i).toNat)
      case atStart => exact ⟨rfl, rfl, 0, by omega, rfl, rfl, Lib.hid (by rw [List.take_zero]; decide)⟩
      case round =>
        obtain ⟨rfl, rfl, q, hq, rfl, rfl, hv⟩ := hrel
        by_cases hlq : q < Z.size
        · obtain ⟨v, hve⟩ : ∃ v, valN (Z.data.toList.take q) = v := ⟨_, rfl⟩
          have HVE := Lib.hid hve
          rw [hve] at hv ⊢
          clear hve
          by_cases hbig : (99999999999999999 : Int) < (v : Int)
          · have HO := Lib.hid (HD4.out.trans (outP_big (take_big hlq (by rw [HVE.out]; omega))))
            clear hv
            go_wp2
            go_ret2
            exact RetRb.mk_ HO.out (below_dn w n)
          · have hd : digB Z[q] = true := all_mem HZd.out _ (List.mem_of_getElem? (get_data Z q hlq))
            unfold digB at hd
            rw [decide_eq_true_eq] at hd
            obtain ⟨d1, d2⟩ := hd
            have d3 : 48 ≤ (Z[q].toNat : Int) := by omega
            have d4 : (Z[q].toNat : Int) ≤ 57 := by omega
            have HT := Lib.hid (take_val hlq)
            clear hv d1 d2
            go_wp2
            go_round
            case rel => exact ⟨rfl, rfl, q + 1, by omega, by go_num, by rw [HT.out, HVE.out]; first | go_num | (congr 1; omega), Lib.hid (by rw [HT.out, HVE.out]; omega)⟩
            case measure => simp [intOf]; omega
        · have HO := Lib.hid (HD4.out.trans (outP_small (by have := hv.out; rwa [List.take_of_length_le (by rw [size_data]; omega)] at this)))
          have HTA := Lib.hid (show Z.data.toList.take q = Z.data.toList from List.take_of_length_le (by rw [size_data]; omega))
          rw [HTA.out]
          have hvb := hv.out
          rw [HTA.out] at hvb
          clear hv
          obtain ⟨v, hve⟩ : ∃ v, valN Z.data.toList = v := ⟨_, rfl⟩
          rw [hve] at HO hvb ⊢
          clear hve
          have hvb2 : (v : Int) ≤ 999999999999999999 := by omega
          cases ng
          all_goals
            go_wp2
            go_ret2
            exact RetRb.mk_ HO.out (below_dn w n)
end Go.Proofs.YtgdahafokjdafaaGreatDoor
