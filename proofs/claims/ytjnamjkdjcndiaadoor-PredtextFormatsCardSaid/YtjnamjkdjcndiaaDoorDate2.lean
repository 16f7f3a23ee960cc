/-
  The contracts of date.Civil and of ref1.Civil.
-/
import Derived.Test.YtjnamjkdjcndiaaDoorDate1
namespace Go.Proofs.YtjnamjkdjcndiaaDoor
open Go.RowKit
def RetCiv (w : World) (n : Int) (e : Ending) (w' : World) : Prop := ∃ y m d : Int, IsCiv n y m d ∧ e = .returned (.tuple #[.int .i64 y, .int .i64 m, .int .i64 d, .int .i64 0]) ∧ w = w'
theorem jan_10000 : jan 10000 = 2932897 := by decide
theorem jan_1 : jan 1 = -719162 := by decide
theorem year_in {n Y : Int} (hn : n ≤ 2932896) (h : jan Y ≤ n) : Y ≤ 9999 := by
  by_cases hb : Y ≤ 9999
  · exact hb
  · have := jan_mono 10000 Y (by omega); rw [jan_10000] at this; omega
/-- A round of the search for the month. -/
theorem mon_step {Y q0 q : Int} {j : Nat} (hj : j ≤ 11) (hq : q = q0 - cum Y j) (h0 : q0 < 365 + lp Y) (hm : monL Y ((j : Int) + 1) ≤ q) : j + 1 ≤ 11 ∧ q - monL Y ((j : Int) + 1) = q0 - cum Y (j + 1) := by
  have h5 := cum_12 Y
  refine ⟨?_, by simp only [cum]; omega⟩
  by_cases h : j = 11
  · subst h
    have : cum Y 12 = cum Y 11 + monL Y (((11 : Nat) : Int) + 1) := rfl
    omega
  · omega
set_option maxRecDepth 100000 in
set_option maxHeartbeats 2000000 in
theorem civil_in (n : Int) (w : World) (h0 : -719162 ≤ n) (h1 : n ≤ 2932896) : Calls Tryd.prog 66 #[.int .i64 n] w (RetCiv w n) := by
  obtain ⟨N, hN⟩ : ∃ N, n + 719162 = N := ⟨_, rfl⟩
  have hN0 : 0 ≤ N := by omega
  have hN1 : N ≤ 3652058 := by omega
  obtain ⟨a, ha⟩ : ∃ a, N / 146097 = a := ⟨_, rfl⟩
  obtain ⟨r, hr⟩ : ∃ r, N % 146097 = r := ⟨_, rfl⟩
  obtain ⟨c, hc⟩ : ∃ c, min (r / 36524) 3 = c := ⟨_, rfl⟩
  obtain ⟨s, hs⟩ : ∃ s, r - c * 36524 = s := ⟨_, rfl⟩
  obtain ⟨b, hb⟩ : ∃ b, s / 1461 = b := ⟨_, rfl⟩
  obtain ⟨t, ht⟩ : ∃ t, s % 1461 = t := ⟨_, rfl⟩
  obtain ⟨k, hk⟩ : ∃ k, min (t / 365) 3 = k := ⟨_, rfl⟩
  obtain ⟨q0, hq0⟩ : ∃ q, t - k * 365 = q := ⟨_, rfl⟩
  obtain ⟨Y, hY⟩ : ∃ Y, 1 + 400 * a + 100 * c + 4 * b + k = Y := ⟨_, rfl⟩
  have hcy := civ_cycle N hN0 a r ha.symm hr.symm c s hc.symm hs.symm b t hb.symm ht.symm k hk.symm
  rw [hY, hq0] at hcy
  obtain ⟨hj, hqa, hqb, c0, c1, b0, b1, k0, k1, a0⟩ := hcy
  have ha1 : a ≤ 24 := by omega
  have hr1 : 0 ≤ r ∧ r ≤ 146096 := by omega
  have hs1 : 0 ≤ s ∧ s ≤ 146096 := by omega
  have ht1 : 0 ≤ t ∧ t ≤ 1460 := by omega
  have hY2 : Y ≤ 9999 := year_in h1 (by omega)
  have hY1 : 1 ≤ Y := by omega
  have HQ := Lib.hid hqb
  have HJ := Lib.hid (fun (q : Int) {j : Nat} (hq : q = q0 - cum Y j) => (show q = n - jan Y - cum Y j by omega))
  have hql := lp_01 Y
  have hqc : q0 ≤ 366 := by omega
  clear hj hqb hql
  go_enter Tryd.func66, Tryd.ntmps66
  go_wp2_with fail
  go_loop [0, 3] (fun x m => ∃ (j : Nat) (q : Int), j ≤ 11 ∧ m = .int .i64 ((j : Int) + 1) ∧ x = .int .i64 q ∧ 0 ≤ q ∧ q ≤ 366 ∧ Hid (q = q0 - cum Y j)) (fun _ m => (12 - intOf m).toNat)
  case atStart => exact ⟨0, q0, by omega, rfl, rfl, hqa, hqc, Lib.hid (by simp [cum])⟩
  case round =>
    clear hN ha hr hc hs hb ht hk hq0 hY
    obtain ⟨j, q, hj, rfl, rfl, hq0, hq3, hq⟩ := hrel
    have hmb := monL_bd Y ((j : Int) + 1)
    have C := Lib.hid (fun X => ret0_int rfl (mlen_any Y ((j : Int) + 1) X (by omega) (by omega)))
    have HS := Lib.hid (fun h => mon_step hj hq.out HQ.out h)
    have HF := Lib.hid (fun (h : q < monL Y ((j : Int) + 1)) => civ_mk (n := n) ⟨hY1, hY2⟩ hj (HJ.out q hq.out) hq0 h)
    obtain ⟨M, hM⟩ : ∃ M, monL Y ((j : Int) + 1) = M := ⟨_, rfl⟩
    rw [hM] at hmb C HS HF
    clear hM
    by_cases hge : M ≤ q
    · obtain ⟨hs1, hs2⟩ := HS.out hge
      have HS2 := Lib.hid hs2
      have hge' : decide (M ≤ q) = true := decide_eq_true hge
      clear hs2 HS HF
      go_wp2_with (first
        | (with_reducible refine (C.out _).mono ?_; rintro _ _ ⟨rfl, rfl⟩))
      go_round
      case rel => exact ⟨j + 1, q - M, by omega, by go_num, by go_num, by omega, by omega, Lib.hid HS2.out⟩
      case measure => simp [intOf]; omega
    · have hlt : q < M := by omega
      have HF2 := Lib.hid (HF.out hlt)
      clear HS HF
      go_wp2_with (first
        | (with_reducible refine (C.out _).mono ?_; rintro _ _ ⟨rfl, rfl⟩))
      exact bodyPost_ret (v := .tuple #[.int .i64 Y, .int .i64 ((j : Int) + 1), .int .i64 (q + 1), .int .i64 0]) (by simp [results, Tryd.results66, go_sem]) rfl ⟨Y, _, _, HF2.out, rfl, rfl⟩
set_option maxRecDepth 100000 in
set_option maxHeartbeats 2000000 in
theorem rcivil_in (n : Int) (w : World) (h0 : -719162 ≤ n) (h1 : n ≤ 2932896) : Calls Tryd.prog 61 #[.int .i64 n] w (RetCiv w n) := by
  obtain ⟨N, hN⟩ : ∃ N, n + 719162 = N := ⟨_, rfl⟩
  have hN0 : 0 ≤ N := by omega
  have hN1 : N ≤ 3652058 := by omega
  obtain ⟨y0, hy0⟩ : ∃ y, max 1 (N / 366) = y := ⟨_, rfl⟩
  have hyb : 1 ≤ y0 ∧ y0 ≤ 9979 := by omega
  have HY0 := Lib.hid (show jan y0 ≤ n by
    by_cases h : N / 366 ≤ 1
    · rw [show y0 = 1 by omega, jan_1]; exact h0
    · unfold jan; omega)
  have HN := Lib.hid hN
  go_enter Tryd.func61, Tryd.ntmps61
  go_wp2_with fail
  go_loop [6] (fun y => ∃ Y : Int, 1 ≤ Y ∧ Y ≤ 9999 ∧ y = .int .i64 Y ∧ Hid (jan Y ≤ n)) (fun y => (9999 - intOf y).toNat)
  case atStart => exact ⟨y0, by omega, by omega, rfl, HY0⟩
  case round =>
    obtain ⟨Y, hY1, hY2, rfl, hJ⟩ := hrel
    have hjs := jan_succ Y
    have hl := lp_01 Y
    have hjn := hJ.out
    have hj1 := jan_mono 1 Y hY1
    rw [jan_1] at hj1
    have CJ2 := Lib.hid (fun X => ret0_int rfl (january_any Y X (by omega) (by omega)))
    by_cases hgo : Y < 9999 ∧ jan (Y + 1) ≤ n
    · obtain ⟨hlt, hle⟩ := hgo
      have CJ := Lib.hid (fun X => ret0_int rfl (january_any (Y + 1) X (by omega) (by omega)))
      have HN2 := Lib.hid hle
      obtain ⟨J, hJJ⟩ : ∃ J, jan (Y + 1) = J := ⟨_, rfl⟩
      rw [hJJ] at CJ hle
      clear hjs hJJ hl hjn hj1 CJ2
      go_wp2_with (first
        | (with_reducible refine (CJ.out _).mono ?_; rintro _ _ ⟨rfl, rfl⟩))
      go_round
      case rel => exact ⟨Y + 1, by omega, by omega, rfl, HN2⟩
      case measure => simp [intOf]; omega
    · have HX := Lib.hid (show n < jan Y + 365 + lp Y by
        by_cases hlt : Y < 9999
        · have : ¬jan (Y + 1) ≤ n := fun h => hgo ⟨hlt, h⟩
          omega
        · have e : Y = 9999 := by omega
          rw [← hjs, e]; have := jan_10000; show n < jan 10000; omega)
      have HL := Lib.hid (fun (hlt : Y < 9999) => (show n < jan (Y + 1) from by
        have : ¬jan (Y + 1) ≤ n := fun h => hgo ⟨hlt, h⟩
        omega))
      obtain ⟨q0, hq0⟩ : ∃ q, n - jan Y = q := ⟨_, rfl⟩
      have hqa : 0 ≤ q0 := by omega
      have HQ := Lib.hid (show q0 < 365 + lp Y by have := HX.out; omega)
      have HJ := Lib.hid (fun (q : Int) {j : Nat} (hq : q = q0 - cum Y j) => (show q = n - jan Y - cum Y j by omega))
      have hqc : q0 ≤ 366 := by have := HX.out; omega
      have hjb : jan Y ≤ 2932896 := by omega
      obtain ⟨J1, hJ1⟩ : ∃ J, jan Y = J := ⟨_, rfl⟩
      have HJ1 := Lib.hid hJ1
      rw [hJ1] at CJ2 hq0 hj1 hjb
      clear hgo HX hjs hl hjn hJ1 hN hy0
      by_cases hlt : Y < 9999
      · have CJ := Lib.hid (fun X => ret0_int rfl (january_any (Y + 1) X (by omega) (by omega)))
        have hl2 := HL.out hlt
        obtain ⟨J, hJJ⟩ : ∃ J, jan (Y + 1) = J := ⟨_, rfl⟩
        rw [hJJ] at CJ hl2
        have hl3 : ¬J ≤ n := by omega
        clear hJJ HL
        go_wp2_with (first
          | (with_reducible refine (CJ.out _).mono ?_; rintro _ _ ⟨rfl, rfl⟩)
          | (with_reducible refine (CJ2.out _).mono ?_; rintro _ _ ⟨rfl, rfl⟩))
        go_loop [0, 7] (fun x m => ∃ (j : Nat) (q : Int), j ≤ 11 ∧ m = .int .i64 ((j : Int) + 1) ∧ x = .int .i64 q ∧ 0 ≤ q ∧ q ≤ 366 ∧ Hid (q = q0 - cum Y j)) (fun _ m => (12 - intOf m).toNat)
        case atStart => exact ⟨0, q0, by omega, rfl, rfl, hqa, hqc, Lib.hid (by simp [cum])⟩
        case round =>
          clear hq0
          obtain ⟨j, q, hj, rfl, rfl, hq0, hq3, hq⟩ := hrel
          have hmb := monL_bd Y ((j : Int) + 1)
          have C := Lib.hid (fun X => ret0_int rfl (rmonth_any Y ((j : Int) + 1) X (by omega) (by omega)))
          have HS := Lib.hid (fun h => mon_step hj hq.out HQ.out h)
          have HF := Lib.hid (fun (h : q < monL Y ((j : Int) + 1)) => civ_mk (n := n) ⟨hY1, hY2⟩ hj (HJ.out q hq.out) hq0 h)
          obtain ⟨M, hM⟩ : ∃ M, monL Y ((j : Int) + 1) = M := ⟨_, rfl⟩
          rw [hM] at hmb C HS HF
          clear hM
          by_cases hge : M ≤ q
          · obtain ⟨hs1, hs2⟩ := HS.out hge
            have HS2 := Lib.hid hs2
            have hge' : decide (M ≤ q) = true := decide_eq_true hge
            clear hs2 HS HF
            go_wp2_with (first
              | (with_reducible refine (C.out _).mono ?_; rintro _ _ ⟨rfl, rfl⟩))
            go_round
            case rel => exact ⟨j + 1, q - M, by omega, by go_num, by go_num, by omega, by omega, Lib.hid HS2.out⟩
            case measure => simp [intOf]; omega
          · have hlt : q < M := by omega
            have HF2 := Lib.hid (HF.out hlt)
            clear HS HF
            go_wp2_with (first
              | (with_reducible refine (C.out _).mono ?_; rintro _ _ ⟨rfl, rfl⟩))
            exact bodyPost_ret (v := .tuple #[.int .i64 Y, .int .i64 ((j : Int) + 1), .int .i64 (q + 1), .int .i64 0]) (by simp [results, Tryd.results61, go_sem]) rfl ⟨Y, _, _, HF2.out, rfl, rfl⟩
      · have hl3 : ¬Y < 9999 := hlt
        clear HL
        go_wp2_with (first
          | (with_reducible refine (CJ2.out _).mono ?_; rintro _ _ ⟨rfl, rfl⟩))
        go_loop [0, 7] (fun x m => ∃ (j : Nat) (q : Int), j ≤ 11 ∧ m = .int .i64 ((j : Int) + 1) ∧ x = .int .i64 q ∧ 0 ≤ q ∧ q ≤ 366 ∧ Hid (q = q0 - cum Y j)) (fun _ m => (12 - intOf m).toNat)
        case atStart => exact ⟨0, q0, by omega, rfl, rfl, hqa, hqc, Lib.hid (by simp [cum])⟩
        case round =>
          clear hq0
          obtain ⟨j, q, hj, rfl, rfl, hq0, hq3, hq⟩ := hrel
          have hmb := monL_bd Y ((j : Int) + 1)
          have C := Lib.hid (fun X => ret0_int rfl (rmonth_any Y ((j : Int) + 1) X (by omega) (by omega)))
          have HS := Lib.hid (fun h => mon_step hj hq.out HQ.out h)
          have HF := Lib.hid (fun (h : q < monL Y ((j : Int) + 1)) => civ_mk (n := n) ⟨hY1, hY2⟩ hj (HJ.out q hq.out) hq0 h)
          obtain ⟨M, hM⟩ : ∃ M, monL Y ((j : Int) + 1) = M := ⟨_, rfl⟩
          rw [hM] at hmb C HS HF
          clear hM
          by_cases hge : M ≤ q
          · obtain ⟨hs1, hs2⟩ := HS.out hge
            have HS2 := Lib.hid hs2
            have hge' : decide (M ≤ q) = true := decide_eq_true hge
            clear hs2 HS HF
            go_wp2_with (first
              | (with_reducible refine (C.out _).mono ?_; rintro _ _ ⟨rfl, rfl⟩))
            go_round
            case rel => exact ⟨j + 1, q - M, by omega, by go_num, by go_num, by omega, by omega, Lib.hid HS2.out⟩
            case measure => simp [intOf]; omega
          · have hlt : q < M := by omega
            have HF2 := Lib.hid (HF.out hlt)
            clear HS HF
            go_wp2_with (first
              | (with_reducible refine (C.out _).mono ?_; rintro _ _ ⟨rfl, rfl⟩))
            exact bodyPost_ret (v := .tuple #[.int .i64 Y, .int .i64 ((j : Int) + 1), .int .i64 (q + 1), .int .i64 0]) (by simp [results, Tryd.results61, go_sem]) rfl ⟨Y, _, _, HF2.out, rfl, rfl⟩
set_option maxHeartbeats 1000000 in
theorem civil_out (n : Int) (w : World) (h : ¬(-719162 ≤ n ∧ n ≤ 2932896)) : Calls Tryd.prog 66 #[.int .i64 n] w fun e w' => e = .returned (.tuple #[.int .i64 0, .int .i64 0, .int .i64 0, .int .i64 4]) ∧ w = w' := by
  by_cases h0 : n < -719162
  · clear h
    go_enter Tryd.func66, Tryd.ntmps66
    go_wp2
    exact bodyPost_ret (v := .tuple #[.int .i64 0, .int .i64 0, .int .i64 0, .int .i64 4]) (by simp [results, Tryd.results66, go_sem]) rfl ⟨rfl, rfl⟩
  · have h1 : 2932896 < n := by omega
    clear h
    go_enter Tryd.func66, Tryd.ntmps66
    go_wp2
    exact bodyPost_ret (v := .tuple #[.int .i64 0, .int .i64 0, .int .i64 0, .int .i64 4]) (by simp [results, Tryd.results66, go_sem]) rfl ⟨rfl, rfl⟩
set_option maxHeartbeats 1000000 in
theorem rcivil_out (n : Int) (w : World) (h : ¬(-719162 ≤ n ∧ n ≤ 2932896)) : Calls Tryd.prog 61 #[.int .i64 n] w fun e w' => e = .returned (.tuple #[.int .i64 0, .int .i64 0, .int .i64 0, .int .i64 4]) ∧ w = w' := by
  by_cases h0 : n < -719162
  · clear h
    go_enter Tryd.func61, Tryd.ntmps61
    go_wp2
    exact bodyPost_ret (v := .tuple #[.int .i64 0, .int .i64 0, .int .i64 0, .int .i64 4]) (by simp [results, Tryd.results61, go_sem]) rfl ⟨rfl, rfl⟩
  · have h1 : 2932896 < n := by omega
    clear h
    go_enter Tryd.func61, Tryd.ntmps61
    go_wp2
    exact bodyPost_ret (v := .tuple #[.int .i64 0, .int .i64 0, .int .i64 0, .int .i64 4]) (by simp [results, Tryd.results61, go_sem]) rfl ⟨rfl, rfl⟩
end Go.Proofs.YtjnamjkdjcndiaaDoor
