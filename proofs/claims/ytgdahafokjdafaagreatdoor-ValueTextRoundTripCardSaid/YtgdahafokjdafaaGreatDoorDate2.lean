/-
  The contracts of date.Civil and of ref1.Civil.
-/
import Derived.Test.YtgdahafokjdafaaGreatDoorDate1
namespace Go.Proofs.YtgdahafokjdafaaGreatDoor
open Go.RowKit
def RetCiv (w : World) (n : Int) (e : Ending) (w' : World) : Prop := ∃ y m d : Int, IsCiv n y m d ∧ e = .returned (.tuple #[.int .i64 y, .int .i64 m, .int .i64 d, .int .i64 0]) ∧ w = w'
theorem jan_10000 : jan 10000 = 2932897 := by decide
theorem jan_1 : jan 1 = -719162 := by decide
theorem year_in {n Y : Int} (hn : n ≤ 2932896) (h : jan Y ≤ n) : Y ≤ 9999 := by
  by_cases hb : Y ≤ 9999
  · exact hb
  · have := jan_mono 10000 Y (by omega); rw [jan_10000] at this; omega
/-- A round of the search for the month. -/
theorem mon_step {Y q0 q : Int} {j : Nat} (hj : j ≤ 11) (hq : q = q0 - cum Y j) (h0 : q0 < 365 + lp Y) (hm : monL Y ((j : Int) + 1) ≤ q) : j + 1 ≤ 11 ∧ q - monL Y ((j : Int) + 1) = q0 - cum Y (j + 1) := by
  have h5 := cum_12 Y
  refine ⟨?_, by simp only [cum]; omega⟩
  by_cases h : j = 11
  · subst h
    have : cum Y 12 = cum Y 11 + monL Y (((11 : Nat) : Int) + 1) := rfl
    omega
  · omega
set_option maxRecDepth 100000 in
set_option maxHeartbeats 2000000 in
theorem civil_in (n : Int) (w : World) (h0 : -719162 ≤ n) (h1 : n ≤ 2932896) : Calls Tryz.prog 54 #[.int .i64 n] w (RetCiv w n) := by
  obtain ⟨N, hN⟩ : ∃ N, n + 719162 = N := ⟨_, rfl⟩
  have hN0 : 0 ≤ N := by omega
  have hN1 : N ≤ 3652058 := by omega
  obtain ⟨a, ha⟩ : ∃ a, N / 146097 = a := ⟨_, rfl⟩
  obtain ⟨r, hr⟩ : ∃ r, N % 146097 = r := ⟨_, rfl⟩
  obtain ⟨c, hc⟩ : ∃ c, min (r / 36524) 3 = c := ⟨_, rfl⟩
  obtain ⟨s, hs⟩ : ∃ s, r - c * 36524 = s := ⟨_, rfl⟩
  obtain ⟨b, hb⟩ : ∃ b, s / 1461 = b := ⟨_, rfl⟩
  obtain ⟨t, ht⟩ : ∃ t, s % 1461 = t := ⟨_, rfl⟩
  obtain ⟨k, hk⟩ : ∃ k, min (t / 365) 3 = k := ⟨_, rfl⟩
  obtain ⟨q0, hq0⟩ : ∃ q, t - k * 365 = q := ⟨_, rfl⟩
  obtain ⟨Y, hY⟩ : ∃ Y, 1 + 400 * a + 100 * c + 4 * b + k = Y := ⟨_, rfl⟩
  have hcy := civ_cycle N hN0 a r ha.symm hr.symm c s hc.symm hs.symm b t hb.symm ht.symm k hk.symm
  rw [hY, hq0] at hcy
  obtain ⟨hj, hqa, hqb, c0, c1, b0, b1, k0, k1, a0⟩ := hcy
  have ha1 : a ≤ 24 := by omega
  have hr1 : 0 ≤ r ∧ r ≤ 146096 := by omega
  have hs1 : 0 ≤ s ∧ s ≤ 146096 := by omega
  have ht1 : 0 ≤ t ∧ t ≤ 1460 := by omega
  have hY2 : Y ≤ 9999 := year_in h1 (by omega)
  have hY1 : 1 ≤ Y := by omega
  have HQ := Lib.hid hqb
  have HJ := Lib.hid (fun (q : Int) {j : Nat} (hq : q = q0 - cum Y j) => (show q = n - jan Y - cum Y j by omega))
  have hql := lp_01 Y
  have hqc : q0 ≤ 366 := by omega
  clear hj hqb hql
  go_enter Tryz.func54, Tryz.ntmps54
  go_wp2_with fail
  go_loop [0, 3] (fun x m => ∃ (j : Nat) (q : Int), j ≤ 11 ∧ m = .int .i64 ((j : Int) + 1) ∧ x = .int .i64 q ∧ 0 ≤ q ∧ q ≤ 366 ∧ Hid (q = q0 - cum Y j)) (fun _ m => (12 - intOf m).toNat)
  case atStart => exact ⟨0, q0, by omega, rfl, rfl, hqa, hqc, Lib.hid (by simp [cum])⟩
  case round =>
    clear hN ha hr hc hs hb ht hk hq0 hY
    obtain ⟨j, q, hj, rfl, rfl, hq0, hq3, hq⟩ := hrel
    have hmb := monL_bd Y ((j : Int) + 1)
    have C := Lib.hid (fun X => ret0_int rfl (mlen_any Y ((j : Int) + 1) X (by omega) (by omega)))
    have HS := Lib.hid (fun h => mon_step hj hq.out HQ.out h)
    have HF := Lib.hid (fun (h : q < monL Y ((j : Int) + 1)) => civ_mk (n := n) ⟨hY1, hY2⟩ hj (HJ.out q hq.out) hq0 h)
    obtain ⟨M, hM⟩ : ∃ M, monL Y ((j : Int) + 1) = M := ⟨_, rfl⟩
    rw [hM] at hmb C HS HF
    clear hM
    by_cases hge : M ≤ q
    · obtain ⟨hs1, hs2⟩ := HS.out hge
      have HS2 := Lib.hid hs2
      have hge' : decide (M ≤ q) = true := decide_eq_true hge
      clear hs2 HS HF
      go_wp2_with (first
        | (with_reducible refine (C.out _).mono ?_; rintro _ _ ⟨rfl, rfl⟩))
      go_round
      case rel => exact ⟨j + 1, q - M, by omega, by go_num, by go_num, by omega, by omega, Lib.hid HS2.out⟩
      case measure => simp [intOf]; omega
    · have hlt : q < M := by omega
      have HF2 := Lib.hid (HF.out hlt)
      clear HS HF
      go_wp2_with (first
        | (with_reducible refine (C.out _).mono ?_; rintro _ _ ⟨rfl, rfl⟩))
      exact bodyPost_ret (v := .tuple #[.int .i64 Y, .int .i64 ((j : Int) + 1), .int .i64 (q + 1), .int .i64 0]) (by simp [results, Tryz.results54, go_sem]) rfl ⟨Y, _, _, HF2.out, rfl, rfl⟩
set_option maxHeartbeats 1000000 in
theorem civil_out (n : Int) (w : World) (h : ¬(-719162 ≤ n ∧ n ≤ 2932896)) : Calls Tryz.prog 54 #[.int .i64 n] w fun e w' => e = .returned (.tuple #[.int .i64 0, .int .i64 0, .int .i64 0, .int .i64 4]) ∧ w = w' := by
  by_cases h0 : n < -719162
  · clear h
    go_enter Tryz.func54, Tryz.ntmps54
    go_wp2
    exact bodyPost_ret (v := .tuple #[.int .i64 0, .int .i64 0, .int .i64 0, .int .i64 4]) (by simp [results, Tryz.results54, go_sem]) rfl ⟨rfl, rfl⟩
  · have h1 : 2932896 < n := by omega
    clear h
    go_enter Tryz.func54, Tryz.ntmps54
    go_wp2
    exact bodyPost_ret (v := .tuple #[.int .i64 0, .int .i64 0, .int .i64 0, .int .i64 4]) (by simp [results, Tryz.results54, go_sem]) rfl ⟨rfl, rfl⟩
end Go.Proofs.YtgdahafokjdafaaGreatDoor
