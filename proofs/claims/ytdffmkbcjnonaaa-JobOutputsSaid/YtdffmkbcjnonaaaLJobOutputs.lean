/-
  The walk of the law JobOutputs.
-/
import Derived.Test.YtdffmkbcjnonaaaSteps
import Derived.Test.YtdffmkbcjnonaaaPick
namespace Go.Proofs.Ytdffmkbcjnonaaa
open Go.RowKit
set_option maxHeartbeats 1000000 in
theorem jobOutputs_walk (a1 a2 : Int) (w : World) : Calls Try.prog 7 #[.int .i64 a1, .int .i64 a2] w (RetBool w true) := by
  go_enter Try.func7, Try.ntmps7
  go_wp2_with fail
  refine (pick_any a1 4000 w (by omega) (by omega)).mono ?_
  rintro e w' ⟨rfl, rfl⟩
  have p1 := pick_lo a1 4000 (by omega)
  have p2 := pick_hi a1 4000 (by omega)
  go_wp2_with fail
  refine (pick_any a2 1024 w (by omega) (by omega)).mono ?_
  rintro e w' ⟨rfl, rfl⟩
  have p3 := pick_lo a2 1024 (by omega)
  have p4 := pick_hi a2 1024 (by omega)
  obtain ⟨x, hx⟩ : ∃ x, pick a1 4000 = x := ⟨_, rfl⟩
  obtain ⟨y, hy⟩ : ∃ y, pick a2 1024 = y := ⟨_, rfl⟩
  rw [hx] at p1 p2 ⊢
  rw [hy] at p3 p4 ⊢
  clear hx hy
  go_wp2_with fail
  refine (outs_any _ _ _).mono ?_
  rintro e w1 ⟨v, rfl, hbel, hown⟩
  obtain ⟨hp1, hp2, hp3⟩ := outs_props (1 + x) (1 + y) (by omega) (by omega) (by omega)
  have hlen := outs_length (1 + x) (1 + y)
  obtain ⟨l, hl⟩ : ∃ l, outs (1 + x) (1 + y) = l := ⟨_, rfl⟩
  rw [hl] at hp1 hp2 hp3 hown hlen
  clear hl
  have hsl := Sl.of_own hown
  clear hown
  obtain ⟨A, c, rfl, _, _⟩ := hsl.form
  have HP1 := Lib.hid hp1
  have HP2 := Lib.hid hp2
  have HP3 := Lib.hid hp3
  clear hp1 hp2 hp3
  go_wp2_with fail
  go_loop [8, 22] (fun s i => ∃ k : Nat, k ≤ l.length ∧ i = .int .i64 k ∧ ∃ t : Int, s = .int .i64 t ∧ 0 ≤ t ∧ t ≤ 16777216 * k ∧ Hid (t = (l.take k).sum)) (fun _ i => l.length - (intOf i).toNat)
  case atStart => exact ⟨0, by omega, rfl, 0, rfl, by omega, by omega, rfl⟩
  case round =>
    obtain ⟨k, hk, rfl, t, rfl, ht1, ht2, ht⟩ := hrel
    by_cases hlt : k < l.length
    · obtain ⟨ad, z, rfl, hz, hc⟩ := hsl.int_at hlt
      obtain ⟨z1, z2, z3⟩ := HP1.out k z hz
      have HZ := Lib.hid (show t + z = (l.take (k + 1)).sum by rw [sum_take_succ l k z hz, ht.out])
      clear hz
      by_cases hl2 : k + 1 < l.length
      · have hb : (z != 1 + y) = false := by simp; exact z3 hl2
        clear z3
        go_wp2
        go_round
        case rel => exact ⟨k + 1, by omega, by go_num, t + z, rfl, by omega, by omega, HZ.out⟩
        case measure => simp [intOf]; omega
      · clear z3
        go_wp2
        go_round
        case rel => exact ⟨k + 1, by omega, by go_num, t + z, rfl, by omega, by omega, HZ.out⟩
        case measure => simp [intOf]; omega
    · have e1 : (t == 1 + x) = true := by
        have := ht.out
        rw [List.take_of_length_le (by omega), HP2.out] at this
        simp [this]
      have e2 : ((l.length : Int) == (1 + x + (1 + y) - 1) / (1 + y)) = true := by simp [HP3.out]
      go_wp2_with fail
      refine (awake_any _).mono ?_
      rintro e w2 ⟨rfl, hbel2⟩
      go_wp2
      go_ret
      exact ⟨rfl, bst hbel hbel2⟩
end Go.Proofs.Ytdffmkbcjnonaaa
