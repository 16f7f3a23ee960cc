/-
  The walk of the law JobSteps.
-/
import Derived.Test.YtdffmkbcjnonaaaSteps
import Derived.Test.YtdffmkbcjnonaaaJRows
import Derived.Test.YtdffmkbcjnonaaaGroupsSpec
namespace Go.Proofs.Ytdffmkbcjnonaaa
open Go.RowKit
theorem steps_bd (l : List Int) (t b : Int) (h2 : 2 ≤ l.length) (hm : ∀ x ∈ l, 1 ≤ x ∧ x ≤ 9) (ht1 : l.length ≤ t) (ht2 : t ≤ 9 * l.length) (hl : l.length ≤ 8) (hb : 9 ≤ b) (_hb' : b < 19) :
    3 ≤ steps l t 9 b ∧ steps l t 9 b ≤ 2 * l.length + 1 := by
  obtain ⟨hp1, hp2, hp3⟩ := outs_props t 9 (by omega) (by omega) (by omega)
  have g1 : ∀ (k : Nat) (x : Int), l[k]? = some x → 1 ≤ x ∧ x ≤ 1024 ∧ x ≤ b := fun k x hx => by
    have := hm x (List.mem_of_getElem? hx); omega
  have g2 : ∀ (k : Nat) (x : Int), (outs t 9)[k]? = some x → 1 ≤ x ∧ x ≤ 1024 ∧ x ≤ b := fun k x hx => by
    have := hp1 k x hx; omega
  have a1 := reads_length l b
  have a2 := reads_length (outs t 9) b
  have a3 := reads_pos g1 (by omega)
  have a4 := reads_pos g2 (by omega)
  unfold steps
  omega
theorem steps_wrap (l : List Int) (t b : Int) (hl : l.length ≤ 8) : 0 ≤ steps l t 9 b ∧ steps l t 9 b ≤ 16393 := by
  have a1 := reads_length l b
  have a2 := reads_length (outs t 9) b
  have a3 := outs_length t 9
  unfold steps
  omega
set_option maxHeartbeats 1000000 in
theorem jobSteps_walk (v : Value) (zs : List Int) (d m : Int) (w : World) (hs : Sl w 1 v zs.length (ints zs)) (hl : zs.length ≤ 9223372036854775807) :
    Calls Try.prog 8 #[v, .int .i64 d, .int .i64 m] w (RetBool w true) := by
  obtain ⟨A, c, rfl, _, _⟩ := hs.form
  go_enter Try.func8, Try.ntmps8
  go_wp2_with fail
  refine (rows_any _ zs 8 w hs hl (by omega) (by omega)).mono ?_
  rintro e w1 ⟨v1, rfl, hbel, hown⟩
  have hlen := rowsOf_length 8 zs (by omega)
  have hmem := fun x h => rowsOf_mem 8 zs x h
  obtain ⟨l, hl⟩ : ∃ l, rowsOf 8 zs = l := ⟨_, rfl⟩
  rw [hl] at hlen hmem hown
  clear hl
  have hsl := Sl.of_own hown
  clear hown
  have HM := Lib.hid hmem
  clear hmem
  obtain ⟨A1, c1, rfl, _, _⟩ := hsl.form
  by_cases h2 : l.length < 2
  · go_wp2_with fail
    refine (awake_any _).mono ?_
    rintro e w2 ⟨rfl, hbel2⟩
    go_wp2
    go_ret
    exact ⟨rfl, bst hbel hbel2⟩
  · go_wp2_with fail
    go_loop [8, 20] (fun s i => ∃ k : Nat, k ≤ l.length ∧ i = .int .i64 k ∧ ∃ t : Int, s = .int .i64 t ∧ k ≤ t ∧ t ≤ 9 * k) (fun _ i => l.length - (intOf i).toNat)
    case atStart => exact ⟨0, by omega, rfl, 0, rfl, by omega, by omega⟩
    case round =>
      obtain ⟨k, hk, rfl, t, rfl, ht1, ht2⟩ := hrel
      by_cases hlt : k < l.length
      · obtain ⟨ad, z, rfl, hz, hc⟩ := hsl.int_at hlt
        have hz1 := HM.out z (List.mem_of_getElem? hz)
        clear hz
        go_wp2_with fail
        refine (pick_any _ 3 w1 (by omega) (by omega)).mono ?_
        rintro e w' ⟨rfl, rfl⟩
        obtain ⟨q, hq⟩ : ∃ q, pick (wrap64 (d + k)) 3 = q := ⟨_, rfl⟩
        have p1 := pick_lo (wrap64 (d + k)) 3 (by omega)
        have p2 := pick_hi (wrap64 (d + k)) 3 (by omega)
        rw [hq] at p1 p2
        first | rw [hq] | (trace_state; fail)
        clear hq
        by_cases hmx : 1 < z - q
        · go_wp2
          go_round
          case rel => exact ⟨k + 1, by omega, by go_num, t + (z - q), rfl, by omega, by omega⟩
          case measure => simp [intOf]; omega
        · go_wp2
          go_round
          case rel => exact ⟨k + 1, by omega, by go_num, t + 1, rfl, by omega, by omega⟩
          case measure => simp [intOf]; omega
      · obtain rfl : k = l.length := by omega
        go_wp2_with fail
        refine (pick_any _ 10 w1 (by omega) (by omega)).mono ?_
        rintro e w' ⟨rfl, rfl⟩
        obtain ⟨q, hq⟩ : ∃ q, pick m 10 = q := ⟨_, rfl⟩
        have p1 := pick_lo m 10 (by omega)
        have p2 := pick_hi m 10 (by omega)
        rw [hq] at p1 p2 ⊢
        clear hq
        go_wp2_with fail
        refine (steps_any _ l t 9 (9 + q) w1 hsl (by omega) (by omega)).mono ?_
        rintro e w2 ⟨rfl, hbel2⟩
        have hst := steps_bd l t (9 + q) (by omega) HM.out ht1 ht2 (by omega) (by omega) (by omega)
        obtain ⟨y, hy⟩ : ∃ y, steps l t 9 (9 + q) = y := ⟨_, rfl⟩
        rw [hy] at hst ⊢
        clear hy
        obtain ⟨s1, s2⟩ := hst
        go_wp2_with fail
        refine (awake_any _).mono ?_
        rintro e w3 ⟨rfl, hbel3⟩
        go_wp2
        go_ret
        exact ⟨rfl, bst (bst hbel hbel2) hbel3⟩
end Go.Proofs.Ytdffmkbcjnonaaa
