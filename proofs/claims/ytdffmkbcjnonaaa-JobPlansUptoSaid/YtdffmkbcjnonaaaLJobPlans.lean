/-
  The walk of the law JobPlans.
-/
import Derived.Test.YtdffmkbcjnonaaaRSteps
import Derived.Test.YtdffmkbcjnonaaaJRows
import Derived.Test.YtdffmkbcjnonaaaSrc
namespace Go.Proofs.Ytdffmkbcjnonaaa
open Go.RowKit
theorem same_refl (l : List Int) : same l l = true := by simp [same]
theorem sameL_refl (l : List (List Int)) : sameL l l = true := by simp [sameL]
set_option maxHeartbeats 4000000 in
theorem jobPlans_walk (v0 v4 : Value) (raw zs : List Int) (a1 a2 a3 : Int) (w : World) (hs0 : Sl w 1 v0 raw.length (ints raw)) (hl0 : raw.length ≤ 5000000000000) (hs4 : Sl w 1 v4 zs.length (ints zs)) (hl4 : zs.length ≤ 9223372036854775807) (hb3 : a3 ≤ 9223372036854775807) :
    Calls Try.prog 5 #[v0, .int .i64 a1, .int .i64 a2, .int .i64 a3, v4] w (RetBool w true) := by
  obtain ⟨A0, c0, rfl, _, _⟩ := hs0.form
  obtain ⟨A4, c4, rfl, _, _⟩ := hs4.form
  by_cases hbig : 5000 < a1
  all_goals
    go_enter Try.func5, Try.ntmps5
    go_wp2_with fail
    refine (rows_any _ zs 8 w hs4 hl4 (by omega) (by omega)).mono ?_
    rintro e w1 ⟨v1, rfl, hbel, hown⟩
    have hlen := rowsOf_length 8 zs (by omega)
    obtain ⟨l, hl⟩ : ∃ l, rowsOf 8 zs = l := ⟨_, rfl⟩
    rw [hl] at hlen hown
    clear hl
    have hsl := Sl.of_own hown
    clear hown
    obtain ⟨A1, c1, rfl, _, _⟩ := hsl.form
    have hr1 := Below.refl w1.heap.size w1
    go_wp2_with fail
    refine (pick_any _ 60 w1 (by omega) (by omega)).mono ?_
    rintro e w' ⟨rfl, rfl⟩
    have p1 := pick_lo a1 60 (by omega)
    have p2 := pick_hi a1 60 (by omega)
    obtain ⟨x, hx⟩ : ∃ x, pick a1 60 = x := ⟨_, rfl⟩
    rw [hx] at p1 p2 ⊢
    clear hx
    go_wp2_with fail
    refine (pick_any _ 12 w1 (by omega) (by omega)).mono ?_
    rintro e w' ⟨rfl, rfl⟩
    have p3 := pick_lo a2 12 (by omega)
    have p4 := pick_hi a2 12 (by omega)
    obtain ⟨y, hy⟩ : ∃ y, pick a2 12 = y := ⟨_, rfl⟩
    rw [hy] at p3 p4 ⊢
    clear hy
    go_wp2_with fail
    refine (pick_any _ 24 w1 (by omega) (by omega)).mono ?_
    rintro e w' ⟨rfl, rfl⟩
    have p5 := pick_lo a3 24 (by omega)
    have p6 := pick_hi a3 24 (by omega)
    obtain ⟨z, hz⟩ : ∃ z, pick a3 24 = z := ⟨_, rfl⟩
    rw [hz] at p5 p6 ⊢
    clear hz
    go_wp2_with fail
    refine (awake_any _).mono ?_
    rintro e w2 ⟨rfl, hbel2⟩
    replace hbel := bst hbel hbel2
    replace hr1 := bst hr1 hbel2
    clear hbel2
    go_wp2_with fail
    refine (reads_any _ raw a3 _ (hs0.below hbel) hl0 hb3).mono ?_
    rintro e w3 ⟨va, us, rfl, hba, hoa, hla⟩
    replace hbel := bst hbel hba
    replace hr1 := bst hr1 hba
    obtain ⟨Aa, ca, rfl, _, _⟩ := (Sl.of_own hoa).form
    go_wp2_with fail
    refine (rreads_any _ raw a3 _ (hs0.below hbel) hl0 hb3).mono ?_
    rintro e w4 ⟨vb, vs, rfl, hbb, hob, hlb⟩
    replace hbel := bst hbel hbb
    replace hr1 := bst hr1 hbb
    obtain ⟨Ab, cb, rfl, _, _⟩ := (Sl.of_own hob).form
    go_wp2_with fail
    refine (sameL_any _ _ us vs _ _ w4 ((Sl.of_own hoa).below hbb) (Sl.of_own hob) (hla.rl.below hbb) hlb.rl).mono ?_
    rw [sameL_refl]
    rintro e w5 ⟨rfl, n, hw⟩
    have hbc : Below w4.heap.size w4 w5 := by rw [hw]; exact below_drewN (Below.refl _ _) n
    clear hw
    replace hbel := bst hbel hbc
    replace hr1 := bst hr1 hbc
    clear hba hoa hla hbb hob hlb hbc
    go_wp2_with fail
    refine (reads_any _ l _ _ (hsl.below hr1) (by omega) (by omega)).mono ?_
    rintro e w6 ⟨va, us, rfl, hba, hoa, hla⟩
    replace hbel := bst hbel hba
    replace hr1 := bst hr1 hba
    obtain ⟨Aa, ca, rfl, _, _⟩ := (Sl.of_own hoa).form
    go_wp2_with fail
    refine (rreads_any _ l _ _ (hsl.below hr1) (by omega) (by omega)).mono ?_
    rintro e w7 ⟨vb, vs, rfl, hbb, hob, hlb⟩
    replace hbel := bst hbel hbb
    replace hr1 := bst hr1 hbb
    obtain ⟨Ab, cb, rfl, _, _⟩ := (Sl.of_own hob).form
    go_wp2_with fail
    refine (sameL_any _ _ us vs _ _ w7 ((Sl.of_own hoa).below hbb) (Sl.of_own hob) (hla.rl.below hbb) hlb.rl).mono ?_
    rw [sameL_refl]
    rintro e w8 ⟨rfl, n, hw⟩
    have hbc : Below w7.heap.size w7 w8 := by rw [hw]; exact below_drewN (Below.refl _ _) n
    clear hw
    replace hbel := bst hbel hbc
    replace hr1 := bst hr1 hbc
    clear hba hoa hla hbb hob hlb hbc
    go_wp2_with fail
    refine (outs_any _ _ _).mono ?_
    rintro e w9 ⟨va, rfl, hba, hoa⟩
    replace hbel := bst hbel hba
    replace hr1 := bst hr1 hba
    obtain ⟨Aa, ca, rfl, _, _⟩ := (Sl.of_own hoa).form
    go_wp2_with fail
    refine (routs_any _ _ _).mono ?_
    rintro e w10 ⟨vb, rfl, hbb, hob⟩
    replace hbel := bst hbel hbb
    replace hr1 := bst hr1 hbb
    obtain ⟨Ab, cb, rfl, _, _⟩ := (Sl.of_own hob).form
    go_wp2_with fail
    refine (same_any _ _ _ _ w10 ((Sl.of_own hoa).below hbb) (Sl.of_own hob)).mono ?_
    rw [same_refl]
    rintro e w11 ⟨rfl, n, hw⟩
    have hbc : Below w10.heap.size w10 w11 := by rw [hw]; exact below_drewN (Below.refl _ _) n
    clear hw
    replace hbel := bst hbel hbc
    replace hr1 := bst hr1 hbc
    clear hba hoa hbb hob hbc
    go_wp2_with fail
    refine (outs_any _ _ _).mono ?_
    rintro e w12 ⟨va, rfl, hba, hoa⟩
    replace hbel := bst hbel hba
    replace hr1 := bst hr1 hba
    obtain ⟨Aa, ca, rfl, _, _⟩ := (Sl.of_own hoa).form
    go_wp2_with fail
    refine (routs_any _ _ _).mono ?_
    rintro e w13 ⟨vb, rfl, hbb, hob⟩
    replace hbel := bst hbel hbb
    replace hr1 := bst hr1 hbb
    obtain ⟨Ab, cb, rfl, _, _⟩ := (Sl.of_own hob).form
    go_wp2_with fail
    refine (same_any _ _ _ _ w13 ((Sl.of_own hoa).below hbb) (Sl.of_own hob)).mono ?_
    rw [same_refl]
    rintro e w14 ⟨rfl, n, hw⟩
    have hbc : Below w13.heap.size w13 w14 := by rw [hw]; exact below_drewN (Below.refl _ _) n
    clear hw
    replace hbel := bst hbel hbc
    replace hr1 := bst hr1 hbc
    clear hba hoa hbb hob hbc
    go_wp2_with fail
    refine (writes_any _ _ _ _ (by omega)).mono ?_
    rintro e w15 ⟨va, us, rfl, hba, hoa, hla⟩
    replace hbel := bst hbel hba
    replace hr1 := bst hr1 hba
    obtain ⟨Aa, ca, rfl, _, _⟩ := (Sl.of_own hoa).form
    go_wp2_with fail
    refine (rwrites_any _ _ _ _ (by omega)).mono ?_
    rintro e w16 ⟨vb, vs, rfl, hbb, hob, hlb⟩
    replace hbel := bst hbel hbb
    replace hr1 := bst hr1 hbb
    obtain ⟨Ab, cb, rfl, _, _⟩ := (Sl.of_own hob).form
    go_wp2_with fail
    refine (sameL_any _ _ us vs _ _ w16 ((Sl.of_own hoa).below hbb) (Sl.of_own hob) (hla.rl.below hbb) hlb.rl).mono ?_
    rw [sameL_refl]
    rintro e w17 ⟨rfl, n, hw⟩
    have hbc : Below w16.heap.size w16 w17 := by rw [hw]; exact below_drewN (Below.refl _ _) n
    clear hw
    replace hbel := bst hbel hbc
    replace hr1 := bst hr1 hbc
    clear hba hoa hla hbb hob hlb hbc
    go_wp2_with fail
    refine (writes_any _ _ _ _ (by omega)).mono ?_
    rintro e w18 ⟨va, us, rfl, hba, hoa, hla⟩
    replace hbel := bst hbel hba
    replace hr1 := bst hr1 hba
    obtain ⟨Aa, ca, rfl, _, _⟩ := (Sl.of_own hoa).form
    go_wp2_with fail
    refine (rwrites_any _ _ _ _ (by omega)).mono ?_
    rintro e w19 ⟨vb, vs, rfl, hbb, hob, hlb⟩
    replace hbel := bst hbel hbb
    replace hr1 := bst hr1 hbb
    obtain ⟨Ab, cb, rfl, _, _⟩ := (Sl.of_own hob).form
    go_wp2_with fail
    refine (sameL_any _ _ us vs _ _ w19 ((Sl.of_own hoa).below hbb) (Sl.of_own hob) (hla.rl.below hbb) hlb.rl).mono ?_
    rw [sameL_refl]
    rintro e w20 ⟨rfl, n, hw⟩
    have hbc : Below w19.heap.size w19 w20 := by rw [hw]; exact below_drewN (Below.refl _ _) n
    clear hw
    replace hbel := bst hbel hbc
    replace hr1 := bst hr1 hbc
    clear hba hoa hla hbb hob hlb hbc
    go_wp2_with fail
    refine (steps_any _ l _ _ _ _ (hsl.below hr1) (by omega) (by omega)).mono ?_
    rintro e w21 ⟨rfl, hba⟩
    replace hbel := bst hbel hba
    replace hr1 := bst hr1 hba
    obtain ⟨q, hq⟩ : ∃ q, steps l (x - 1) (y - 1) (z - 1) = q := ⟨_, rfl⟩
    rw [hq]
    go_wp2_with fail
    refine (rsteps_any _ l _ _ _ _ (hsl.below hr1) (by omega) (by omega)).mono ?_
    rintro e w22 ⟨rfl, hbb⟩
    replace hbel := bst hbel hbb
    replace hr1 := bst hr1 hbb
    rw [hq]
    have hqq : (q == q) = true := by simp
    clear hq
    go_wp2
    go_ret
    exact ⟨rfl, hbel⟩
end Go.Proofs.Ytdffmkbcjnonaaa
