/-
  The walk of the law PickerQuiet.
-/
import Derived.Test.YtcjekbncllccbaaPickLaw2
import Derived.Test.YtcjekbncllccbaaPk9
namespace Go.Proofs.Ytcjekbncllccbaa
open Go.RowKit Go.Sort
set_option maxRecDepth 100000 in
set_option maxHeartbeats 8000000 in
theorem pickerQuiet_walk (v0 : Value) (zs : List Int) (a1 a2 a3 : Int) (w : World) (hx : Sl w 1 v0 zs.length (ints zs)) (hxl : zs.length ≤ 9223372036854775807) (hxr : ∀ x ∈ zs, -9223372036854775808 ≤ x ∧ x ≤ 9223372036854775807) :
    Calls Try.prog 7 #[v0, .int .i64 a1, .int .i64 a2, .int .i64 a3] w fun e w' => e = .returned (.bool true) ∧ Below w.heap.size w w' := by
  obtain ⟨A0, c0, rfl, _, _⟩ := hx.form
  have C1 := Lib.hid (kentries_any _ zs 7 w hx hxl hxr (by omega) (by omega))
  clear hx hxl hxr
  go_enter Try.func7, Try.ntmps7
  go_wp2_with fail
  refine C1.out.mono ?_
  rintro _ w1 ⟨v1, l, rfl, hll, hG, ho1, hb1⟩
  have HM := Lib.hid (made_of hG (by omega))
  have B1 := Lib.hid hb1
  have HS := Lib.hid (Sl.of_own ho1)
  obtain ⟨A1, c1, rfl, hc11, hc12⟩ := (Sl.of_own ho1).form
  have hl7 : l.length ≤ 7 := by omega
  clear hG ho1 hb1 C1 hll
  go_wp2_with fail
  refine (pick_any a1 3 _ (by omega) (by omega)).mono ?_
  rintro _ _ ⟨rfl, rfl⟩
  have x0 := pick_lo a1 3 (by omega)
  have x1 := pick_hi a1 3 (by omega)
  obtain ⟨x, hx⟩ : ∃ x, pick a1 3 = x := ⟨_, rfl⟩
  rw [hx] at x0 x1 ⊢
  clear hx
  obtain ⟨d, hd⟩ : ∃ d, 1 + x = d := ⟨_, rfl⟩
  have wx : IntKind.i64.wrap (1 + x) = d := by rw [← hd]; exact IntWalk.i64_in _ (by omega)
  have hd1 : 1 ≤ d := by omega
  clear hd
  go_wp2_with fail
  refine (pick_any a2 4 _ (by omega) (by omega)).mono ?_
  rintro _ _ ⟨rfl, rfl⟩
  have y0 := pick_lo a2 4 (by omega)
  have y1 := pick_hi a2 4 (by omega)
  obtain ⟨y, hy⟩ : ∃ y, pick a2 4 = y := ⟨_, rfl⟩
  rw [hy] at y0 y1 ⊢
  clear hy
  obtain ⟨u, hu⟩ : ∃ u, 2 + y = u := ⟨_, rfl⟩
  have wy : IntKind.i64.wrap (2 + y) = u := by rw [← hu]; exact IntWalk.i64_in _ (by omega)
  have hu1 : 2 ≤ u := by omega
  clear hu
  go_wp2_with fail
  refine (pick_any a3 20 _ (by omega) (by omega)).mono ?_
  rintro _ _ ⟨rfl, rfl⟩
  obtain ⟨r, hr⟩ : ∃ r, pick a3 20 = r := ⟨_, rfl⟩
  rw [hr]
  clear hr
  have HPI := Lib.hid (pick28_any 1 _ l d u r _ HS.out HM.out.small (by omega) HM.out.live')
  obtain ⟨hq1, hq2⟩ := HM.out.quiet (rows := r) hd1 hu1
  obtain ⟨K, hK⟩ : ∃ K, pickQ 1 l d u r = K := ⟨_, rfl⟩
  rw [hK] at HPI hq1 hq2
  clear hK
  go_wp2_with fail
  refine HPI.out.mono ?_
  rintro _ w2 ⟨v2, rfl, hb2, ho2, _⟩
  have B2 := Lib.hid (bst B1.out hb2)
  have HS2 := Lib.hid (HS.out.below hb2)
  obtain ⟨A2, c2, rfl, _, _⟩ := (Sl.of_own ho2).form
  have HPR := Lib.hid (rpair_any 1 _ l r w2 HS2.out HM.out.small (by omega) HM.out.live' HM.out.adj)
  rw [← HM.out.pair] at HPR
  obtain ⟨S, hS⟩ : ∃ S, pairP 1 l r = S := ⟨_, rfl⟩
  rw [hS] at HPR hq1
  clear hb2 ho2 HPI hS
  go_wp2_with fail
  refine HPR.out.mono ?_
  rintro _ w3 ⟨rfl, hb3⟩
  have B3 := Lib.hid (bst B2.out hb3)
  have HS3 := Lib.hid (HS2.out.below hb3)
  clear hb3 HPR
  go_wp2_with fail
  refine (awake28_any _).mono ?_
  rintro _ w4 ⟨rfl, hb4⟩
  have B4 := Lib.hid (bst B3.out hb4)
  have HR := Lib.hid (rranges_any _ l w4 (HS3.out.below hb4) (by omega))
  obtain ⟨L, hL⟩ : ∃ L, l.map rgOf = L := ⟨_, rfl⟩
  have hLl : L.length ≤ 1000000 := by rw [← hL, List.length_map]; omega
  rw [hL] at HR hq1
  clear hb4 hL
  go_wp2_with fail
  refine HR.out.mono ?_
  rintro _ w5 ⟨v5, rfl, hb5, ho5⟩
  obtain ⟨A5, c5, rfl, _, _⟩ := (Sl.of_own ho5).form
  have HD := Lib.hid (rdepth_any 1 _ L w5 (Sl.of_own ho5) hLl)
  have B5 := Lib.hid (bst B4.out hb5)
  obtain ⟨D, hD⟩ : ∃ D, depthR 1 L = D := ⟨_, rfl⟩
  rw [hD] at HD hq1
  obtain ⟨n, hn⟩ : ∃ n, K.length = n := ⟨_, rfl⟩
  rw [hn] at hq1 hq2
  simp only [hn]
  clear hb5 ho5 hD hn HR
  obtain ⟨bs, hbs⟩ : ∃ b, S.isSome = b := ⟨_, rfl⟩
  rw [hbs] at hq1
  simp only [hbs]
  clear hbs
  go_wp2_with fail
  refine HD.out.mono ?_
  rintro _ w6 ⟨rfl, hb6⟩
  have B6 := Lib.hid (bst B5.out hb6)
  clear hb6 HD
  by_cases hle : (D : Int) ≤ d
  · have q1 : decide ((D : Int) ≤ d) = true := by simpa using hle
    rw [q1, Bool.true_and] at hq1
    cases bs with
    | true =>
      have hn0 : ¬ n = 0 := by simpa using hq1
      have hn2 : 2 ≤ n := by omega
      have q2 : ((n : Int) == 0) = false := by simp; omega
      have q2' : (n == 0) = false := by simpa using hn0
      have q3 : decide ((2 : Int) ≤ (n : Int)) = true := by simp; omega
      have q3' : decide (2 ≤ n) = true := by simpa using hn2
      clear hq1 hq2 hle
      go_wp2
      go_ret
      exact ⟨rfl, B6.out⟩
    | false =>
      have hn0 : n = 0 := by simpa using hq1
      subst hn0
      clear hq1 hq2 hle
      go_wp2
      go_ret
      exact ⟨rfl, B6.out⟩
  · have q1 : decide ((D : Int) ≤ d) = false := by simpa using hle
    rw [q1, Bool.false_and] at hq1
    have hn0 : ¬ n = 0 := by simpa using hq1
    have hn2 : 2 ≤ n := by omega
    have q2 : ((n : Int) == 0) = false := by simp; omega
    have q2' : (n == 0) = false := by simpa using hn0
    have q3 : decide ((2 : Int) ≤ (n : Int)) = true := by simp; omega
    have q3' : decide (2 ≤ n) = true := by simpa using hn2
    clear hq1 hq2 hle
    go_wp2
    go_ret
    exact ⟨rfl, B6.out⟩
end Go.Proofs.Ytcjekbncllccbaa
