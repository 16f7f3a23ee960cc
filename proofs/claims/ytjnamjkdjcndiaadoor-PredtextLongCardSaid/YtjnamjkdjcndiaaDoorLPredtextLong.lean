/-
  The walk of PredtextLong.
-/
import Derived.Test.YtjnamjkdjcndiaaDoorNdOwn
import Derived.Test.YtjnamjkdjcndiaaDoorPredLong
import Derived.Test.YtjnamjkdjcndiaaDoorBase
namespace Go.Proofs.YtjnamjkdjcndiaaDoor
open Go.RowKit Go.Sort
set_option maxRecDepth 100000 in
set_option maxHeartbeats 8000000 in
theorem predtextLong_walk (n : Int) (w : World) (ht : Tab w) : Calls Tryd.prog 4 #[.int .i64 n] w fun e w' => e = .returned (.bool true) ∧ Below w.heap.size w w' := by
  have HT := Lib.hid ht
  have y1 := pick_lo n 63 (by omega)
  have y2 := pick_hi n 63 (by omega)
  have HP := Lib.hid (fun X => pick_any n 63 X (by omega) (by omega))
  obtain ⟨K, hK⟩ : ∃ K : Nat, pick n 63 = (K : Int) := ⟨(pick n 63).toNat, by omega⟩
  rw [hK] at HP y1 y2
  have hK63 : K < 63 := by omega
  clear hK y1 y2 ht
  obtain ⟨W, hW⟩ : ∃ W, W = w.alloc (.cells #[.int .i64 8, .int .i64 1, .bool false, .int .i64 0, .string { data := #[] }, .slice none 0 0, .int .i64 0, .int .i64 0] 36) := ⟨_, rfl⟩
  have HB := Lib.hid (show Below w.heap.size w W by rw [hW]; exact (Below.refl _ _).alloc (Nat.le_refl _) _)
  have HO := Lib.hid (show OwnNd W w.heap.size (.slice (some ⟨w.heap.size, 0, none⟩) 1 1) (longP 0) by
    rw [hW]; exact nd_one (s := nd22 8 1 0 0 0) (Blk.new _ _ _) (Nat.le_refl _) (World.ownsRow_nil _ _ _ _))
  go_enter Tryd.func4, Tryd.ntmps4
  go_wp2_with fail
  rw [← hW]
  refine (HP.out _).mono ?_
  rintro _ _ ⟨rfl, rfl⟩
  clear hW
  go_wp2_with fail
  go_loopw [3, 4] (fun p i wr => ∃ k j : Nat, i = .int .i64 k ∧ j + k = K ∧ OwnNd wr w.heap.size p (longP j) ∧ Below w.heap.size w wr) (fun _ i _ => (intOf i).toNat)
  case atStart => exact ⟨K, 0, rfl, by omega, HO.out, HB.out⟩
  case round =>
    obtain ⟨k, j, rfl, hjk, ho, hb⟩ := hrel
    have HJK := Lib.hid hjk
    have hj : j ≤ 62 := by omega
    have hk : k ≤ 62 := by omega
    clear hjk
    by_cases hlt : 0 < k
    case pos =>
      obtain ⟨us, h1, h2, h3⟩ := ho
      have hj1 : (longP j).length = j + 1 := longP_len j
      rw [hj1] at h2
      obtain ⟨A0, cp0, hv, _, _⟩ := (Sl.of_own h2).form
      subst hv
      have hjw : IntKind.i64.wrap (((j + 1 : Nat) : Int) - 1) = (j : Int) := by
        rw [show ((j + 1 : Nat) : Int) - 1 = (j : Int) by omega]; exact IntWalk.i64_in _ (by omega)
      have hkw : IntKind.i64.wrap ((k : Int) - 1) = (k : Int) - 1 := IntWalk.i64_in _ (by omega)
      have hsz := hb.size
      have HJ1 := Lib.hid hj1
      have HBW := Lib.hid hb
      have HU := Lib.hid (⟨h1, h3⟩ : _ ∧ _)
      clear h1 h3 hj1 hb
      go_wp2_with (at_builtin; go_must (refine app1 _ _ h2 (Below.refl w.heap.size wr) (Nat.le_refl _) hsz under_nd info_nd rfl (by decide) rfl (one8 _ _ _ _ _ _ _ _ _ _) (by omega) (by omega) rfl rfl rfl rfl ?_))
      intro g' cap' w9 ho9 hb9 hg9 hor9
      have O9 := Lib.hid (nd_snoc (h := longP j) (s := nd22 9 0 0 j j) (u := .slice none 0 0) HU.out.1 (by rw [HJ1.out]; exact h2) HU.out.2 (World.ownsRow_nil _ _ _ _) (by rw [HJ1.out]; exact ho9) hg9)
      have B9 := Lib.hid (HBW.out.trans hb9)
      clear ho9 hb9 hg9 hor9 h2 hsz
      go_wp2
      go_roundw
      case rel => exact ⟨k - 1, j + 1, by go_num, by have := HJK.out; omega, O9.out, B9.out⟩
      case measure => simp [intOf]; omega
    case neg =>
      obtain rfl : k = 0 := by omega
      obtain rfl : j = K := by have := HJK.out; omega
      have HF := Lib.hid (longP_fmt hK63)
      have HBD := Lib.hid (longP_bd hK63)
      have HLN := Lib.hid (longP_len j)
      obtain ⟨A0, c0, rfl, _, _⟩ := ho.form
      have HO1 := Lib.hid ho.sl
      have HB1 := Lib.hid hb
      clear ho hb hlt
      obtain ⟨l, hl⟩ : ∃ l, longP j = l := ⟨_, rfl⟩
      rw [hl] at HF HBD HLN HO1
      go_wp2_with fail
      with_reducible refine (two_any wr).mono ?_
      rintro _ w1 ⟨g, rfl, hS, hb1⟩
      have HS := Lib.hid hS
      have B1 := Lib.hid (bst HB1.out hb1)
      have HO2 := Lib.hid (HO1.out.below hb1)
      clear hS hb1
      have HFC := Lib.hid (pfmt_any _ _ 0 twoC l w1 ⟨HT.out.below B1.out, HS.out, HO2.out⟩ HBD.out)
      unfold RetDec at HFC
      obtain ⟨E, hE⟩ : ∃ E, (fmtP twoC 0 l).2 = E := ⟨_, rfl⟩
      rw [hE] at HF HFC
      obtain ⟨T, hT⟩ : ∃ T : ByteArray, (⟨(fmtP twoC 0 l).1.toArray⟩ : ByteArray) = T := ⟨_, rfl⟩
      rw [hT] at HFC
      rw [hl]
      clear hl hE hT HO1
      go_wp2_with fail
      with_reducible refine HFC.out.mono ?_
      rintro _ w2 ⟨rfl, hb2⟩
      have B2 := Lib.hid (bst B1.out hb2)
      have HO3 := Lib.hid (HO2.out.below hb2)
      clear hb2 HFC HO2
      go_wp2_with fail
      with_reducible refine (awake22_any w2 (HT.out.below B2.out)).mono ?_
      rintro _ w3 ⟨rfl, hb3⟩
      have B3 := Lib.hid (bst B2.out hb3)
      have HO4 := Lib.hid (HO3.out.below hb3)
      clear hb3 HO3
      go_wp2_with fail
      with_reducible refine (two_any w3).mono ?_
      rintro _ w4 ⟨g4, rfl, hS4, hb4⟩
      have B4 := Lib.hid (bst B3.out hb4)
      have HFM := Lib.hid (formats22_any _ _ 0 twoC l w4 ⟨HT.out.below B4.out, hS4, HO4.out.below hb4⟩ HBD.out)
      clear hb4 HO4 hS4
      go_wp2_with fail
      with_reducible refine HFM.out.mono ?_
      rintro _ w5 ⟨rfl, hb5⟩
      have B5 := Lib.hid (bst B4.out hb5)
      clear hb5 HFM
      have hF := HF.out
      have hL := HLN.out
      by_cases h11 : j ≤ 11
      · rw [if_pos h11] at hF
        subst hF
        have pj : ((l.length : Int) ≤ 12) = True := eq_true (by omega)
        have pn : (l.length ≤ 12) = True := eq_true (by omega)
        have hFh := Lib.hid hL
        clear hL
        go_wp2
        go_ret
        exact ⟨rfl, B5.out⟩
      · rw [if_neg h11] at hF
        subst hF
        have pj : ((l.length : Int) ≤ 12) = False := eq_false (by omega)
        have pn : (l.length ≤ 12) = False := eq_false (by omega)
        have hFh := Lib.hid hL
        clear hL
        go_wp2
        go_ret
        exact ⟨rfl, B5.out⟩
end Go.Proofs.YtjnamjkdjcndiaaDoor
