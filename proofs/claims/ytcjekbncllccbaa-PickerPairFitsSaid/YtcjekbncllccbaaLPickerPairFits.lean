/-
  The walk of the law PickerPairFits.
-/
import Derived.Test.YtcjekbncllccbaaPickFits
import Derived.Test.YtcjekbncllccbaaPk9
namespace Go.Proofs.Ytcjekbncllccbaa
open Go.RowKit Go.Sort

set_option maxRecDepth 100000 in
set_option maxHeartbeats 8000000 in
theorem pickerPairFits_walk (v0 : Value) (zs : List Int) (a1 : Int) (w : World) (hx : Sl w 1 v0 zs.length (ints zs)) (hxl : zs.length ≤ 9223372036854775807) (hxr : ∀ x ∈ zs, -9223372036854775808 ≤ x ∧ x ≤ 9223372036854775807) :
    Calls Try.prog 5 #[v0, .int .i64 a1] w fun e w' => e = .returned (.bool true) ∧ Below w.heap.size w w' := by
  obtain ⟨A0, c0, rfl, _, _⟩ := hx.form
  have C1 := Lib.hid (kentries_any _ zs 7 w hx hxl hxr (by omega) (by omega))
  clear hx hxl hxr
  go_enter Try.func5, Try.ntmps5
  go_wp2_with fail
  refine C1.out.mono ?_
  rintro _ w1 ⟨v1, l, rfl, hll, hG, ho1, hb1⟩
  have HM := Lib.hid (made_of hG (by omega))
  have B1 := Lib.hid hb1
  have HS := Lib.hid (Sl.of_own ho1)
  obtain ⟨A1, cL, rfl, hc11, hc12⟩ := (Sl.of_own ho1).form
  have hl7 : l.length ≤ 7 := by omega
  clear hG ho1 hb1 C1 hll
  go_wp2_with fail
  refine (pick_any a1 20 _ (by omega) (by omega)).mono ?_
  rintro _ _ ⟨rfl, rfl⟩
  obtain ⟨r, hr⟩ : ∃ r, pick a1 20 = r := ⟨_, rfl⟩
  rw [hr]
  clear hr
  have HPR := Lib.hid (ppair_any 1 _ l r _ HS.out HM.out.small (by omega) HM.out.live')
  have HAN := Lib.hid (HM.out.any r)
  have HFO := Lib.hid (fun s hs => HM.out.found (rows := r) (s := s) hs)
  obtain ⟨S, hS⟩ : ∃ S, pairP 1 l r = S := ⟨_, rfl⟩
  rw [hS] at HPR HAN HFO
  clear hS
  go_wp2_with fail
  refine HPR.out.mono ?_
  rintro _ w2 ⟨rfl, hb2⟩
  have B2 := Lib.hid (bst B1.out hb2)
  have HS2 := Lib.hid (HS.out.below hb2)
  clear hb2 HPR
  go_wp2
  go_loopw [10, 29] (fun f i wr => ∃ m : Nat, m ≤ l.length ∧ i = .int .i64 m ∧ f = .bool (anyAll l r m) ∧ Below w2.heap.size w2 wr) (fun _ i _ => l.length - (intOf i).toNat)
  case atStart => exact ⟨0, by omega, rfl, rfl, Below.refl _ _⟩
  case round =>
    obtain ⟨m, hm, rfl, rfl, hbel⟩ := hrel
    by_cases hlt : m < l.length
    · obtain ⟨ad, x, px, rfl, hx, hpx, hE⟩ := (HS2.out.below hbel).ent_load rfl hlt
      obtain ⟨hplt, c0, c1, c2, c3, c4, c5, c6, c7, c8, c9, c10, c11⟩ := hE
      have HNX := Lib.hid (anyAll_next (rows := r) hx)
      have HMT := Lib.hid hlt
      have qm : decide (m < l.length) = true := by simpa using hlt
      have HXM := Lib.hid (List.mem_of_getElem? hx)
      have hlx := HM.out.live x (List.mem_of_getElem? hx)
      obtain ⟨N, hN⟩ : ∃ N, wr.heap.size = N := ⟨_, rfl⟩
      obtain ⟨U, hU⟩ : ∃ U, U = wr.alloc (.cells #[.int .i64 x.id, .int .i64 x.rows, .int .i64 x.live, .bool x.lo.null, .int .i64 x.lo.n, .string x.lo.s, .int .i64 x.lo.seq, .bool x.hi.null, .int .i64 x.hi.n, .string x.hi.s, .int .i64 x.hi.seq, .int .i64 x.del] 41) := ⟨_, rfl⟩
      have UE := Lib.hid (show Blk U N 41 #[.int .i64 x.id, .int .i64 x.rows, .int .i64 x.live, .bool x.lo.null, .int .i64 x.lo.n, .string x.lo.s, .int .i64 x.lo.seq, .bool x.hi.null, .int .i64 x.hi.n, .string x.hi.s, .int .i64 x.hi.seq, .int .i64 x.del] by rw [hU, ← hN]; exact Blk.new _ _ _)
      have UB := Lib.hid (show Below w2.heap.size w2 U by rw [hU]; exact hbel.alloc hbel.size _)
      have HFR := Lib.hid (show Sl w2 12 (.slice (some ad) m cL) m (ents (l.take m)) by rw [← ents_take12]; exact front2 HS2.out (by omega))
      have HTL := Lib.hid (show (l.take m).length = m by rw [List.length_take]; omega)
      have HXI := Lib.hid hx
      obtain ⟨av, hav⟩ : ∃ b, anyAll l r m = b := ⟨_, rfl⟩
      rw [hav] at HNX
      rw [hav]
      clear hx hbel hav
      go_upto_region 8 with (fail)
      rw [← hU]
      try simp only [hN]
      clear hU hN c0 c1 c2 c3 c4 c5 c6 c7 c8 c9 c10 c11 hpx hplt
      obtain ⟨w0r, hw0r⟩ : ∃ q : World, q = wr := ⟨_, rfl⟩
      go_wp2
      go_loopw [10, 38] (fun f i wi => ∃ n : Nat, n ≤ m ∧ i = .int .i64 n ∧ f = .bool (av || anyRow l r x n) ∧ Blk wi N 41 #[.int .i64 x.id, .int .i64 x.rows, .int .i64 x.live, .bool x.lo.null, .int .i64 x.lo.n, .string x.lo.s, .int .i64 x.lo.seq, .bool x.hi.null, .int .i64 x.hi.n, .string x.hi.s, .int .i64 x.hi.seq, .int .i64 x.del] ∧ Below w2.heap.size w2 wi) (fun _ i _ => m - (intOf i).toNat)
      case atStart => exact ⟨0, by omega, rfl, by simp [anyRow], UE.out, UB.out⟩
      case round =>
        obtain ⟨n, hn, rfl, rfl, bE, hbel⟩ := hrel
        by_cases hlt2 : n < m
        · obtain ⟨ad2, y, py, e0, hy, hpy, hE⟩ := (HFR.out.below hbel).ent_load HTL.out.symm hlt2
          injection e0 with e0
          subst e0
          have hyl : l[n]? = some y := by rw [List.getElem?_take, if_pos hlt2] at hy; exact hy
          obtain ⟨hplt, c0, c1, c2, c3, c4, c5, c6, c7, c8, c9, c10, c11⟩ := hE
          have HNY := Lib.hid (anyRow_next (rows := r) (x := x) hyl)
          have HNT := Lib.hid hlt2
          have qn : decide (n < m) = true := by simpa using hlt2
          have hly := HM.out.live y (List.mem_of_getElem? hyl)
          have hsum : IntKind.i64.wrap (x.live + y.live) = x.live + y.live := IntWalk.i64_in _ (by omega)
          obtain ⟨N2, hN2⟩ : ∃ N, wr.heap.size = N := ⟨_, rfl⟩
          obtain ⟨V, hV⟩ : ∃ V, V = wr.alloc (.cells #[.int .i64 y.id, .int .i64 y.rows, .int .i64 y.live, .bool y.lo.null, .int .i64 y.lo.n, .string y.lo.s, .int .i64 y.lo.seq, .bool y.hi.null, .int .i64 y.hi.n, .string y.hi.s, .int .i64 y.hi.seq, .int .i64 y.del] 41) := ⟨_, rfl⟩
          have VY := Lib.hid (show Blk V N2 41 #[.int .i64 y.id, .int .i64 y.rows, .int .i64 y.live, .bool y.lo.null, .int .i64 y.lo.n, .string y.lo.s, .int .i64 y.lo.seq, .bool y.hi.null, .int .i64 y.hi.n, .string y.hi.s, .int .i64 y.hi.seq, .int .i64 y.del] by rw [hV, ← hN2]; exact Blk.new _ _ _)
          have VX := Lib.hid (show Blk V N 41 #[.int .i64 x.id, .int .i64 x.rows, .int .i64 x.live, .bool x.lo.null, .int .i64 x.lo.n, .string x.lo.s, .int .i64 x.lo.seq, .bool x.hi.null, .int .i64 x.hi.n, .string x.hi.s, .int .i64 x.hi.seq, .int .i64 x.del] by rw [hV]; exact bE.alloc _)
          have VB := Lib.hid (show Below w2.heap.size w2 V by rw [hV]; exact hbel.alloc hbel.size _)
          have HFT := Lib.hid (show fitB l r x y = (decide (x.live + y.live ≤ r) && (meetE 1 x y || adjR 1 l x.id y.id)) from rfl)
          have HOV := Lib.hid (fun b (hb : meetE 1 x y = b) => rover_any 1 x y V hb)
          have HAJ := Lib.hid (fun X (hX : Below w2.heap.size w2 X) => radjacent_any 1 (.slice (some ad) l.length cL) l x.id y.id X (HS2.out.below hX) HM.out.small (by omega))
          obtain ⟨aw, haw⟩ : ∃ b, (av || anyRow l r x n) = b := ⟨_, rfl⟩
          have HAW := Lib.hid haw
          rw [haw]
          clear hy hyl bE hbel haw
          go_upto_region 11 with (fail)
          rw [← hV]
          try simp only [hN2]
          clear hV hN2 c0 c1 c2 c3 c4 c5 c6 c7 c8 c9 c10 c11 hpy hplt
          have HNN0 := Lib.hid (show (av || anyRow l r x (n + 1)) = (aw || fitB l r x y) by rw [HNY.out, ← Bool.or_assoc, HAW.out])
          cases aw with
          | true =>
            have HNN := Lib.hid (show (av || anyRow l r x (n + 1)) = true by rw [HNN0.out]; rfl)
            go_wp2
            go_roundw
            case rel => exact ⟨n + 1, HNT.out, by go_num, by rw [HNN.out], VX.out, VB.out⟩
            case measure => have := HNT.out; simp [intOf]; omega
          | false =>
            have bb := VX.out
            have x0 := bb.cell 0
            have x1 := bb.cell 1
            have x2 := bb.cell 2
            have x3 := bb.cell 3
            have x4 := bb.cell 4
            have x5 := bb.cell 5
            have x6 := bb.cell 6
            have x7 := bb.cell 7
            have x8 := bb.cell 8
            have x9 := bb.cell 9
            have x10 := bb.cell 10
            have x11 := bb.cell 11
            simp only [List.getElem?_toArray, List.getElem?_cons_zero, List.getElem?_cons_succ] at x0 x1 x2 x3 x4 x5 x6 x7 x8 x9 x10 x11
            clear bb
            have bb := VY.out
            have y0 := bb.cell 0
            have y1 := bb.cell 1
            have y2 := bb.cell 2
            have y3 := bb.cell 3
            have y4 := bb.cell 4
            have y5 := bb.cell 5
            have y6 := bb.cell 6
            have y7 := bb.cell 7
            have y8 := bb.cell 8
            have y9 := bb.cell 9
            have y10 := bb.cell 10
            have y11 := bb.cell 11
            simp only [List.getElem?_toArray, List.getElem?_cons_zero, List.getElem?_cons_succ] at y0 y1 y2 y3 y4 y5 y6 y7 y8 y9 y10 y11
            clear bb
            by_cases hr : x.live + y.live ≤ r
            · have q1 : decide (x.live + y.live ≤ r) = true := by simpa using hr
              cases hm2 : meetE 1 x y with
              | true =>
                have HO := Lib.hid (HOV.out true hm2)
                have HG := Lib.hid (show fitB l r x y = true by rw [HFT.out, q1, hm2]; rfl)
                clear hr hm2
                go_wp2_with fail
                refine HO.out.mono ?_
                rintro _ w5 ⟨rfl, hb5⟩
                clear x0 x1 x2 x3 x4 x5 x6 x7 x8 x9 x10 x11
                clear y0 y1 y2 y3 y4 y5 y6 y7 y8 y9 y10 y11
                have HNN := Lib.hid (show (av || anyRow l r x (n + 1)) = true by rw [HNN0.out, HG.out]; rfl)
                have KX := Lib.hid (VX.out.below (hb5) VX.out.lt)
                have KB := Lib.hid (bst VB.out (hb5))
                go_wp2
                go_roundw
                case rel => exact ⟨n + 1, HNT.out, by go_num, by rw [HNN.out], KX.out, KB.out⟩
                case measure => have := HNT.out; simp [intOf]; omega
              | false =>
                have HO := Lib.hid (HOV.out false hm2)
                obtain ⟨ja, hja⟩ : ∃ b, adjR 1 l x.id y.id = b := ⟨_, rfl⟩
                have HG := Lib.hid (show fitB l r x y = ja by rw [HFT.out, q1, hm2, hja]; rfl)
                rw [hja] at HAJ
                clear hr hm2 hja
                go_wp2_with fail
                refine HO.out.mono ?_
                rintro _ w5 ⟨rfl, hb5⟩
                clear x0 x1 x2 x3 x4 x5 x6 x7 x8 x9 x10 x11
                clear y0 y1 y2 y3 y4 y5 y6 y7 y8 y9 y10 y11
                have bb := (VX.out.below hb5 VX.out.lt)
                have x0 := bb.cell 0
                have x1 := bb.cell 1
                have x2 := bb.cell 2
                have x3 := bb.cell 3
                have x4 := bb.cell 4
                have x5 := bb.cell 5
                have x6 := bb.cell 6
                have x7 := bb.cell 7
                have x8 := bb.cell 8
                have x9 := bb.cell 9
                have x10 := bb.cell 10
                have x11 := bb.cell 11
                simp only [List.getElem?_toArray, List.getElem?_cons_zero, List.getElem?_cons_succ] at x0 x1 x2 x3 x4 x5 x6 x7 x8 x9 x10 x11
                clear bb
                have bb := (VY.out.below hb5 VY.out.lt)
                have y0 := bb.cell 0
                have y1 := bb.cell 1
                have y2 := bb.cell 2
                have y3 := bb.cell 3
                have y4 := bb.cell 4
                have y5 := bb.cell 5
                have y6 := bb.cell 6
                have y7 := bb.cell 7
                have y8 := bb.cell 8
                have y9 := bb.cell 9
                have y10 := bb.cell 10
                have y11 := bb.cell 11
                simp only [List.getElem?_toArray, List.getElem?_cons_zero, List.getElem?_cons_succ] at y0 y1 y2 y3 y4 y5 y6 y7 y8 y9 y10 y11
                clear bb
                have HJ5 := Lib.hid (HAJ.out w5 (bst VB.out hb5))
                go_wp2_with fail
                refine HJ5.out.mono ?_
                rintro _ w6 ⟨rfl, hb6⟩
                clear x0 x1 x2 x3 x4 x5 x6 x7 x8 x9 x10 x11
                clear y0 y1 y2 y3 y4 y5 y6 y7 y8 y9 y10 y11
                have HNN := Lib.hid (show (av || anyRow l r x (n + 1)) = ja by rw [HNN0.out, HG.out]; rfl)
                have KX := Lib.hid (VX.out.below (bst hb5 hb6) VX.out.lt)
                have KB := Lib.hid (bst VB.out (bst hb5 hb6))
                go_wp2
                go_roundw
                case rel => exact ⟨n + 1, HNT.out, by go_num, by rw [HNN.out], KX.out, KB.out⟩
                case measure => have := HNT.out; simp [intOf]; omega
            · have q1 : decide (x.live + y.live ≤ r) = false := by simpa using hr
              have HG := Lib.hid (show fitB l r x y = false by rw [HFT.out, q1]; rfl)
              clear hr
              clear x0 x1 x2 x3 x4 x5 x6 x7 x8 x9 x10 x11
              clear y0 y1 y2 y3 y4 y5 y6 y7 y8 y9 y10 y11
              have bb := VX.out
              have x0 := bb.cell 0
              have x1 := bb.cell 1
              have x2 := bb.cell 2
              have x3 := bb.cell 3
              have x4 := bb.cell 4
              have x5 := bb.cell 5
              have x6 := bb.cell 6
              have x7 := bb.cell 7
              have x8 := bb.cell 8
              have x9 := bb.cell 9
              have x10 := bb.cell 10
              have x11 := bb.cell 11
              simp only [List.getElem?_toArray, List.getElem?_cons_zero, List.getElem?_cons_succ] at x0 x1 x2 x3 x4 x5 x6 x7 x8 x9 x10 x11
              clear bb
              have bb := VY.out
              have y0 := bb.cell 0
              have y1 := bb.cell 1
              have y2 := bb.cell 2
              have y3 := bb.cell 3
              have y4 := bb.cell 4
              have y5 := bb.cell 5
              have y6 := bb.cell 6
              have y7 := bb.cell 7
              have y8 := bb.cell 8
              have y9 := bb.cell 9
              have y10 := bb.cell 10
              have y11 := bb.cell 11
              simp only [List.getElem?_toArray, List.getElem?_cons_zero, List.getElem?_cons_succ] at y0 y1 y2 y3 y4 y5 y6 y7 y8 y9 y10 y11
              clear bb
              have HNN := Lib.hid (show (av || anyRow l r x (n + 1)) = false by rw [HNN0.out, HG.out]; rfl)
              have KX := VX
              have KB := VB
              go_wp2
              go_roundw
              case rel => exact ⟨n + 1, HNT.out, by go_num, by rw [HNN.out], KX.out, KB.out⟩
              case measure => have := HNT.out; simp [intOf]; omega
        · have HN := Lib.hid (show (av || anyRow l r x n) = anyAll l r (m + 1) by rw [HNX.out, show n = m by omega])
          have KB := Lib.hid hbel
          obtain ⟨nb, hnb⟩ : ∃ b, (av || anyRow l r x n) = b := ⟨_, rfl⟩
          rw [hnb] at HN ⊢
          clear bE hbel hnb
          go_wp2
          go_roundw
          case rel => exact ⟨m + 1, HMT.out, by go_num, by rw [HN.out], KB.out⟩
          case measure => have := HMT.out; simp [intOf]; omega
    · have hml : m = l.length := by omega
      subst hml
      rw [HAN.out]
      have B3 := Lib.hid (bst B2.out hbel)
      have HS3 := Lib.hid (HS2.out.below hbel)
      clear hbel hlt hm
      cases S with
      | none =>
        simp only [Option.isSome_none]
        simp only [show (pairE none).1.id = 0 from rfl, show (pairE none).2.id = 0 from rfl]
        have HCH := Lib.hid (fun X u (hX : Below wr.heap.size wr X) hu => chosen28_any (.slice A1 l.length cL) u l [0, 0] X (HS3.out.below hX) hu (by omega) (by simp))
        go_wp2_with fail
        refine (HCH.out _ _ (abel _ _) (show Sl _ 1 _ 2 (ints [0, 0]) from blk_sl1 (Blk.new _ _ _) rfl (by decide))).mono ?_
        rintro _ w5 ⟨v5, rfl, hb5, ho5⟩
        have B5 := Lib.hid (bst (bst B3.out (abel wr (.cells #[.int .i64 0, .int .i64 0] 3))) hb5)
        obtain ⟨A5, c5, rfl, _, _⟩ := (Sl.of_own ho5).form
        clear ho5 hb5
        go_wp2_with fail
        refine (awake28_any _).mono ?_
        rintro _ w6 ⟨rfl, hb6⟩
        have B6 := Lib.hid (bst B5.out hb6)
        clear hb6
        go_wp2
        go_ret
        exact ⟨rfl, B6.out⟩
      | some s =>
        obtain ⟨x, y⟩ := s
        simp only [Option.isSome_some]
        simp only [show (pairE (some (x, y))).1 = x from rfl, show (pairE (some (x, y))).2 = y from rfl]
        obtain ⟨hxm, hym, hne, hbf, hok⟩ := HFO.out (x, y) rfl
        simp only at hxm hym hne hbf hok
        have hlx := HM.out.live x hxm
        have hly := HM.out.live y hym
        obtain ⟨u, z, hch, hum, hzm, hsum, hmz⟩ : ∃ u z : Ent, chosenE l [x.id, y.id] = [u, z] ∧ u ∈ l ∧ z ∈ l ∧ u.live + z.live = x.live + y.live ∧ meetE 1 u z = meetE 1 x y := by
          rcases HM.out.two hxm hym hne with e | e
          · exact ⟨x, y, e, hxm, hym, rfl, rfl⟩
          · exact ⟨y, x, e, hym, hxm, Int.add_comm _ _, meet_comm _ _ _⟩
        have hok2 := hok
        unfold okPair at hok2
        simp only [Bool.and_eq_true, decide_eq_true_eq] at hok2
        have hadj : meetE 1 x y = false → adjR 1 l x.id y.id = true := fun hm => by
          rw [HM.out.adj HM.out.chk x hxm y hym hbf hm]
          have := hok2.2
          rw [hm] at this; simpa using this
        have HCH := Lib.hid (fun X u' (hX : Below wr.heap.size wr X) hu => chosen28_any (.slice A1 l.length cL) u' l [x.id, y.id] X (HS3.out.below hX) hu (by omega) (by simp))
        rw [hch] at HCH
        have hlu := HM.out.live u hum
        have hlz := HM.out.live z hzm
        have wsum : IntKind.i64.wrap (u.live + z.live) = u.live + z.live := IntWalk.i64_in _ (by omega)
        have qs : decide (u.live + z.live ≤ r) = true := by simp only [decide_eq_true_eq]; omega
        have HADJ := Lib.hid hadj
        have HMZ := Lib.hid hmz
        clear hxm hym hne hbf hok hok2 hch hadj hmz hsum hum hzm
        go_wp2_with fail
        refine (HCH.out _ _ (abel _ _) (show Sl _ 1 _ 2 (ints [x.id, y.id]) from blk_sl1 (Blk.new _ _ _) rfl (by decide))).mono ?_
        rintro _ w5 ⟨v5, rfl, hb5, ho5⟩
        have hb35 := bst (abel wr (.cells #[.int .i64 x.id, .int .i64 y.id] 3)) hb5
        have B5 := Lib.hid (bst B3.out hb35)
        have HS5 := Lib.hid (HS3.out.below hb35)
        have HC5 := Lib.hid (show Sl w5 12 v5 2 (ents [u, z]) from Sl.of_own ho5)
        clear hb35 hb5 ho5
        obtain ⟨A5, c5, rfl, hc51, hc52⟩ := HC5.out.form
        obtain ⟨ad, u', pu, rfl, hu', hpu, hEU⟩ := HC5.out.ent_load (k := 0) rfl (by decide)
        obtain ⟨ad', z', pz, e0, hz', hpz, hEZ⟩ := HC5.out.ent_load (k := 1) rfl (by decide)
        injection e0 with e0
        subst e0
        simp only [List.getElem?_cons_zero, Option.some.injEq] at hu'
        subst hu'
        simp only [List.getElem?_cons_succ, List.getElem?_cons_zero, Option.some.injEq] at hz'
        subst hz'
        rw [show ad.add (0 * 12) = ad by unfold Addr.add; simp] at hpu
        subst hpu
        have f0 := fun d os => (hEU.regrown d os).c0
        have g0 := fun d os => (hEZ.regrown d os).c0
        have f1 := fun d os => (hEU.regrown d os).c1
        have g1 := fun d os => (hEZ.regrown d os).c1
        have f2 := fun d os => (hEU.regrown d os).c2
        have g2 := fun d os => (hEZ.regrown d os).c2
        have f3 := fun d os => (hEU.regrown d os).c3
        have g3 := fun d os => (hEZ.regrown d os).c3
        have f4 := fun d os => (hEU.regrown d os).c4
        have g4 := fun d os => (hEZ.regrown d os).c4
        have f5 := fun d os => (hEU.regrown d os).c5
        have g5 := fun d os => (hEZ.regrown d os).c5
        have f6 := fun d os => (hEU.regrown d os).c6
        have g6 := fun d os => (hEZ.regrown d os).c6
        have f7 := fun d os => (hEU.regrown d os).c7
        have g7 := fun d os => (hEZ.regrown d os).c7
        have f8 := fun d os => (hEU.regrown d os).c8
        have g8 := fun d os => (hEZ.regrown d os).c8
        have f9 := fun d os => (hEU.regrown d os).c9
        have g9 := fun d os => (hEZ.regrown d os).c9
        have f10 := fun d os => (hEU.regrown d os).c10
        have g10 := fun d os => (hEZ.regrown d os).c10
        have f11 := fun d os => (hEU.regrown d os).c11
        have g11 := fun d os => (hEZ.regrown d os).c11
        have AA1 := Lib.hid (reg_v (w := w5) (fun X _ => awake28_any X))
        have AA2 := Lib.hid (fun b (hb : meetE 1 u z = b) => reg_v (w := w5) (fun X _ => rover_any 1 u z X hb))
        have AA3 := Lib.hid (fun (b : Bool) (hb : adjR 1 l x.id y.id = b) => show ∀ d os, Calls Try.prog 22 #[.int .i64 1, .slice A1 l.length cL, .int .i64 x.id, .int .i64 y.id] (grow (redrawn w5 d) os) fun e w'' => e = .returned (.bool b) ∧ ∃ p : Regrown, w'' = grow (redrawn w5 p.d) p.os from by subst hb; exact reg_v (fun X hX => radjacent_any 1 (.slice A1 l.length cL) l x.id y.id X (HS5.out.below hX) HM.out.small (by omega)))
        clear hEU hEZ
        cases hm : meetE 1 u z with
        | true =>
          have D2 := Lib.hid (AA2.out true hm)
          clear hm
          go_upto_region 17 with (fail)
          refine wp_region_quiet_below (by kernel_rfl) (by kernel_rfl) ?_
          repeat (go_big_quiet_step ((first | (with_reducible exact AA1.out _ _) | (with_reducible exact D2.out _ _))))
          refine wpQuiet_nil ?_
          intro _ hw'
          obtain ⟨⟨dq, osq⟩, hw''⟩ := hw'
          subst hw''
          go_wp2
          go_ret
          exact ⟨rfl, bst B5.out (below_regrown w5 dq osq)⟩
        | false =>
          have D2 := Lib.hid (AA2.out false hm)
          have D3 := Lib.hid (AA3.out true (HADJ.out (HMZ.out ▸ hm)))
          clear hm
          go_upto_region 17 with (fail)
          refine wp_region_quiet_below (by kernel_rfl) (by kernel_rfl) ?_
          repeat (go_big_quiet_step ((first | (with_reducible exact AA1.out _ _) | (with_reducible exact D2.out _ _) | (with_reducible exact D3.out _ _))))
          refine wpQuiet_nil ?_
          intro _ hw'
          obtain ⟨⟨dq, osq⟩, hw''⟩ := hw'
          subst hw''
          go_wp2
          go_ret
          exact ⟨rfl, bst B5.out (below_regrown w5 dq osq)⟩
end Go.Proofs.Ytcjekbncllccbaa
