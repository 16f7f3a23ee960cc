/-
  The walk of the law PickerGenerated.
-/
import Derived.Test.YtcjekbncllccbaaGreatPk13
import Derived.Test.YtcjekbncllccbaaGreatEntSet
import Derived.Test.YtcjekbncllccbaaGreatPickGen
namespace Go.Proofs.YtcjekbncllccbaaGreat
open Go.RowKit Go.Sort


set_option maxRecDepth 100000 in
set_option maxHeartbeats 8000000 in
theorem pickerGenerated_walk (v0 : Value) (zs : List Int) (a1 a2 a3 a4 a5 a6 : Int) (w : World) (hx : Sl w 1 v0 zs.length (ints zs)) (hxl : zs.length ≤ 9223372036854775807) (hxr : ∀ x ∈ zs, -9223372036854775808 ≤ x ∧ x ≤ 9223372036854775807) :
    Calls Tryz.prog 3 #[v0, .int .i64 a1, .int .i64 a2, .int .i64 a3, .int .i64 a4, .int .i64 a5, .int .i64 a6] w fun e w' => e = .returned (.bool true) ∧ Below w.heap.size w w' := by
  obtain ⟨A0, c0, rfl, _, _⟩ := hx.form
  have C1 := Lib.hid (kentries_any _ zs 7 w hx hxl hxr (by omega) (by omega))
  clear hx hxl hxr
  go_enter Tryz.func3, Tryz.ntmps3
  go_wp2_with fail
  refine C1.out.mono ?_
  rintro _ w1 ⟨v1, l, rfl, hll, hG, ho1, hb1⟩
  have HM := Lib.hid (made_of hG (by omega))
  have B1 := Lib.hid hb1
  have HO := Lib.hid ho1
  have HS := Lib.hid (Sl.of_own ho1)
  obtain ⟨A1, cL, rfl, hc11, hc12⟩ := (Sl.of_own ho1).form
  have hl7 : l.length ≤ 7 := by omega
  clear hG ho1 hb1 C1 hll
  go_wp2_with fail
  refine (pick_any a1 24 _ (by omega) (by omega)).mono ?_
  rintro _ _ ⟨rfl, rfl⟩
  have x0 := pick_lo a1 24 (by omega)
  have x1 := pick_hi a1 24 (by omega)
  obtain ⟨x11, hx⟩ : ∃ x, pick a1 24 = x := ⟨_, rfl⟩
  rw [hx] at x0 x1 ⊢
  clear hx
  obtain ⟨b1, hb1⟩ : ∃ q, x11 - 1 = q := ⟨_, rfl⟩
  have wx1 : IntKind.i64.wrap (x11 - 1) = b1 := by rw [← hb1]; exact IntWalk.i64_in _ (by omega)
  clear x0 x1 hb1
  go_wp2_with fail
  refine (pick_any a2 24 _ (by omega) (by omega)).mono ?_
  rintro _ _ ⟨rfl, rfl⟩
  have x0 := pick_lo a2 24 (by omega)
  have x1 := pick_hi a2 24 (by omega)
  obtain ⟨x12, hx⟩ : ∃ x, pick a2 24 = x := ⟨_, rfl⟩
  rw [hx] at x0 x1 ⊢
  clear hx
  obtain ⟨b2, hb2⟩ : ∃ q, x12 - 1 = q := ⟨_, rfl⟩
  have wx2 : IntKind.i64.wrap (x12 - 1) = b2 := by rw [← hb2]; exact IntWalk.i64_in _ (by omega)
  clear x0 x1 hb2
  go_wp2_with fail
  refine (pick_any a3 5 _ (by omega) (by omega)).mono ?_
  rintro _ _ ⟨rfl, rfl⟩
  have x0 := pick_lo a3 5 (by omega)
  have x1 := pick_hi a3 5 (by omega)
  obtain ⟨x13, hx⟩ : ∃ x, pick a3 5 = x := ⟨_, rfl⟩
  rw [hx] at x0 x1 ⊢
  clear hx
  obtain ⟨b3, hb3⟩ : ∃ q, x13 - 1 = q := ⟨_, rfl⟩
  have wx3 : IntKind.i64.wrap (x13 - 1) = b3 := by rw [← hb3]; exact IntWalk.i64_in _ (by omega)
  clear x0 x1 hb3
  go_wp2_with fail
  refine (pick_any a4 7 _ (by omega) (by omega)).mono ?_
  rintro _ _ ⟨rfl, rfl⟩
  have x0 := pick_lo a4 7 (by omega)
  have x1 := pick_hi a4 7 (by omega)
  obtain ⟨x14, hx⟩ : ∃ x, pick a4 7 = x := ⟨_, rfl⟩
  rw [hx] at x0 x1 ⊢
  clear hx
  obtain ⟨b4, hb4⟩ : ∃ q, x14 - 1 = q := ⟨_, rfl⟩
  have wx4 : IntKind.i64.wrap (x14 - 1) = b4 := by rw [← hb4]; exact IntWalk.i64_in _ (by omega)
  clear x0 x1 hb4
  go_wp2_with fail
  refine (pick_any a5 20 _ (by omega) (by omega)).mono ?_
  rintro _ _ ⟨rfl, rfl⟩
  have x0 := pick_lo a5 20 (by omega)
  have x1 := pick_hi a5 20 (by omega)
  obtain ⟨x15, hx⟩ : ∃ x, pick a5 20 = x := ⟨_, rfl⟩
  rw [hx] at x0 x1 ⊢
  clear hx
  obtain ⟨b5, hb5⟩ : ∃ q, x15 - 1 = q := ⟨_, rfl⟩
  have wx5 : IntKind.i64.wrap (x15 - 1) = b5 := by rw [← hb5]; exact IntWalk.i64_in _ (by omega)
  clear x0 x1 hb5
  have HAG := Lib.hid (agrees28_any (.slice A1 l.length cL) l b1 b2 b3 b4 b5 w1 HS.out HM.out.loose (by omega))
  go_wp2_with fail
  refine HAG.out.mono ?_
  rintro _ w2 ⟨rfl, hb2⟩
  have B2 := Lib.hid (bst B1.out hb2)
  have HS2 := Lib.hid (HS.out.below hb2)
  have HO2 := Lib.hid (own_below HO.out hb2)
  clear hb2 HAG HS HO
  go_wp2
  go_loopw [53] (fun i wr => ∃ m : Nat, m ≤ l.length ∧ i = .int .i64 m ∧ Below w2.heap.size w2 wr) (fun i _ => l.length - (intOf i).toNat)
  case atStart => exact ⟨0, by omega, rfl, Below.refl _ _⟩
  case round =>
    obtain ⟨m, hm, rfl, hbel⟩ := hrel
    by_cases hlt : m < l.length
    · obtain ⟨ad, x, px, rfl, hx, hpx, hE⟩ := (HS2.out.below hbel).ent_load rfl hlt
      obtain ⟨hplt, c0, c1, c2, c3, c4, c5, c6, c7, c8, c9, c10, c11⟩ := hE
      have HMT := Lib.hid hlt
      have qm : decide (m < l.length) = true := by simpa using hlt
      have HXM := Lib.hid (List.mem_of_getElem? hx)
      obtain ⟨N, hN⟩ : ∃ N, wr.heap.size = N := ⟨_, rfl⟩
      obtain ⟨U, hU⟩ : ∃ U, U = wr.alloc (.cells #[.int .i64 x.id, .int .i64 x.rows, .int .i64 x.live, .bool x.lo.null, .int .i64 x.lo.n, .string x.lo.s, .int .i64 x.lo.seq, .bool x.hi.null, .int .i64 x.hi.n, .string x.hi.s, .int .i64 x.hi.seq, .int .i64 x.del] 32) := ⟨_, rfl⟩
      have UE := Lib.hid (show Blk U N 32 #[.int .i64 x.id, .int .i64 x.rows, .int .i64 x.live, .bool x.lo.null, .int .i64 x.lo.n, .string x.lo.s, .int .i64 x.lo.seq, .bool x.hi.null, .int .i64 x.hi.n, .string x.hi.s, .int .i64 x.hi.seq, .int .i64 x.del] by rw [hU, ← hN]; exact Blk.new _ _ _)
      have UB := Lib.hid (show Below w2.heap.size w2 U by rw [hU]; exact hbel.alloc hbel.size _)
      clear hx hbel
      go_upto_region 8 with (fail)
      rw [← hU]
      try simp only [hN]
      clear hU hN c0 c1 c2 c3 c4 c5 c6 c7 c8 c9 c10 c11 hpx hplt
      obtain ⟨w0r, hw0r⟩ : ∃ q : World, q = wr := ⟨_, rfl⟩
      go_wp2
      go_loopw [59] (fun i wi => ∃ n : Nat, n ≤ l.length ∧ i = .int .i64 n ∧ Blk wi N 32 #[.int .i64 x.id, .int .i64 x.rows, .int .i64 x.live, .bool x.lo.null, .int .i64 x.lo.n, .string x.lo.s, .int .i64 x.lo.seq, .bool x.hi.null, .int .i64 x.hi.n, .string x.hi.s, .int .i64 x.hi.seq, .int .i64 x.del] ∧ Below w2.heap.size w2 wi) (fun i _ => l.length - (intOf i).toNat)
      case atStart => exact ⟨0, by omega, rfl, UE.out, UB.out⟩
      case round =>
        obtain ⟨n, hn, rfl, bE, hbel⟩ := hrel
        by_cases hlt2 : n < l.length
        · obtain ⟨ad2, y, py, e0, hy, hpy, hE⟩ := (HS2.out.below hbel).ent_load rfl hlt2
          injection e0 with e0
          subst e0
          obtain ⟨hplt, c0, c1, c2, c3, c4, c5, c6, c7, c8, c9, c10, c11⟩ := hE
          have HNT := Lib.hid hlt2
          have qn : decide (n < l.length) = true := by simpa using hlt2
          obtain ⟨N2, hN2⟩ : ∃ N, wr.heap.size = N := ⟨_, rfl⟩
          obtain ⟨V, hV⟩ : ∃ V, V = wr.alloc (.cells #[.int .i64 y.id, .int .i64 y.rows, .int .i64 y.live, .bool y.lo.null, .int .i64 y.lo.n, .string y.lo.s, .int .i64 y.lo.seq, .bool y.hi.null, .int .i64 y.hi.n, .string y.hi.s, .int .i64 y.hi.seq, .int .i64 y.del] 32) := ⟨_, rfl⟩
          have VY := Lib.hid (show Blk V N2 32 #[.int .i64 y.id, .int .i64 y.rows, .int .i64 y.live, .bool y.lo.null, .int .i64 y.lo.n, .string y.lo.s, .int .i64 y.lo.seq, .bool y.hi.null, .int .i64 y.hi.n, .string y.hi.s, .int .i64 y.hi.seq, .int .i64 y.del] by rw [hV, ← hN2]; exact Blk.new _ _ _)
          have VX := Lib.hid (show Blk V N 32 #[.int .i64 x.id, .int .i64 x.rows, .int .i64 x.live, .bool x.lo.null, .int .i64 x.lo.n, .string x.lo.s, .int .i64 x.lo.seq, .bool x.hi.null, .int .i64 x.hi.n, .string x.hi.s, .int .i64 x.hi.seq, .int .i64 x.del] by rw [hV]; exact bE.alloc _)
          have VB := Lib.hid (show Below w2.heap.size w2 V by rw [hV]; exact hbel.alloc hbel.size _)
          have HSV := Lib.hid (HS2.out.below VB.out)
          obtain ⟨aj, haj⟩ : ∃ q, adjR 1 l x.id y.id = q := ⟨_, rfl⟩
          obtain ⟨mb, hmb⟩ : ∃ q, meetE 1 x y = q := ⟨_, rfl⟩
          have A1 := Lib.hid (reg_v (w := V) (fun X hX => show Calls Tryz.prog 7 #[.int .i64 1, .slice (some ad) l.length cL, .int .i64 x.id, .int .i64 y.id] X (RetBe X aj) by rw [← haj, ← HM.out.loose.adj]; exact padj_any 1 _ l x.id y.id X (HSV.out.below hX) HM.out.small (by omega)))
          have A2 := Lib.hid (reg_v (w := V) (fun X hX => show Calls Tryz.prog 8 #[.int .i64 1, .slice (some ad) l.length cL, .int .i64 x.id, .int .i64 y.id] X (RetBe X aj) by rw [← haj]; exact radjacent_any 1 _ l x.id y.id X (HSV.out.below hX) HM.out.small (by omega)))
          have A3 := Lib.hid (reg_v (w := V) (fun X _ => pover_any 1 x y X hmb))
          have A4 := Lib.hid (reg_v (w := V) (fun X _ => rover_any 1 x y X hmb))
          have q1 : (aj != aj) = false := by simp
          have q2 : (mb != mb) = false := by simp
          have hEU := EntAt.of_blk (e := x) VX.out
          have hEZ := EntAt.of_blk (e := y) VY.out
          clear hy hbel bE haj hmb
          have f0 := fun d os => (hEU.regrown d os).c0
          have g0 := fun d os => (hEZ.regrown d os).c0
          have f1 := fun d os => (hEU.regrown d os).c1
          have g1 := fun d os => (hEZ.regrown d os).c1
          have f2 := fun d os => (hEU.regrown d os).c2
          have g2 := fun d os => (hEZ.regrown d os).c2
          have f3 := fun d os => (hEU.regrown d os).c3
          have g3 := fun d os => (hEZ.regrown d os).c3
          have f4 := fun d os => (hEU.regrown d os).c4
          have g4 := fun d os => (hEZ.regrown d os).c4
          have f5 := fun d os => (hEU.regrown d os).c5
          have g5 := fun d os => (hEZ.regrown d os).c5
          have f6 := fun d os => (hEU.regrown d os).c6
          have g6 := fun d os => (hEZ.regrown d os).c6
          have f7 := fun d os => (hEU.regrown d os).c7
          have g7 := fun d os => (hEZ.regrown d os).c7
          have f8 := fun d os => (hEU.regrown d os).c8
          have g8 := fun d os => (hEZ.regrown d os).c8
          have f9 := fun d os => (hEU.regrown d os).c9
          have g9 := fun d os => (hEZ.regrown d os).c9
          have f10 := fun d os => (hEU.regrown d os).c10
          have g10 := fun d os => (hEZ.regrown d os).c10
          have f11 := fun d os => (hEU.regrown d os).c11
          have g11 := fun d os => (hEZ.regrown d os).c11
          go_upto_region 11 with (fail)
          rw [← hV]
          try simp only [hN2]
          clear hV hN2 c0 c1 c2 c3 c4 c5 c6 c7 c8 c9 c10 c11 hpy hplt hEU hEZ
          refine wp_region_quiet_below (by kernel_rfl) (by kernel_rfl) ?_
          repeat (go_big_quiet_step ((first | (with_reducible exact A1.out _ _) | (with_reducible exact A2.out _ _) | (with_reducible exact A3.out _ _) | (with_reducible exact A4.out _ _))))
          refine wpQuiet_nil ?_
          intro _ hw'
          obtain ⟨⟨dq, osq⟩, hw''⟩ := hw'
          subst hw''
          have XX := Lib.hid (VX.out.below (below_regrown V dq osq) VX.out.lt)
          have XB := Lib.hid (bst VB.out (below_regrown V dq osq))
          obtain ⟨X, hX⟩ : ∃ X, grow (redrawn V dq) osq = X := ⟨_, rfl⟩
          simp only [hX] at XX XB
          clear f0 f1 f2 f3 f4 f5 f6 f7 f8 f9 f10 f11
          clear g0 g1 g2 g3 g4 g5 g6 g7 g8 g9 g10 g11
          clear A1 A2 A3 A4
          go_wp2
          try simp only [hX]
          go_roundw
          case rel => exact ⟨n + 1, HNT.out, by go_num, XX.out, XB.out⟩
          case measure => have := HNT.out; simp [intOf]; omega
        · have qn : decide (n < l.length) = false := by simpa using hlt2
          have KB := Lib.hid hbel
          clear bE hbel hlt2
          go_wp2
          go_roundw
          case rel => exact ⟨m + 1, HMT.out, by go_num, KB.out⟩
          case measure => have := HMT.out; simp [intOf]; omega
    · have qm : decide (m < l.length) = false := by simpa using hlt
      have B3 := Lib.hid (bst B2.out hbel)
      have HO3 := Lib.hid (own_below HO2.out hbel)
      have HS3 := Lib.hid (HS2.out.below hbel)
      clear hbel hlt hm HO2 HS2
      by_cases hl0 : l.length = 0
      · have q0 : decide (0 < l.length) = false := by rw [decide_eq_false_iff_not]; omega
        have HL0 := Lib.hid hl0
        clear hl0
        go_wp2_with fail
        refine (awake28_any _).mono ?_
        rintro _ w4 ⟨rfl, hb4⟩
        have B4 := Lib.hid (bst B3.out hb4)
        have HAG := Lib.hid (agrees28_any (.slice A1 l.length cL) l b1 b2 b3 b4 b5 w4 (HS3.out.below hb4) HM.out.loose (by omega))
        clear hb4
        go_wp2_with fail
        refine HAG.out.mono ?_
        rintro _ w5 ⟨rfl, hb5⟩
        have B5 := Lib.hid (bst B4.out hb5)
        clear hb5 HAG
        go_wp2
        go_ret
        exact ⟨rfl, B5.out⟩
      have q0 : decide (0 < l.length) = true := by rw [decide_eq_true_eq]; omega
      obtain ⟨g, hA⟩ : ∃ g, A1 = some ⟨g, 0, none⟩ := by
        rcases HO3.out.2 with ⟨e0, h0⟩ | ⟨g, cap, cur, e0, _⟩
        · exact absurd h0 hl0
        · injection e0 with e1 _ _
          exact ⟨g, e1⟩
      subst hA
      go_wp2_with fail
      refine (pick_any _ (l.length : Int) _ (by omega) (by omega)).mono ?_
      rintro _ _ ⟨rfl, rfl⟩
      have k0 := pick_lo (wrap64 (a6.tdiv 4)) (l.length : Int) (by omega)
      have k1 := pick_hi (wrap64 (a6.tdiv 4)) (l.length : Int) (by omega)
      obtain ⟨k, hk⟩ : ∃ k : Nat, pick (wrap64 (a6.tdiv 4)) (l.length : Int) = (k : Int) := ⟨(pick (wrap64 (a6.tdiv 4)) (l.length : Int)).toNat, by omega⟩
      rw [hk] at k0 k1 ⊢
      have hkl : k < l.length := by omega
      have qk : decide (k < l.length) = true := by simpa using hkl
      clear hk k0 k1 hl0
      obtain ⟨e, hxe⟩ : ∃ e, l[k]? = some e := ⟨_, List.getElem?_eq_getElem hkl⟩
      have hem := List.mem_of_getElem? hxe
      have HLW := Lib.hid (HM.out.low e hem)
      have HLV := Lib.hid (HM.out.live e hem)
      have HSMALL := Lib.hid (HM.out.small e hem)
      have HXE := Lib.hid hxe
      clear hxe hem
      go_wp2_with fail
      refine (pick_any a6 4 _ (by omega) (by omega)).mono ?_
      rintro _ _ ⟨rfl, rfl⟩
      have s0 := pick_lo a6 4 (by omega)
      have s1 := pick_hi a6 4 (by omega)
      obtain ⟨s, hs⟩ : ∃ s, pick a6 4 = s := ⟨_, rfl⟩
      rw [hs] at s0 s1 ⊢
      clear hs
      by_cases h0 : s = 0
      · subst h0
        go_upto_region 19 with (fail)
        have HINIT := Lib.hid (show OwnE wr w.heap.size g l.length cL (l.set k (mixE e false false)) by
          have : l.set k (mixE e false false) = l := by
            have h2 := HXE.out
            obtain ⟨h3, h4⟩ := List.getElem?_eq_some_iff.1 h2
            rw [show mixE e false false = e from rfl, ← h4]; exact List.set_getElem_self h3
          rw [this]; exact HO3.out)
        clear s0 s1
        refine wp_region_inv (by kernel_rfl) (by kernel_rfl) (fun L a w' => ∃ u101 u102 u103 u104 u105 u106 u107 u108 u109 u110 u111 u112 u113 u114 : Value, a = ⟨#[.slice A0 zs.length c0, .int .i64 a1, .int .i64 a2, .int .i64 a3, .int .i64 a4, .int .i64 a5, .int .i64 a6, undef, undef, undef, undef, undef, undef, undef, u14, .slice (some ⟨g, 0, none⟩) l.length cL, .int .i64 b1, .int .i64 b2, .int .i64 b3, .int .i64 b4, .int .i64 b5, undef, u22, undef, u24, .pointer (some ⟨g, k * 12, none⟩), .slice A0 zs.length c0, .slice (some ⟨g, 0, none⟩) l.length cL, .int .i64 a1, .int .i64 x11, .int .i64 b1, .int .i64 a2, .int .i64 x12, .int .i64 b2, .int .i64 a3, .int .i64 x13, .int .i64 b3, .int .i64 a4, .int .i64 x14, .int .i64 b4, .int .i64 a5, .int .i64 x15, .int .i64 b5, .slice (some ⟨g, 0, none⟩) l.length cL, .int .i64 b1, .int .i64 b2, .int .i64 b3, .int .i64 b4, .int .i64 b5, .bool true, .bool false, .slice (some ⟨g, 0, none⟩) l.length cL, .int .i64 l.length, .int .i64 m, .bool false, u55, u56, u57, u58, u59, u60, u61, u62, u63, u64, u65, u66, u67, u68, u69, u70, u71, u72, u73, u74, u75, u76, u77, u78, u79, u80, u81, u82, u83, u84, u85, u86, .slice (some ⟨g, 0, none⟩) l.length cL, .int .i64 l.length, .bool true, .slice (some ⟨g, 0, none⟩) l.length cL, .int .i64 a6, .int .i64 (wrap64 (a6.tdiv 4)), .slice (some ⟨g, 0, none⟩) l.length cL, .int .i64 l.length, .int .i64 k, .pointer (some ⟨g, k * 12, none⟩), .int .i64 a6, .int .i64 0, .bool true, .bool true, u101, u102, u103, u104, u105, u106, u107, u108, u109, u110, u111, u112, u113, u114, undef, undef, undef, undef, undef, undef, undef, undef, undef, undef, undef, undef, undef, undef, undef, undef, undef, undef, undef, undef, undef, undef, undef, undef, undef, undef], []⟩ ∧
            Below w.heap.size w w' ∧ Got (L 0) u101 (.pointer (some ⟨g, k * 12, none⟩)) ∧ Got (L 1) u102 (.pointer (some ⟨g, k * 12, none⟩)) ∧ Got (L 2) u103 (.pointer (some ⟨g, k * 12, none⟩)) ∧ Got (L 3) u104 (.pointer (some ⟨g, k * 12, none⟩)) ∧ Got (L 4) u105 (.pointer (some ⟨g, k * 12 + 7, none⟩)) ∧ Got (L 5) u106 (.agg #[.bool e.hi.null, .int .i64 e.hi.n, .string e.hi.s, .int .i64 e.hi.seq]) ∧ Got (L 6) u107 (.pointer (some ⟨g, k * 12, none⟩)) ∧ Got (L 7) u108 (.pointer (some ⟨g, k * 12, none⟩)) ∧ Got (L 8) u109 (.pointer (some ⟨g, k * 12 + 3, none⟩)) ∧ Got (L 9) u110 (.agg #[.bool e.lo.null, .int .i64 e.lo.n, .string e.lo.s, .int .i64 e.lo.seq]) ∧ Got (L 10) u111 (.pointer (some ⟨g, k * 12, none⟩)) ∧ Got (L 11) u112 (.pointer (some ⟨g, k * 12 + 3, none⟩)) ∧ OwnE w' w.heap.size g l.length cL (l.set k (mixE e (L 12) (L 15))) ∧ Got (L 13) u113 (.pointer (some ⟨g, k * 12, none⟩)) ∧ Got (L 14) u114 (.pointer (some ⟨g, k * 12 + 7, none⟩)) ∧ ((L 12 = true → L 5 = true ∧ L 9 = true) ∧ (L 15 = true → L 5 = true ∧ L 9 = true)))
          ?_ ?_ ?_
        · exact ⟨_, _, _, _, _, _, _, _, _, _, _, _, _, _, rfl, B3.out.drew, nofun, nofun, nofun, nofun, nofun, nofun, nofun, nofun, nofun, nofun, nofun, nofun, HINIT.out, nofun, nofun, ⟨nofun, nofun⟩⟩
        · refine ⟨?_, ?_, ?_, ?_, ?_, ?_, ?_, ?_, ?_, ?_, ?_, ?_, ?_, ?_, ?_, ?_, trivial⟩
          · intro L a w' hI hl hd K hK
            refine hI.elim fun u101 hI => hI.elim fun u102 hI => hI.elim fun u103 hI => hI.elim fun u104 hI => hI.elim fun u105 hI => hI.elim fun u106 hI => hI.elim fun u107 hI => hI.elim fun u108 hI => hI.elim fun u109 hI => hI.elim fun u110 hI => hI.elim fun u111 hI => hI.elim fun u112 hI => hI.elim fun u113 hI => hI.elim fun u114 hI => ?_
            have ha := hI.1
            subst ha
            have hb := hI.2.1
            have g0 := hI.2.2.1
            have g1 := hI.2.2.2.1
            have g2 := hI.2.2.2.2.1
            have g3 := hI.2.2.2.2.2.1
            have g4 := hI.2.2.2.2.2.2.1
            have g5 := hI.2.2.2.2.2.2.2.1
            have g6 := hI.2.2.2.2.2.2.2.2.1
            have g7 := hI.2.2.2.2.2.2.2.2.2.1
            have g8 := hI.2.2.2.2.2.2.2.2.2.2.1
            have g9 := hI.2.2.2.2.2.2.2.2.2.2.2.1
            have g10 := hI.2.2.2.2.2.2.2.2.2.2.2.2.1
            have g11 := hI.2.2.2.2.2.2.2.2.2.2.2.2.2.1
            have g12 := hI.2.2.2.2.2.2.2.2.2.2.2.2.2.2.1
            have g13 := hI.2.2.2.2.2.2.2.2.2.2.2.2.2.2.2.1
            have g14 := hI.2.2.2.2.2.2.2.2.2.2.2.2.2.2.2.2.1
            have g15 := hI.2.2.2.2.2.2.2.2.2.2.2.2.2.2.2.2.2
            clear hI
            dsimp only at hK ⊢
            go_simp
            exact hK _ _ ⟨_, _, _, _, _, _, _, _, _, _, _, _, _, _, rfl, hb, fun _ => rfl, g1, g2, g3, g4, g5, g6, g7, g8, g9, g10, g11, g12, g13, g14, g15⟩
          · intro L a w' hI hl hd K hK
            refine hI.elim fun u101 hI => hI.elim fun u102 hI => hI.elim fun u103 hI => hI.elim fun u104 hI => hI.elim fun u105 hI => hI.elim fun u106 hI => hI.elim fun u107 hI => hI.elim fun u108 hI => hI.elim fun u109 hI => hI.elim fun u110 hI => hI.elim fun u111 hI => hI.elim fun u112 hI => hI.elim fun u113 hI => hI.elim fun u114 hI => ?_
            have ha := hI.1
            subst ha
            have hb := hI.2.1
            have g0 := hI.2.2.1
            have g1 := hI.2.2.2.1
            have g2 := hI.2.2.2.2.1
            have g3 := hI.2.2.2.2.2.1
            have g4 := hI.2.2.2.2.2.2.1
            have g5 := hI.2.2.2.2.2.2.2.1
            have g6 := hI.2.2.2.2.2.2.2.2.1
            have g7 := hI.2.2.2.2.2.2.2.2.2.1
            have g8 := hI.2.2.2.2.2.2.2.2.2.2.1
            have g9 := hI.2.2.2.2.2.2.2.2.2.2.2.1
            have g10 := hI.2.2.2.2.2.2.2.2.2.2.2.2.1
            have g11 := hI.2.2.2.2.2.2.2.2.2.2.2.2.2.1
            have g12 := hI.2.2.2.2.2.2.2.2.2.2.2.2.2.2.1
            have g13 := hI.2.2.2.2.2.2.2.2.2.2.2.2.2.2.2.1
            have g14 := hI.2.2.2.2.2.2.2.2.2.2.2.2.2.2.2.2.1
            have g15 := hI.2.2.2.2.2.2.2.2.2.2.2.2.2.2.2.2.2
            clear hI
            dsimp only at hK ⊢
            go_simp
            exact hK _ _ ⟨_, _, _, _, _, _, _, _, _, _, _, _, _, _, rfl, hb, g0, fun _ => rfl, g2, g3, g4, g5, g6, g7, g8, g9, g10, g11, g12, g13, g14, g15⟩
          · intro L a w' hI hl hd K hK
            refine hI.elim fun u101 hI => hI.elim fun u102 hI => hI.elim fun u103 hI => hI.elim fun u104 hI => hI.elim fun u105 hI => hI.elim fun u106 hI => hI.elim fun u107 hI => hI.elim fun u108 hI => hI.elim fun u109 hI => hI.elim fun u110 hI => hI.elim fun u111 hI => hI.elim fun u112 hI => hI.elim fun u113 hI => hI.elim fun u114 hI => ?_
            have ha := hI.1
            subst ha
            have hb := hI.2.1
            have g0 := hI.2.2.1
            have g1 := hI.2.2.2.1
            have g2 := hI.2.2.2.2.1
            have g3 := hI.2.2.2.2.2.1
            have g4 := hI.2.2.2.2.2.2.1
            have g5 := hI.2.2.2.2.2.2.2.1
            have g6 := hI.2.2.2.2.2.2.2.2.1
            have g7 := hI.2.2.2.2.2.2.2.2.2.1
            have g8 := hI.2.2.2.2.2.2.2.2.2.2.1
            have g9 := hI.2.2.2.2.2.2.2.2.2.2.2.1
            have g10 := hI.2.2.2.2.2.2.2.2.2.2.2.2.1
            have g11 := hI.2.2.2.2.2.2.2.2.2.2.2.2.2.1
            have g12 := hI.2.2.2.2.2.2.2.2.2.2.2.2.2.2.1
            have g13 := hI.2.2.2.2.2.2.2.2.2.2.2.2.2.2.2.1
            have g14 := hI.2.2.2.2.2.2.2.2.2.2.2.2.2.2.2.2.1
            have g15 := hI.2.2.2.2.2.2.2.2.2.2.2.2.2.2.2.2.2
            clear hI
            dsimp only at hK ⊢
            go_simp
            exact hK _ _ ⟨_, _, _, _, _, _, _, _, _, _, _, _, _, _, rfl, hb, g0, g1, fun _ => rfl, g3, g4, g5, g6, g7, g8, g9, g10, g11, g12, g13, g14, g15⟩
          · intro L a w' hI hl hd K hK
            refine hI.elim fun u101 hI => hI.elim fun u102 hI => hI.elim fun u103 hI => hI.elim fun u104 hI => hI.elim fun u105 hI => hI.elim fun u106 hI => hI.elim fun u107 hI => hI.elim fun u108 hI => hI.elim fun u109 hI => hI.elim fun u110 hI => hI.elim fun u111 hI => hI.elim fun u112 hI => hI.elim fun u113 hI => hI.elim fun u114 hI => ?_
            have ha := hI.1
            subst ha
            have hb := hI.2.1
            have g0 := hI.2.2.1
            have g1 := hI.2.2.2.1
            have g2 := hI.2.2.2.2.1
            have g3 := hI.2.2.2.2.2.1
            have g4 := hI.2.2.2.2.2.2.1
            have g5 := hI.2.2.2.2.2.2.2.1
            have g6 := hI.2.2.2.2.2.2.2.2.1
            have g7 := hI.2.2.2.2.2.2.2.2.2.1
            have g8 := hI.2.2.2.2.2.2.2.2.2.2.1
            have g9 := hI.2.2.2.2.2.2.2.2.2.2.2.1
            have g10 := hI.2.2.2.2.2.2.2.2.2.2.2.2.1
            have g11 := hI.2.2.2.2.2.2.2.2.2.2.2.2.2.1
            have g12 := hI.2.2.2.2.2.2.2.2.2.2.2.2.2.2.1
            have g13 := hI.2.2.2.2.2.2.2.2.2.2.2.2.2.2.2.1
            have g14 := hI.2.2.2.2.2.2.2.2.2.2.2.2.2.2.2.2.1
            have g15 := hI.2.2.2.2.2.2.2.2.2.2.2.2.2.2.2.2.2
            clear hI
            simp [Region.binds] at hd
            dsimp only at hK ⊢
            have e2 := g2 (by simp [hd])
            subst e2
            go_simp
            exact hK _ _ ⟨_, _, _, _, _, _, _, _, _, _, _, _, _, _, rfl, hb, g0, g1, g2, fun _ => rfl, g4, g5, g6, g7, g8, g9, g10, g11, g12, g13, g14, g15⟩
          · intro L a w' hI hl hd K hK
            refine hI.elim fun u101 hI => hI.elim fun u102 hI => hI.elim fun u103 hI => hI.elim fun u104 hI => hI.elim fun u105 hI => hI.elim fun u106 hI => hI.elim fun u107 hI => hI.elim fun u108 hI => hI.elim fun u109 hI => hI.elim fun u110 hI => hI.elim fun u111 hI => hI.elim fun u112 hI => hI.elim fun u113 hI => hI.elim fun u114 hI => ?_
            have ha := hI.1
            subst ha
            have hb := hI.2.1
            have g0 := hI.2.2.1
            have g1 := hI.2.2.2.1
            have g2 := hI.2.2.2.2.1
            have g3 := hI.2.2.2.2.2.1
            have g4 := hI.2.2.2.2.2.2.1
            have g5 := hI.2.2.2.2.2.2.2.1
            have g6 := hI.2.2.2.2.2.2.2.2.1
            have g7 := hI.2.2.2.2.2.2.2.2.2.1
            have g8 := hI.2.2.2.2.2.2.2.2.2.2.1
            have g9 := hI.2.2.2.2.2.2.2.2.2.2.2.1
            have g10 := hI.2.2.2.2.2.2.2.2.2.2.2.2.1
            have g11 := hI.2.2.2.2.2.2.2.2.2.2.2.2.2.1
            have g12 := hI.2.2.2.2.2.2.2.2.2.2.2.2.2.2.1
            have g13 := hI.2.2.2.2.2.2.2.2.2.2.2.2.2.2.2.1
            have g14 := hI.2.2.2.2.2.2.2.2.2.2.2.2.2.2.2.2.1
            have g15 := hI.2.2.2.2.2.2.2.2.2.2.2.2.2.2.2.2.2
            clear hI
            simp [Region.binds] at hd
            dsimp only at hK ⊢
            have e3 := g3 (by simp [hd])
            subst e3
            go_simp
            exact hK _ _ ⟨_, _, _, _, _, _, _, _, _, _, _, _, _, _, rfl, hb, g0, g1, g2, g3, fun _ => rfl, g5, g6, g7, g8, g9, g10, g11, g12, g13, g14, g15⟩
          · intro L a w' hI hl hd K hK
            refine hI.elim fun u101 hI => hI.elim fun u102 hI => hI.elim fun u103 hI => hI.elim fun u104 hI => hI.elim fun u105 hI => hI.elim fun u106 hI => hI.elim fun u107 hI => hI.elim fun u108 hI => hI.elim fun u109 hI => hI.elim fun u110 hI => hI.elim fun u111 hI => hI.elim fun u112 hI => hI.elim fun u113 hI => hI.elim fun u114 hI => ?_
            have ha := hI.1
            subst ha
            have hb := hI.2.1
            have g0 := hI.2.2.1
            have g1 := hI.2.2.2.1
            have g2 := hI.2.2.2.2.1
            have g3 := hI.2.2.2.2.2.1
            have g4 := hI.2.2.2.2.2.2.1
            have g5 := hI.2.2.2.2.2.2.2.1
            have g6 := hI.2.2.2.2.2.2.2.2.1
            have g7 := hI.2.2.2.2.2.2.2.2.2.1
            have g8 := hI.2.2.2.2.2.2.2.2.2.2.1
            have g9 := hI.2.2.2.2.2.2.2.2.2.2.2.1
            have g10 := hI.2.2.2.2.2.2.2.2.2.2.2.2.1
            have g11 := hI.2.2.2.2.2.2.2.2.2.2.2.2.2.1
            have g12 := hI.2.2.2.2.2.2.2.2.2.2.2.2.2.2.1
            have g13 := hI.2.2.2.2.2.2.2.2.2.2.2.2.2.2.2.1
            have g14 := hI.2.2.2.2.2.2.2.2.2.2.2.2.2.2.2.2.1
            have g15 := hI.2.2.2.2.2.2.2.2.2.2.2.2.2.2.2.2.2
            clear hI
            simp [Region.binds] at hd
            dsimp only at hK ⊢
            have e4 := g4 (by simp [hd])
            subst e4
            have h12 : L 12 = false := by
              cases h : L 12 with
              | false => rfl
              | true => exact absurd (g15.1 h).1 (by rw [hl]; simp)
            have h15 : L 15 = false := by
              cases h : L 15 with
              | false => rfl
              | true => exact absurd (g15.2 h).1 (by rw [hl]; simp)
            have ho : OwnE w' w.heap.size g l.length cL (l.set k (mixE e false false)) := by have h := g12; rw [h12, h15] at h; exact h
            have hE := own_at ho List.length_set.symm (get_setE HXE.out)
            have c0 : w'.cell? ⟨g, k * 12 + 7, none⟩ = some (.bool e.hi.null) := hE.c7
            have c1 : w'.cell? ⟨g, k * 12 + 8, none⟩ = some (.int .i64 e.hi.n) := hE.c8
            have d1 : w'.cell? ⟨g, k * 12 + 7 + 1, none⟩ = some (.int .i64 e.hi.n) := hE.c8
            have c2 : w'.cell? ⟨g, k * 12 + 9, none⟩ = some (.string e.hi.s) := hE.c9
            have d2 : w'.cell? ⟨g, k * 12 + 7 + 2, none⟩ = some (.string e.hi.s) := hE.c9
            have c3 : w'.cell? ⟨g, k * 12 + 10, none⟩ = some (.int .i64 e.hi.seq) := hE.c10
            have d3 : w'.cell? ⟨g, k * 12 + 7 + 3, none⟩ = some (.int .i64 e.hi.seq) := hE.c10
            clear hE
            go_simp
            exact hK _ _ ⟨_, _, _, _, _, _, _, _, _, _, _, _, _, _, rfl, hb, g0, g1, g2, g3, g4, fun _ => rfl, g6, g7, g8, g9, g10, g11, g12, g13, g14, ⟨fun h => ⟨rfl, (g15.1 h).2⟩, fun h => ⟨rfl, (g15.2 h).2⟩⟩⟩
          · intro L a w' hI hl hd K hK
            refine hI.elim fun u101 hI => hI.elim fun u102 hI => hI.elim fun u103 hI => hI.elim fun u104 hI => hI.elim fun u105 hI => hI.elim fun u106 hI => hI.elim fun u107 hI => hI.elim fun u108 hI => hI.elim fun u109 hI => hI.elim fun u110 hI => hI.elim fun u111 hI => hI.elim fun u112 hI => hI.elim fun u113 hI => hI.elim fun u114 hI => ?_
            have ha := hI.1
            subst ha
            have hb := hI.2.1
            have g0 := hI.2.2.1
            have g1 := hI.2.2.2.1
            have g2 := hI.2.2.2.2.1
            have g3 := hI.2.2.2.2.2.1
            have g4 := hI.2.2.2.2.2.2.1
            have g5 := hI.2.2.2.2.2.2.2.1
            have g6 := hI.2.2.2.2.2.2.2.2.1
            have g7 := hI.2.2.2.2.2.2.2.2.2.1
            have g8 := hI.2.2.2.2.2.2.2.2.2.2.1
            have g9 := hI.2.2.2.2.2.2.2.2.2.2.2.1
            have g10 := hI.2.2.2.2.2.2.2.2.2.2.2.2.1
            have g11 := hI.2.2.2.2.2.2.2.2.2.2.2.2.2.1
            have g12 := hI.2.2.2.2.2.2.2.2.2.2.2.2.2.2.1
            have g13 := hI.2.2.2.2.2.2.2.2.2.2.2.2.2.2.2.1
            have g14 := hI.2.2.2.2.2.2.2.2.2.2.2.2.2.2.2.2.1
            have g15 := hI.2.2.2.2.2.2.2.2.2.2.2.2.2.2.2.2.2
            clear hI
            dsimp only at hK ⊢
            go_simp
            exact hK _ _ ⟨_, _, _, _, _, _, _, _, _, _, _, _, _, _, rfl, hb, g0, g1, g2, g3, g4, g5, fun _ => rfl, g7, g8, g9, g10, g11, g12, g13, g14, g15⟩
          · intro L a w' hI hl hd K hK
            refine hI.elim fun u101 hI => hI.elim fun u102 hI => hI.elim fun u103 hI => hI.elim fun u104 hI => hI.elim fun u105 hI => hI.elim fun u106 hI => hI.elim fun u107 hI => hI.elim fun u108 hI => hI.elim fun u109 hI => hI.elim fun u110 hI => hI.elim fun u111 hI => hI.elim fun u112 hI => hI.elim fun u113 hI => hI.elim fun u114 hI => ?_
            have ha := hI.1
            subst ha
            have hb := hI.2.1
            have g0 := hI.2.2.1
            have g1 := hI.2.2.2.1
            have g2 := hI.2.2.2.2.1
            have g3 := hI.2.2.2.2.2.1
            have g4 := hI.2.2.2.2.2.2.1
            have g5 := hI.2.2.2.2.2.2.2.1
            have g6 := hI.2.2.2.2.2.2.2.2.1
            have g7 := hI.2.2.2.2.2.2.2.2.2.1
            have g8 := hI.2.2.2.2.2.2.2.2.2.2.1
            have g9 := hI.2.2.2.2.2.2.2.2.2.2.2.1
            have g10 := hI.2.2.2.2.2.2.2.2.2.2.2.2.1
            have g11 := hI.2.2.2.2.2.2.2.2.2.2.2.2.2.1
            have g12 := hI.2.2.2.2.2.2.2.2.2.2.2.2.2.2.1
            have g13 := hI.2.2.2.2.2.2.2.2.2.2.2.2.2.2.2.1
            have g14 := hI.2.2.2.2.2.2.2.2.2.2.2.2.2.2.2.2.1
            have g15 := hI.2.2.2.2.2.2.2.2.2.2.2.2.2.2.2.2.2
            clear hI
            simp [Region.binds] at hd
            dsimp only at hK ⊢
            have e6 := g6 (by simp [hd])
            subst e6
            go_simp
            exact hK _ _ ⟨_, _, _, _, _, _, _, _, _, _, _, _, _, _, rfl, hb, g0, g1, g2, g3, g4, g5, g6, fun _ => rfl, g8, g9, g10, g11, g12, g13, g14, g15⟩
          · intro L a w' hI hl hd K hK
            refine hI.elim fun u101 hI => hI.elim fun u102 hI => hI.elim fun u103 hI => hI.elim fun u104 hI => hI.elim fun u105 hI => hI.elim fun u106 hI => hI.elim fun u107 hI => hI.elim fun u108 hI => hI.elim fun u109 hI => hI.elim fun u110 hI => hI.elim fun u111 hI => hI.elim fun u112 hI => hI.elim fun u113 hI => hI.elim fun u114 hI => ?_
            have ha := hI.1
            subst ha
            have hb := hI.2.1
            have g0 := hI.2.2.1
            have g1 := hI.2.2.2.1
            have g2 := hI.2.2.2.2.1
            have g3 := hI.2.2.2.2.2.1
            have g4 := hI.2.2.2.2.2.2.1
            have g5 := hI.2.2.2.2.2.2.2.1
            have g6 := hI.2.2.2.2.2.2.2.2.1
            have g7 := hI.2.2.2.2.2.2.2.2.2.1
            have g8 := hI.2.2.2.2.2.2.2.2.2.2.1
            have g9 := hI.2.2.2.2.2.2.2.2.2.2.2.1
            have g10 := hI.2.2.2.2.2.2.2.2.2.2.2.2.1
            have g11 := hI.2.2.2.2.2.2.2.2.2.2.2.2.2.1
            have g12 := hI.2.2.2.2.2.2.2.2.2.2.2.2.2.2.1
            have g13 := hI.2.2.2.2.2.2.2.2.2.2.2.2.2.2.2.1
            have g14 := hI.2.2.2.2.2.2.2.2.2.2.2.2.2.2.2.2.1
            have g15 := hI.2.2.2.2.2.2.2.2.2.2.2.2.2.2.2.2.2
            clear hI
            simp [Region.binds] at hd
            dsimp only at hK ⊢
            have e7 := g7 (by simp [hd])
            subst e7
            go_simp
            exact hK _ _ ⟨_, _, _, _, _, _, _, _, _, _, _, _, _, _, rfl, hb, g0, g1, g2, g3, g4, g5, g6, g7, fun _ => rfl, g9, g10, g11, g12, g13, g14, g15⟩
          · intro L a w' hI hl hd K hK
            refine hI.elim fun u101 hI => hI.elim fun u102 hI => hI.elim fun u103 hI => hI.elim fun u104 hI => hI.elim fun u105 hI => hI.elim fun u106 hI => hI.elim fun u107 hI => hI.elim fun u108 hI => hI.elim fun u109 hI => hI.elim fun u110 hI => hI.elim fun u111 hI => hI.elim fun u112 hI => hI.elim fun u113 hI => hI.elim fun u114 hI => ?_
            have ha := hI.1
            subst ha
            have hb := hI.2.1
            have g0 := hI.2.2.1
            have g1 := hI.2.2.2.1
            have g2 := hI.2.2.2.2.1
            have g3 := hI.2.2.2.2.2.1
            have g4 := hI.2.2.2.2.2.2.1
            have g5 := hI.2.2.2.2.2.2.2.1
            have g6 := hI.2.2.2.2.2.2.2.2.1
            have g7 := hI.2.2.2.2.2.2.2.2.2.1
            have g8 := hI.2.2.2.2.2.2.2.2.2.2.1
            have g9 := hI.2.2.2.2.2.2.2.2.2.2.2.1
            have g10 := hI.2.2.2.2.2.2.2.2.2.2.2.2.1
            have g11 := hI.2.2.2.2.2.2.2.2.2.2.2.2.2.1
            have g12 := hI.2.2.2.2.2.2.2.2.2.2.2.2.2.2.1
            have g13 := hI.2.2.2.2.2.2.2.2.2.2.2.2.2.2.2.1
            have g14 := hI.2.2.2.2.2.2.2.2.2.2.2.2.2.2.2.2.1
            have g15 := hI.2.2.2.2.2.2.2.2.2.2.2.2.2.2.2.2.2
            clear hI
            simp [Region.binds] at hd
            dsimp only at hK ⊢
            have e8 := g8 (by simp [hd])
            subst e8
            have h12 : L 12 = false := by
              cases h : L 12 with
              | false => rfl
              | true => exact absurd (g15.1 h).2 (by rw [hl]; simp)
            have h15 : L 15 = false := by
              cases h : L 15 with
              | false => rfl
              | true => exact absurd (g15.2 h).2 (by rw [hl]; simp)
            have ho : OwnE w' w.heap.size g l.length cL (l.set k (mixE e false false)) := by have h := g12; rw [h12, h15] at h; exact h
            have hE := own_at ho List.length_set.symm (get_setE HXE.out)
            have c0 : w'.cell? ⟨g, k * 12 + 3, none⟩ = some (.bool e.lo.null) := hE.c3
            have c1 : w'.cell? ⟨g, k * 12 + 4, none⟩ = some (.int .i64 e.lo.n) := hE.c4
            have d1 : w'.cell? ⟨g, k * 12 + 3 + 1, none⟩ = some (.int .i64 e.lo.n) := hE.c4
            have c2 : w'.cell? ⟨g, k * 12 + 5, none⟩ = some (.string e.lo.s) := hE.c5
            have d2 : w'.cell? ⟨g, k * 12 + 3 + 2, none⟩ = some (.string e.lo.s) := hE.c5
            have c3 : w'.cell? ⟨g, k * 12 + 6, none⟩ = some (.int .i64 e.lo.seq) := hE.c6
            have d3 : w'.cell? ⟨g, k * 12 + 3 + 3, none⟩ = some (.int .i64 e.lo.seq) := hE.c6
            clear hE
            go_simp
            exact hK _ _ ⟨_, _, _, _, _, _, _, _, _, _, _, _, _, _, rfl, hb, g0, g1, g2, g3, g4, g5, g6, g7, g8, fun _ => rfl, g10, g11, g12, g13, g14, ⟨fun h => ⟨(g15.1 h).1, rfl⟩, fun h => ⟨(g15.2 h).1, rfl⟩⟩⟩
          · intro L a w' hI hl hd K hK
            refine hI.elim fun u101 hI => hI.elim fun u102 hI => hI.elim fun u103 hI => hI.elim fun u104 hI => hI.elim fun u105 hI => hI.elim fun u106 hI => hI.elim fun u107 hI => hI.elim fun u108 hI => hI.elim fun u109 hI => hI.elim fun u110 hI => hI.elim fun u111 hI => hI.elim fun u112 hI => hI.elim fun u113 hI => hI.elim fun u114 hI => ?_
            have ha := hI.1
            subst ha
            have hb := hI.2.1
            have g0 := hI.2.2.1
            have g1 := hI.2.2.2.1
            have g2 := hI.2.2.2.2.1
            have g3 := hI.2.2.2.2.2.1
            have g4 := hI.2.2.2.2.2.2.1
            have g5 := hI.2.2.2.2.2.2.2.1
            have g6 := hI.2.2.2.2.2.2.2.2.1
            have g7 := hI.2.2.2.2.2.2.2.2.2.1
            have g8 := hI.2.2.2.2.2.2.2.2.2.2.1
            have g9 := hI.2.2.2.2.2.2.2.2.2.2.2.1
            have g10 := hI.2.2.2.2.2.2.2.2.2.2.2.2.1
            have g11 := hI.2.2.2.2.2.2.2.2.2.2.2.2.2.1
            have g12 := hI.2.2.2.2.2.2.2.2.2.2.2.2.2.2.1
            have g13 := hI.2.2.2.2.2.2.2.2.2.2.2.2.2.2.2.1
            have g14 := hI.2.2.2.2.2.2.2.2.2.2.2.2.2.2.2.2.1
            have g15 := hI.2.2.2.2.2.2.2.2.2.2.2.2.2.2.2.2.2
            clear hI
            simp [Region.binds] at hd
            dsimp only at hK ⊢
            have e0 := g0 (by simp [hd])
            subst e0
            go_simp
            exact hK _ _ ⟨_, _, _, _, _, _, _, _, _, _, _, _, _, _, rfl, hb, g0, g1, g2, g3, g4, g5, g6, g7, g8, g9, fun _ => rfl, g11, g12, g13, g14, g15⟩
          · intro L a w' hI hl hd K hK
            refine hI.elim fun u101 hI => hI.elim fun u102 hI => hI.elim fun u103 hI => hI.elim fun u104 hI => hI.elim fun u105 hI => hI.elim fun u106 hI => hI.elim fun u107 hI => hI.elim fun u108 hI => hI.elim fun u109 hI => hI.elim fun u110 hI => hI.elim fun u111 hI => hI.elim fun u112 hI => hI.elim fun u113 hI => hI.elim fun u114 hI => ?_
            have ha := hI.1
            subst ha
            have hb := hI.2.1
            have g0 := hI.2.2.1
            have g1 := hI.2.2.2.1
            have g2 := hI.2.2.2.2.1
            have g3 := hI.2.2.2.2.2.1
            have g4 := hI.2.2.2.2.2.2.1
            have g5 := hI.2.2.2.2.2.2.2.1
            have g6 := hI.2.2.2.2.2.2.2.2.1
            have g7 := hI.2.2.2.2.2.2.2.2.2.1
            have g8 := hI.2.2.2.2.2.2.2.2.2.2.1
            have g9 := hI.2.2.2.2.2.2.2.2.2.2.2.1
            have g10 := hI.2.2.2.2.2.2.2.2.2.2.2.2.1
            have g11 := hI.2.2.2.2.2.2.2.2.2.2.2.2.2.1
            have g12 := hI.2.2.2.2.2.2.2.2.2.2.2.2.2.2.1
            have g13 := hI.2.2.2.2.2.2.2.2.2.2.2.2.2.2.2.1
            have g14 := hI.2.2.2.2.2.2.2.2.2.2.2.2.2.2.2.2.1
            have g15 := hI.2.2.2.2.2.2.2.2.2.2.2.2.2.2.2.2.2
            clear hI
            simp [Region.binds] at hd
            dsimp only at hK ⊢
            have e10 := g10 (by simp [hd])
            subst e10
            go_simp
            exact hK _ _ ⟨_, _, _, _, _, _, _, _, _, _, _, _, _, _, rfl, hb, g0, g1, g2, g3, g4, g5, g6, g7, g8, g9, g10, fun _ => rfl, g12, g13, g14, g15⟩
          · intro L a w' hI hl hd K hK
            refine hI.elim fun u101 hI => hI.elim fun u102 hI => hI.elim fun u103 hI => hI.elim fun u104 hI => hI.elim fun u105 hI => hI.elim fun u106 hI => hI.elim fun u107 hI => hI.elim fun u108 hI => hI.elim fun u109 hI => hI.elim fun u110 hI => hI.elim fun u111 hI => hI.elim fun u112 hI => hI.elim fun u113 hI => hI.elim fun u114 hI => ?_
            have ha := hI.1
            subst ha
            have hb := hI.2.1
            have g0 := hI.2.2.1
            have g1 := hI.2.2.2.1
            have g2 := hI.2.2.2.2.1
            have g3 := hI.2.2.2.2.2.1
            have g4 := hI.2.2.2.2.2.2.1
            have g5 := hI.2.2.2.2.2.2.2.1
            have g6 := hI.2.2.2.2.2.2.2.2.1
            have g7 := hI.2.2.2.2.2.2.2.2.2.1
            have g8 := hI.2.2.2.2.2.2.2.2.2.2.1
            have g9 := hI.2.2.2.2.2.2.2.2.2.2.2.1
            have g10 := hI.2.2.2.2.2.2.2.2.2.2.2.2.1
            have g11 := hI.2.2.2.2.2.2.2.2.2.2.2.2.2.1
            have g12 := hI.2.2.2.2.2.2.2.2.2.2.2.2.2.2.1
            have g13 := hI.2.2.2.2.2.2.2.2.2.2.2.2.2.2.2.1
            have g14 := hI.2.2.2.2.2.2.2.2.2.2.2.2.2.2.2.2.1
            have g15 := hI.2.2.2.2.2.2.2.2.2.2.2.2.2.2.2.2.2
            clear hI
            simp [Region.binds] at hd
            dsimp only at hK ⊢
            have e11 := g11 (by simp [hd])
            subst e11
            have e5 := g5 (by simp [hd])
            subst e5
            have e9 := g9 (by simp [hd])
            subst e9
            have k5 : L 5 = true := by simp [hd]
            have k9 : L 9 = true := by simp [hd]
            obtain ⟨q, hq⟩ : ∃ q, L 15 = q := ⟨_, rfl⟩
            have ho : OwnE w' w.heap.size g l.length cL (l.set k (mixE e false q)) := by have h := g12; rw [hl, hq] at h; exact h
            have hE := own_at ho List.length_set.symm (get_setE HXE.out)
            have hn : OwnE ((((w'.setCell ⟨g, k * 12 + 3, none⟩ (.bool e.hi.null)).setCell ⟨g, k * 12 + 4, none⟩ (.int .i64 e.hi.n)).setCell ⟨g, k * 12 + 5, none⟩ (.string e.hi.s)).setCell ⟨g, k * 12 + 6, none⟩ (.int .i64 e.hi.seq)) w.heap.size g l.length cL (l.set k (mixE e true q)) := by have h := own_setLo e.hi ho (get_setE HXE.out); rw [List.set_set] at h; exact h
            have HGB := Lib.hid (ho.lt g rfl).1
            have HNN := Lib.hid hn
            have HQ := Lib.hid hq
            have c0 : w'.cell? ⟨g, k * 12 + 3, none⟩ = some (.bool e.lo.null) := hE.c3
            have c1 : w'.cell? ⟨g, k * 12 + 4, none⟩ = some (.int .i64 e.lo.n) := hE.c4
            have d1 : w'.cell? ⟨g, k * 12 + 3 + 1, none⟩ = some (.int .i64 e.lo.n) := hE.c4
            have c2 : w'.cell? ⟨g, k * 12 + 5, none⟩ = some (.string e.lo.s) := hE.c5
            have d2 : w'.cell? ⟨g, k * 12 + 3 + 2, none⟩ = some (.string e.lo.s) := hE.c5
            have c3 : w'.cell? ⟨g, k * 12 + 6, none⟩ = some (.int .i64 e.lo.seq) := hE.c6
            have d3 : w'.cell? ⟨g, k * 12 + 3 + 3, none⟩ = some (.int .i64 e.lo.seq) := hE.c6
            clear hE
            have e0 : w'.frozen? ⟨g, k * 12 + 3, none⟩ = false := own_frozE ho _
            have e1 : w'.frozen? ⟨g, k * 12 + 4, none⟩ = false := own_frozE ho _
            have e2 : w'.frozen? ⟨g, k * 12 + 5, none⟩ = false := own_frozE ho _
            have e3 : w'.frozen? ⟨g, k * 12 + 6, none⟩ = false := own_frozE ho _
            have f1 : w'.frozen? ⟨g, k * 12 + 3 + 1, none⟩ = false := own_frozE ho _
            have f2 : w'.frozen? ⟨g, k * 12 + 3 + 2, none⟩ = false := own_frozE ho _
            have f3 : w'.frozen? ⟨g, k * 12 + 3 + 3, none⟩ = false := own_frozE ho _
            clear ho hn hq
            go_simp
            exact hK _ _ ⟨_, _, _, _, _, _, _, _, _, _, _, _, _, _, rfl, below_set4 hb HGB.out _ _ _ _, g0, g1, g2, g3, g4, g5, g6, g7, g8, g9, g10, g11, by have h := HNN.out; rw [← HQ.out] at h; exact h, g13, g14, ⟨fun _ => ⟨k5, k9⟩, g15.2⟩⟩
          · intro L a w' hI hl hd K hK
            refine hI.elim fun u101 hI => hI.elim fun u102 hI => hI.elim fun u103 hI => hI.elim fun u104 hI => hI.elim fun u105 hI => hI.elim fun u106 hI => hI.elim fun u107 hI => hI.elim fun u108 hI => hI.elim fun u109 hI => hI.elim fun u110 hI => hI.elim fun u111 hI => hI.elim fun u112 hI => hI.elim fun u113 hI => hI.elim fun u114 hI => ?_
            have ha := hI.1
            subst ha
            have hb := hI.2.1
            have g0 := hI.2.2.1
            have g1 := hI.2.2.2.1
            have g2 := hI.2.2.2.2.1
            have g3 := hI.2.2.2.2.2.1
            have g4 := hI.2.2.2.2.2.2.1
            have g5 := hI.2.2.2.2.2.2.2.1
            have g6 := hI.2.2.2.2.2.2.2.2.1
            have g7 := hI.2.2.2.2.2.2.2.2.2.1
            have g8 := hI.2.2.2.2.2.2.2.2.2.2.1
            have g9 := hI.2.2.2.2.2.2.2.2.2.2.2.1
            have g10 := hI.2.2.2.2.2.2.2.2.2.2.2.2.1
            have g11 := hI.2.2.2.2.2.2.2.2.2.2.2.2.2.1
            have g12 := hI.2.2.2.2.2.2.2.2.2.2.2.2.2.2.1
            have g13 := hI.2.2.2.2.2.2.2.2.2.2.2.2.2.2.2.1
            have g14 := hI.2.2.2.2.2.2.2.2.2.2.2.2.2.2.2.2.1
            have g15 := hI.2.2.2.2.2.2.2.2.2.2.2.2.2.2.2.2.2
            clear hI
            simp [Region.binds] at hd
            dsimp only at hK ⊢
            have e1 := g1 (by simp [hd])
            subst e1
            go_simp
            exact hK _ _ ⟨_, _, _, _, _, _, _, _, _, _, _, _, _, _, rfl, hb, g0, g1, g2, g3, g4, g5, g6, g7, g8, g9, g10, g11, g12, fun _ => rfl, g14, g15⟩
          · intro L a w' hI hl hd K hK
            refine hI.elim fun u101 hI => hI.elim fun u102 hI => hI.elim fun u103 hI => hI.elim fun u104 hI => hI.elim fun u105 hI => hI.elim fun u106 hI => hI.elim fun u107 hI => hI.elim fun u108 hI => hI.elim fun u109 hI => hI.elim fun u110 hI => hI.elim fun u111 hI => hI.elim fun u112 hI => hI.elim fun u113 hI => hI.elim fun u114 hI => ?_
            have ha := hI.1
            subst ha
            have hb := hI.2.1
            have g0 := hI.2.2.1
            have g1 := hI.2.2.2.1
            have g2 := hI.2.2.2.2.1
            have g3 := hI.2.2.2.2.2.1
            have g4 := hI.2.2.2.2.2.2.1
            have g5 := hI.2.2.2.2.2.2.2.1
            have g6 := hI.2.2.2.2.2.2.2.2.1
            have g7 := hI.2.2.2.2.2.2.2.2.2.1
            have g8 := hI.2.2.2.2.2.2.2.2.2.2.1
            have g9 := hI.2.2.2.2.2.2.2.2.2.2.2.1
            have g10 := hI.2.2.2.2.2.2.2.2.2.2.2.2.1
            have g11 := hI.2.2.2.2.2.2.2.2.2.2.2.2.2.1
            have g12 := hI.2.2.2.2.2.2.2.2.2.2.2.2.2.2.1
            have g13 := hI.2.2.2.2.2.2.2.2.2.2.2.2.2.2.2.1
            have g14 := hI.2.2.2.2.2.2.2.2.2.2.2.2.2.2.2.2.1
            have g15 := hI.2.2.2.2.2.2.2.2.2.2.2.2.2.2.2.2.2
            clear hI
            simp [Region.binds] at hd
            dsimp only at hK ⊢
            have e13 := g13 (by simp [hd])
            subst e13
            go_simp
            exact hK _ _ ⟨_, _, _, _, _, _, _, _, _, _, _, _, _, _, rfl, hb, g0, g1, g2, g3, g4, g5, g6, g7, g8, g9, g10, g11, g12, g13, fun _ => rfl, g15⟩
          · intro L a w' hI hl hd K hK
            refine hI.elim fun u101 hI => hI.elim fun u102 hI => hI.elim fun u103 hI => hI.elim fun u104 hI => hI.elim fun u105 hI => hI.elim fun u106 hI => hI.elim fun u107 hI => hI.elim fun u108 hI => hI.elim fun u109 hI => hI.elim fun u110 hI => hI.elim fun u111 hI => hI.elim fun u112 hI => hI.elim fun u113 hI => hI.elim fun u114 hI => ?_
            have ha := hI.1
            subst ha
            have hb := hI.2.1
            have g0 := hI.2.2.1
            have g1 := hI.2.2.2.1
            have g2 := hI.2.2.2.2.1
            have g3 := hI.2.2.2.2.2.1
            have g4 := hI.2.2.2.2.2.2.1
            have g5 := hI.2.2.2.2.2.2.2.1
            have g6 := hI.2.2.2.2.2.2.2.2.1
            have g7 := hI.2.2.2.2.2.2.2.2.2.1
            have g8 := hI.2.2.2.2.2.2.2.2.2.2.1
            have g9 := hI.2.2.2.2.2.2.2.2.2.2.2.1
            have g10 := hI.2.2.2.2.2.2.2.2.2.2.2.2.1
            have g11 := hI.2.2.2.2.2.2.2.2.2.2.2.2.2.1
            have g12 := hI.2.2.2.2.2.2.2.2.2.2.2.2.2.2.1
            have g13 := hI.2.2.2.2.2.2.2.2.2.2.2.2.2.2.2.1
            have g14 := hI.2.2.2.2.2.2.2.2.2.2.2.2.2.2.2.2.1
            have g15 := hI.2.2.2.2.2.2.2.2.2.2.2.2.2.2.2.2.2
            clear hI
            simp [Region.binds] at hd
            dsimp only at hK ⊢
            have e14 := g14 (by simp [hd])
            subst e14
            have e5 := g5 (by simp [hd])
            subst e5
            have e9 := g9 (by simp [hd])
            subst e9
            have k5 : L 5 = true := by simp [hd]
            have k9 : L 9 = true := by simp [hd]
            obtain ⟨q, hq⟩ : ∃ q, L 12 = q := ⟨_, rfl⟩
            have ho : OwnE w' w.heap.size g l.length cL (l.set k (mixE e q false)) := by have h := g12; rw [hl, hq] at h; exact h
            have hE := own_at ho List.length_set.symm (get_setE HXE.out)
            have hn : OwnE ((((w'.setCell ⟨g, k * 12 + 7, none⟩ (.bool e.lo.null)).setCell ⟨g, k * 12 + 8, none⟩ (.int .i64 e.lo.n)).setCell ⟨g, k * 12 + 9, none⟩ (.string e.lo.s)).setCell ⟨g, k * 12 + 10, none⟩ (.int .i64 e.lo.seq)) w.heap.size g l.length cL (l.set k (mixE e q true)) := by have h := own_setHi e.lo ho (get_setE HXE.out); rw [List.set_set] at h; exact h
            have HGB := Lib.hid (ho.lt g rfl).1
            have HNN := Lib.hid hn
            have HQ := Lib.hid hq
            have c0 : w'.cell? ⟨g, k * 12 + 7, none⟩ = some (.bool e.hi.null) := hE.c7
            have c1 : w'.cell? ⟨g, k * 12 + 8, none⟩ = some (.int .i64 e.hi.n) := hE.c8
            have d1 : w'.cell? ⟨g, k * 12 + 7 + 1, none⟩ = some (.int .i64 e.hi.n) := hE.c8
            have c2 : w'.cell? ⟨g, k * 12 + 9, none⟩ = some (.string e.hi.s) := hE.c9
            have d2 : w'.cell? ⟨g, k * 12 + 7 + 2, none⟩ = some (.string e.hi.s) := hE.c9
            have c3 : w'.cell? ⟨g, k * 12 + 10, none⟩ = some (.int .i64 e.hi.seq) := hE.c10
            have d3 : w'.cell? ⟨g, k * 12 + 7 + 3, none⟩ = some (.int .i64 e.hi.seq) := hE.c10
            clear hE
            have e0 : w'.frozen? ⟨g, k * 12 + 7, none⟩ = false := own_frozE ho _
            have e1 : w'.frozen? ⟨g, k * 12 + 8, none⟩ = false := own_frozE ho _
            have e2 : w'.frozen? ⟨g, k * 12 + 9, none⟩ = false := own_frozE ho _
            have e3 : w'.frozen? ⟨g, k * 12 + 10, none⟩ = false := own_frozE ho _
            have f1 : w'.frozen? ⟨g, k * 12 + 7 + 1, none⟩ = false := own_frozE ho _
            have f2 : w'.frozen? ⟨g, k * 12 + 7 + 2, none⟩ = false := own_frozE ho _
            have f3 : w'.frozen? ⟨g, k * 12 + 7 + 3, none⟩ = false := own_frozE ho _
            clear ho hn hq
            go_simp
            exact hK _ _ ⟨_, _, _, _, _, _, _, _, _, _, _, _, _, _, rfl, below_set4 hb HGB.out _ _ _ _, g0, g1, g2, g3, g4, g5, g6, g7, g8, g9, g10, g11, by have h := HNN.out; rw [← HQ.out] at h; exact h, g13, g14, ⟨g15.1, fun _ => ⟨k5, k9⟩⟩⟩
        intro a w7 hI
        refine hI.elim fun u101 hI => hI.elim fun u102 hI => hI.elim fun u103 hI => hI.elim fun u104 hI => hI.elim fun u105 hI => hI.elim fun u106 hI => hI.elim fun u107 hI => hI.elim fun u108 hI => hI.elim fun u109 hI => hI.elim fun u110 hI => hI.elim fun u111 hI => hI.elim fun u112 hI => hI.elim fun u113 hI => hI.elim fun u114 hI => ?_
        have ha := hI.1
        subst ha
        have hb := hI.2.1
        have g0 := hI.2.2.1
        have g1 := hI.2.2.2.1
        have g2 := hI.2.2.2.2.1
        have g3 := hI.2.2.2.2.2.1
        have g4 := hI.2.2.2.2.2.2.1
        have g5 := hI.2.2.2.2.2.2.2.1
        have g6 := hI.2.2.2.2.2.2.2.2.1
        have g7 := hI.2.2.2.2.2.2.2.2.2.1
        have g8 := hI.2.2.2.2.2.2.2.2.2.2.1
        have g9 := hI.2.2.2.2.2.2.2.2.2.2.2.1
        have g10 := hI.2.2.2.2.2.2.2.2.2.2.2.2.1
        have g11 := hI.2.2.2.2.2.2.2.2.2.2.2.2.2.1
        have g12 := hI.2.2.2.2.2.2.2.2.2.2.2.2.2.2.1
        have g13 := hI.2.2.2.2.2.2.2.2.2.2.2.2.2.2.2.1
        have g14 := hI.2.2.2.2.2.2.2.2.2.2.2.2.2.2.2.2.1
        have g15 := hI.2.2.2.2.2.2.2.2.2.2.2.2.2.2.2.2.2
        clear hI
        have OX := Lib.hid g12
        have BX := Lib.hid hb
        clear g0 g1 g2 g3 g4 g5 g6 g7 g8 g9 g10 g11 g12 g13 g14 g15 hb
        go_wp2_with fail
        refine (awake28_any _).mono ?_
        rintro _ w8 ⟨rfl, hb8⟩
        have B8 := Lib.hid (bst BX.out hb8)
        have HAG := Lib.hid (show Calls Tryz.prog 6 #[.int .i64 1, .slice (some ⟨g, 0, none⟩) l.length cL, .int .i64 b1, .int .i64 b2, .int .i64 b3, .int .i64 b4, .int .i64 b5] w8 (RetBe w8 true) by
          have h := agrees28_any (.slice (some ⟨g, 0, none⟩) (l.set k (mixE e true true)).length cL) (l.set k (mixE e true true)) b1 b2 b3 b4 b5 w8 (by rw [show (l.set k (mixE e true true)).length = l.length from List.length_set]; exact (Sl.of_own OX.out).below hb8) (HM.out.loose.set k (e := mixE e true true) ⟨HLW.out.2, HLW.out.1⟩ ⟨HSMALL.out.2, HSMALL.out.1⟩ (by have := HLV.out; show -1000000 ≤ e.live ∧ e.live ≤ 1000000; omega)) (by rw [show (l.set k (mixE e true true)).length = l.length from List.length_set]; omega)
          rw [show (l.set k (mixE e true true)).length = l.length from List.length_set] at h
          exact h)
        clear hb8
        go_wp2_with fail
        refine HAG.out.mono ?_
        rintro _ w9 ⟨rfl, hb9⟩
        have B9 := Lib.hid (bst B8.out hb9)
        clear hb9 HAG
        go_wp2
        go_ret
        exact ⟨rfl, B9.out⟩
      · have t0 : (s == 0) = false := by rw [beq_eq_false_iff_ne]; exact h0
        by_cases h1 : s = 1
        · subst h1
          clear h0 s0 s1
          go_wp2_with fail
          refine (pick_any _ 12 _ (by omega) (by omega)).mono ?_
          rintro _ _ ⟨rfl, rfl⟩
          have z0 := pick_lo (wrap64 (a6.tdiv 32)) 12 (by omega)
          have z1 := pick_hi (wrap64 (a6.tdiv 32)) 12 (by omega)
          obtain ⟨z, hz⟩ : ∃ z, pick (wrap64 (a6.tdiv 32)) 12 = z := ⟨_, rfl⟩
          rw [hz] at z0 z1 ⊢
          clear hz
          have hE := own_at HO3.out rfl HXE.out
          have cc := hE.c0
          have ff := own_frozE HO3.out (k * 12)
          have hgb := (HO3.out.lt g rfl).1
          have OX := Lib.hid (own_setOne (x' := { e with id := z }) (cv := .int .i64 z) (j := 0) HO3.out HXE.out (by omega) rfl)
          have BX := Lib.hid (below_set1 (i0 := k * 12 + 0) B3.out hgb (.int .i64 z))
          clear hE
          go_upto_region 24 with (fail)
          obtain ⟨X, hX⟩ : ∃ X, wr.setCell ⟨g, k * 12 + 0, none⟩ (.int .i64 z) = X := ⟨_, rfl⟩
          rw [hX] at OX BX
          try simp only [Nat.add_zero] at hX
          try rw [hX]
          clear hX cc ff
          go_wp2_with fail
          refine (awake28_any _).mono ?_
          rintro _ w8 ⟨rfl, hb8⟩
          have B8 := Lib.hid (bst BX.out hb8)
          have HAG := Lib.hid (show Calls Tryz.prog 6 #[.int .i64 1, .slice (some ⟨g, 0, none⟩) l.length cL, .int .i64 b1, .int .i64 b2, .int .i64 b3, .int .i64 b4, .int .i64 b5] w8 (RetBe w8 true) by
            have h := agrees28_any (.slice (some ⟨g, 0, none⟩) (l.set k { e with id := z }).length cL) (l.set k { e with id := z }) b1 b2 b3 b4 b5 w8 (by rw [show (l.set k { e with id := z }).length = l.length from List.length_set]; exact (Sl.of_own OX.out).below hb8) (HM.out.loose.set k (e := { e with id := z }) HLW.out HSMALL.out (by have := HLV.out; show -1000000 ≤ e.live ∧ e.live ≤ 1000000; omega)) (by rw [show (l.set k { e with id := z }).length = l.length from List.length_set]; omega)
            rw [show (l.set k { e with id := z }).length = l.length from List.length_set] at h
            exact h)
          clear hb8
          go_wp2_with fail
          refine HAG.out.mono ?_
          rintro _ w9 ⟨rfl, hb9⟩
          have B9 := Lib.hid (bst B8.out hb9)
          clear hb9 HAG
          go_wp2
          go_ret
          exact ⟨rfl, B9.out⟩
        · have t1 : (s == 1) = false := by rw [beq_eq_false_iff_ne]; exact h1
          by_cases h2 : s = 2
          · subst h2
            clear h0 h1 s0 s1
            go_wp2_with fail
            refine (pick_any _ 10 _ (by omega) (by omega)).mono ?_
            rintro _ _ ⟨rfl, rfl⟩
            have z0 := pick_lo (wrap64 (a6.tdiv 32)) 10 (by omega)
            have z1 := pick_hi (wrap64 (a6.tdiv 32)) 10 (by omega)
            obtain ⟨z, hz⟩ : ∃ z, pick (wrap64 (a6.tdiv 32)) 10 = z := ⟨_, rfl⟩
            rw [hz] at z0 z1 ⊢
            clear hz
            have hE := own_at HO3.out rfl HXE.out
            have cc := hE.c2
            have ff := own_frozE HO3.out (k * 12 + 2)
            have hgb := (HO3.out.lt g rfl).1
            have OX := Lib.hid (own_setOne (x' := { e with live := z }) (cv := .int .i64 z) (j := 2) HO3.out HXE.out (by omega) rfl)
            have BX := Lib.hid (below_set1 (i0 := k * 12 + 2) B3.out hgb (.int .i64 z))
            clear hE
            go_upto_region 24 with (fail)
            obtain ⟨X, hX⟩ : ∃ X, wr.setCell ⟨g, k * 12 + 2, none⟩ (.int .i64 z) = X := ⟨_, rfl⟩
            rw [hX] at OX BX
            try simp only [Nat.add_zero] at hX
            try rw [hX]
            clear hX cc ff
            go_wp2_with fail
            refine (awake28_any _).mono ?_
            rintro _ w8 ⟨rfl, hb8⟩
            have B8 := Lib.hid (bst BX.out hb8)
            have HAG := Lib.hid (show Calls Tryz.prog 6 #[.int .i64 1, .slice (some ⟨g, 0, none⟩) l.length cL, .int .i64 b1, .int .i64 b2, .int .i64 b3, .int .i64 b4, .int .i64 b5] w8 (RetBe w8 true) by
              have h := agrees28_any (.slice (some ⟨g, 0, none⟩) (l.set k { e with live := z }).length cL) (l.set k { e with live := z }) b1 b2 b3 b4 b5 w8 (by rw [show (l.set k { e with live := z }).length = l.length from List.length_set]; exact (Sl.of_own OX.out).below hb8) (HM.out.loose.set k (e := { e with live := z }) HLW.out HSMALL.out (by have := HLV.out; show -1000000 ≤ z ∧ z ≤ 1000000; omega)) (by rw [show (l.set k { e with live := z }).length = l.length from List.length_set]; omega)
              rw [show (l.set k { e with live := z }).length = l.length from List.length_set] at h
              exact h)
            clear hb8
            go_wp2_with fail
            refine HAG.out.mono ?_
            rintro _ w9 ⟨rfl, hb9⟩
            have B9 := Lib.hid (bst B8.out hb9)
            clear hb9 HAG
            go_wp2
            go_ret
            exact ⟨rfl, B9.out⟩
          · have t2 : (s == 2) = false := by rw [beq_eq_false_iff_ne]; exact h2
            clear h0 h1 h2 s0 s1
            go_wp2_with fail
            refine (awake28_any _).mono ?_
            rintro _ w8 ⟨rfl, hb8⟩
            have B8 := Lib.hid (bst B3.out hb8)
            have HAG := Lib.hid (show Calls Tryz.prog 6 #[.int .i64 1, .slice (some ⟨g, 0, none⟩) l.length cL, .int .i64 b1, .int .i64 b2, .int .i64 b3, .int .i64 b4, .int .i64 b5] w8 (RetBe w8 true) by
              have h := agrees28_any (.slice (some ⟨g, 0, none⟩) (l).length cL) (l) b1 b2 b3 b4 b5 w8 (by rw [show l.length = l.length from rfl]; exact (Sl.of_own HO3.out).below hb8) HM.out.loose (by rw [show l.length = l.length from rfl]; omega)
              rw [show l.length = l.length from rfl] at h
              exact h)
            clear hb8
            go_wp2_with fail
            refine HAG.out.mono ?_
            rintro _ w9 ⟨rfl, hb9⟩
            have B9 := Lib.hid (bst B8.out hb9)
            clear hb9 HAG
            go_wp2
            go_ret
            exact ⟨rfl, B9.out⟩
end Go.Proofs.YtcjekbncllccbaaGreat
