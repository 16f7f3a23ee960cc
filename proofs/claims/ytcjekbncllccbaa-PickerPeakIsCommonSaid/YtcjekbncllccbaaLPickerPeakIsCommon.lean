/-
  The walk of the law PickerPeakIsCommon.
-/
import Derived.Test.YtcjekbncllccbaaPickComm
import Derived.Test.YtcjekbncllccbaaPk9
namespace Go.Proofs.Ytcjekbncllccbaa
open Go.RowKit Go.Sort

theorem ents_blk1 {w : World} {g : Nat} {e : Ent} (h : Blk w g 41 #[.int .i64 e.id, .int .i64 e.rows, .int .i64 e.live, .bool e.lo.null, .int .i64 e.lo.n, .string e.lo.s, .int .i64 e.lo.seq, .bool e.hi.null, .int .i64 e.hi.n, .string e.hi.s, .int .i64 e.hi.seq, .int .i64 e.del]) : Sl w 12 (.slice (some ⟨g, 0, none⟩) 1 1) 1 (ents [e]) :=
  ⟨_, 1, rfl, Nat.le_refl _, by decide, rfl, fun _ => ⟨_, rfl, h.lt, fun j u hj => by
    rw [Addr.add_lit, h.cell (0 + j), Nat.zero_add]; rw [← Array.getElem?_toList]; exact hj⟩⟩
theorem Sl.int_cell {w : World} {A : Option Addr} {c k : Nat} {zs : List Int} {n : Nat} {x : Int} (h : Sl w 1 (.slice A n c) n (ints zs)) (hk : k < n) (hx : zs[k]? = some x) : ∃ ad, A = some ad ∧ ad.block < w.heap.size ∧ w.cell? (ad.add k) = some (.int .i64 x) := by
  obtain ⟨ad, u, e, hb, hu, hc⟩ := h.at_ hk
  obtain ⟨y, hy, rfl⟩ := ints_get hu
  rw [hx] at hy
  injection hy with hy
  subst hy
  exact ⟨ad, e, hb, hc⟩
set_option maxRecDepth 100000 in
set_option maxHeartbeats 8000000 in
theorem pickerPeakIsCommon_walk (v0 : Value) (zs : List Int) (a1 a2 : Int) (w : World) (hx : Sl w 1 v0 zs.length (ints zs)) (hxl : zs.length ≤ 9223372036854775807) (hxr : ∀ x ∈ zs, -9223372036854775808 ≤ x ∧ x ≤ 9223372036854775807) :
    Calls Try.prog 4 #[v0, .int .i64 a1, .int .i64 a2] w fun e w' => e = .returned (.bool true) ∧ Below w.heap.size w w' := by
  obtain ⟨A0, c0, rfl, _, _⟩ := hx.form
  have C1 := Lib.hid (kentries_any _ zs 8 w hx hxl hxr (by omega) (by omega))
  clear hx hxl hxr
  go_enter Try.func4, Try.ntmps4
  go_wp2_with fail
  refine C1.out.mono ?_
  rintro _ w1 ⟨v1, l, rfl, hll, hG, ho1, hb1⟩
  have HM := Lib.hid (made_of hG (by omega))
  have B1 := Lib.hid hb1
  have HS := Lib.hid (Sl.of_own ho1)
  obtain ⟨A1, cL, rfl, hc11, hc12⟩ := (Sl.of_own ho1).form
  have hl8 : l.length ≤ 8 := by omega
  clear hG ho1 hb1 C1 hll
  go_wp2_with fail
  refine (pick_any a1 3 _ (by omega) (by omega)).mono ?_
  rintro _ _ ⟨rfl, rfl⟩
  have x0 := pick_lo a1 3 (by omega)
  have x1 := pick_hi a1 3 (by omega)
  obtain ⟨x, hx⟩ : ∃ x, pick a1 3 = x := ⟨_, rfl⟩
  rw [hx] at x0 x1 ⊢
  clear hx
  obtain ⟨d, hd⟩ : ∃ d, 1 + x = d := ⟨_, rfl⟩
  have wx : IntKind.i64.wrap (1 + x) = d := by rw [← hd]; exact IntWalk.i64_in _ (by omega)
  have hd1 : 1 ≤ d := by omega
  clear hd
  go_wp2_with fail
  refine (pick_any a2 4 _ (by omega) (by omega)).mono ?_
  rintro _ _ ⟨rfl, rfl⟩
  have y0 := pick_lo a2 4 (by omega)
  have y1 := pick_hi a2 4 (by omega)
  obtain ⟨y, hy⟩ : ∃ y, pick a2 4 = y := ⟨_, rfl⟩
  rw [hy] at y0 y1 ⊢
  clear hy
  obtain ⟨u, hu⟩ : ∃ u, 2 + y = u := ⟨_, rfl⟩
  have wy : IntKind.i64.wrap (2 + y) = u := by rw [← hu]; exact IntWalk.i64_in _ (by omega)
  have hu1 : 2 ≤ u := by omega
  clear hu
  have HPK := Lib.hid (peak_any 1 _ l d u _ HS.out HM.out.small (by omega))
  have HP0 := Lib.hid (HM.out.peak_len hd1 hu1).1
  have HCM := Lib.hid (fun h => HM.out.common hd1 hu1 h)
  obtain ⟨KS, hK⟩ : ∃ KS, peakQ 1 l d u = KS := ⟨_, rfl⟩
  rw [hK] at HPK HP0 HCM
  clear hK
  go_wp2_with fail
  refine HPK.out.mono ?_
  rintro _ w2 ⟨v2, rfl, hb2, ho2, _⟩
  have B2 := Lib.hid (bst B1.out hb2)
  have HS2 := Lib.hid (HS.out.below hb2)
  have HK2 := Lib.hid (Sl.of_own ho2)
  obtain ⟨A2, cK, rfl, hcK1, hcK2⟩ := (Sl.of_own ho2).form
  have HR := Lib.hid (rranges_any _ l w2 HS2.out (by omega))
  obtain ⟨LR, hL⟩ : ∃ LR, l.map rgOf = LR := ⟨_, rfl⟩
  have hLl : LR.length ≤ 1000000 := by rw [← hL, List.length_map]; omega
  have HL := Lib.hid hL
  rw [hL] at HR HP0 HCM
  clear hb2 ho2 HPK hL
  go_wp2_with fail
  refine HR.out.mono ?_
  rintro _ w3 ⟨v3, rfl, hb3, ho3⟩
  obtain ⟨A3, c3, rfl, _, _⟩ := (Sl.of_own ho3).form
  have HD := Lib.hid (rdepth_any 1 _ LR w3 (Sl.of_own ho3) hLl)
  have B3 := Lib.hid (bst B2.out hb3)
  have HS3 := Lib.hid (HS2.out.below hb3)
  have HK3 := Lib.hid (HK2.out.below hb3)
  obtain ⟨D, hD⟩ : ∃ D, depthR 1 LR = D := ⟨_, rfl⟩
  rw [hD] at HD HP0 HCM
  clear hb3 ho3 HR hD
  go_wp2_with fail
  refine HD.out.mono ?_
  rintro _ w4 ⟨rfl, hb4⟩
  have B4 := Lib.hid (bst B3.out hb4)
  have HS4 := Lib.hid (HS3.out.below hb4)
  have HK4 := Lib.hid (HK3.out.below hb4)
  clear hb4 HD
  by_cases hle : (D : Int) ≤ d
  · have q1 : decide ((D : Int) ≤ d) = true := by simpa using hle
    have hk0 := HP0.out hle
    subst hk0
    clear hle HK4 HK3 HK2 HCM HP0
    go_wp2_with fail
    refine (awake28_any _).mono ?_
    rintro _ w5 ⟨rfl, hb5⟩
    have B5 := Lib.hid (bst B4.out hb5)
    clear hb5
    go_wp2
    go_ret
    exact ⟨rfl, B5.out⟩
  · have q1 : decide ((D : Int) ≤ d) = false := by simpa using hle
    obtain ⟨C, P, hC⟩ := HCM.out (by omega)
    have HC := Lib.hid hC
    have hCl := hC.small
    have hKl : KS.length ≤ 8 := by rw [← hC.len]; omega
    have hch := hC.ch
    have HCH := Lib.hid (show Calls Try.prog 16 #[.slice A1 l.length cL, .slice A2 KS.length cK] w4 (RetRow w4 41 12 C.length (ents C)) by rw [← hch]; exact chosen28_any _ _ l KS w4 HS4.out HK4.out (by omega) (by omega))
    obtain ⟨R, hR⟩ : ∃ R, C.length = R := ⟨_, rfl⟩
    have hKR : KS.length = R := by rw [← hC.len, hR]
    have HR5 := Lib.hid (fun X (hX : Below w4.heap.size w4 X) => rranges_any (.slice A1 l.length cL) l X (HS4.out.below hX) (by omega))
    rw [HL.out] at HR5
    rw [hR] at HCH hCl
    rw [hKR] at HCH HK4 hKl hcK1
    simp only [hKR]
    have HRR := Lib.hid hR
    have HKR := Lib.hid hKR
    have hpk := hC.pk
    rw [HL.out] at hpk
    have HPO := Lib.hid (fun X v (hv : Sl X 8 v LR.length (rngs LR)) => show Calls Try.prog 17 #[.int .i64 1, v] X (RetPk X (some P)) by rw [← hpk]; exact rpeakOf_any 1 v LR X hv hLl)
    clear hC hle HCM HP0 hch hR hKR hpk
    go_wp2_with fail
    with_reducible refine HCH.out.mono ?_
    rintro _ w5 ⟨v5, rfl, hb5, ho5⟩
    have B5 := Lib.hid (bst B4.out hb5)
    have HS5 := Lib.hid (HS4.out.below hb5)
    have HK5 := Lib.hid (HK4.out.below hb5)
    have HC5 := Lib.hid (Sl.of_own ho5)
    obtain ⟨A5, cC, rfl, hcC1, hcC2⟩ := (Sl.of_own ho5).form
    have HR6 := Lib.hid (HR5.out w5 hb5)
    clear hb5 ho5 HCH HR5
    go_wp2_with fail
    with_reducible refine HR6.out.mono ?_
    rintro _ w6 ⟨v6, rfl, hb6, ho6⟩
    have B6 := Lib.hid (bst B5.out hb6)
    have HS6 := Lib.hid (HS5.out.below hb6)
    have HK6 := Lib.hid (HK5.out.below hb6)
    have HC6 := Lib.hid (HC5.out.below hb6)
    have HL6 := Lib.hid (Sl.of_own ho6)
    obtain ⟨A6, c6, rfl, _, _⟩ := (Sl.of_own ho6).form
    clear hb6 ho6 HR6
    go_wp2_with fail
    refine (HPO.out _ _ HL6.out).mono ?_
    rintro _ w7 ⟨rfl, hb7⟩
    simp only [show oRk (some P) = P from rfl, Option.isSome_some]
    obtain ⟨N, hN⟩ : ∃ N, w7.heap.size = N := ⟨_, rfl⟩
    obtain ⟨U, hU⟩ : ∃ U, U = w7.alloc (.cells #[.bool P.null, .int .i64 P.n, .string P.s, .int .i64 P.seq] 37) := ⟨_, rfl⟩
    have hbU : Below w6.heap.size w6 U := by rw [hU]; exact hb7.alloc hb7.size _
    have UP := Lib.hid (show Blk U N 37 #[.bool P.null, .int .i64 P.n, .string P.s, .int .i64 P.seq] by rw [hU, ← hN]; exact Blk.new _ _ _)
    have BU := Lib.hid (bst B6.out hbU)
    have SU := Lib.hid (HS6.out.below hbU)
    have KU := Lib.hid (HK6.out.below hbU)
    have CU := Lib.hid (HC6.out.below hbU)
    clear hb7 hbU HPO
    go_upto_region 8 with (fail)
    rw [← hU]
    try simp only [hN]
    clear hU hN
    go_wp2
    go_loopw [14, 53] (fun f i wr => ∃ m : Nat, m ≤ R ∧ i = .int .i64 m ∧ f = .int .i64 (mostL C m) ∧ Below U.heap.size U wr) (fun _ i _ => R - (intOf i).toNat)
    case atStart => exact ⟨0, by omega, rfl, rfl, Below.refl _ _⟩
    case round =>
      obtain ⟨m, hm, rfl, rfl, hbel⟩ := hrel
      by_cases hlt : m < R
      · obtain ⟨ad, e, pe, rfl, he, hpe, hE⟩ := (CU.out.below hbel).ent_load HRR.out.symm hlt
        obtain ⟨hplt, c0, c1, c2, c3, c4, c5, c6, c7, c8, c9, c10, c11⟩ := hE
        have HNX := Lib.hid (mostL_next he)
        have HLT := Lib.hid hlt
        have hem := List.mem_of_getElem? he
        have hinp := HC.out.inp e hem
        have hfe := HC.out.few e hem
        have hmb := mostL_bd (fun x hx => (HC.out.few x hx).1) m
        have qm : decide (m < R) = true := by simpa using hlt
        obtain ⟨V, hV⟩ : ∃ V, V = wr.alloc (.cells #[.int .i64 e.id, .int .i64 e.rows, .int .i64 e.live, .bool e.lo.null, .int .i64 e.lo.n, .string e.lo.s, .int .i64 e.lo.seq, .bool e.hi.null, .int .i64 e.hi.n, .string e.hi.s, .int .i64 e.hi.seq, .int .i64 e.del] 41) := ⟨_, rfl⟩
        have VB := Lib.hid (show Below U.heap.size U V by rw [hV]; exact hbel.alloc hbel.size _)
        have hE2 : EntAt V ⟨wr.heap.size, 0, none⟩ e := EntAt.of_blk (e := e) (by rw [hV]; exact Blk.new _ _ _)
        have hP2 := UP.out.below VB.out UP.out.lt
        have AA1 := Lib.hid (reg_v (w := V) (fun X _ => rangeOf_any e X))
        have AA2 := Lib.hid (reg_v (w := V) (fun X _ => rcont_any 1 (rgOf e) P X hinp))
        clear he hbel hinp
        have f0 := fun d os => (hE2.regrown d os).c0
        have f1 := fun d os => (hE2.regrown d os).c1
        have f2 := fun d os => (hE2.regrown d os).c2
        have f3 := fun d os => (hE2.regrown d os).c3
        have f4 := fun d os => (hE2.regrown d os).c4
        have f5 := fun d os => (hE2.regrown d os).c5
        have f6 := fun d os => (hE2.regrown d os).c6
        have f7 := fun d os => (hE2.regrown d os).c7
        have f8 := fun d os => (hE2.regrown d os).c8
        have f9 := fun d os => (hE2.regrown d os).c9
        have f10 := fun d os => (hE2.regrown d os).c10
        have f11 := fun d os => (hE2.regrown d os).c11
        have g0 := fun d os => (hP2.below (below_regrown V d os) hP2.lt).cell 0
        have g1 := fun d os => (hP2.below (below_regrown V d os) hP2.lt).cell 1
        have g2 := fun d os => (hP2.below (below_regrown V d os) hP2.lt).cell 2
        have g3 := fun d os => (hP2.below (below_regrown V d os) hP2.lt).cell 3
        simp only [List.getElem?_toArray, List.getElem?_cons_zero, List.getElem?_cons_succ] at g0 g1 g2 g3
        obtain ⟨mv, hmv⟩ : ∃ q, mostL C m = q := ⟨_, rfl⟩
        rw [hmv] at HNX hmb ⊢
        clear hE2 hP2 hmv
        go_upto_region 12 with (fail)
        rw [← hV]
        clear hV
        have HMX := Lib.hid (show mostL C (m + 1) = max mv e.live from HNX.out)
        rcases m with _ | k
        · skip
          refine wp_region_quiet_below (by kernel_rfl) (by kernel_rfl) ?_
          repeat (go_big_quiet_step ((first | (with_reducible exact AA1.out _ _) | (with_reducible exact AA2.out _ _))))
          refine wpQuiet_nil ?_
          intro _ hw'
          obtain ⟨⟨dq, osq⟩, hw''⟩ := hw'
          subst hw''
          have c2 := f2 dq osq
          go_wp2
          go_roundw
          case rel => exact ⟨0 + 1, by have := HLT.out; omega, by go_num, by rw [HMX.out], bst VB.out (below_regrown V dq osq)⟩
          case measure => have := HLT.out; simp [intOf]; omega
        · have hk1 := HLT.out
          have hKl := HKR.out
          obtain ⟨za, hza⟩ : ∃ za, KS[k]? = some za := ⟨_, List.getElem?_eq_getElem (by omega)⟩
          obtain ⟨zb, hzb⟩ : ∃ zb, KS[k + 1]? = some zb := ⟨_, List.getElem?_eq_getElem (by omega)⟩
          have hlt2 := HC.out.up k za zb hza hzb
          have q5 : decide (zb ≤ za) = false := by simp; omega
          obtain ⟨adk, e1, hadk, ck0⟩ := (KU.out.below VB.out).int_cell (k := k) (by omega) hza
          subst e1
          obtain ⟨adk', e2, _, ck1⟩ := (KU.out.below VB.out).int_cell (k := k + 1) (by omega) hzb
          injection e2 with e2
          subst e2
          have h0 := fun d os => ((below_regrown V d os).cell (p := adk.add k) (by rw [block_of_add]; exact hadk)).trans ck0
          have h1 := fun d os => ((below_regrown V d os).cell (p := adk.add (k + 1)) (by rw [block_of_add]; exact hadk)).trans ck1
          obtain ⟨pk0, hpk0⟩ : ∃ q, adk.add k = q := ⟨_, rfl⟩
          obtain ⟨pk1, hpk1⟩ : ∃ q, adk.add (k + 1) = q := ⟨_, rfl⟩
          simp only [hpk0] at h0
          simp only [hpk1] at h1
          have hkR : k < R := by omega
          clear ck0 ck1
          refine wp_region_quiet_below (by kernel_rfl) (by kernel_rfl) ?_
          repeat (go_big_quiet_step ((first | (with_reducible exact AA1.out _ _) | (with_reducible exact AA2.out _ _))))
          refine wpQuiet_nil ?_
          intro _ hw'
          obtain ⟨⟨dq, osq⟩, hw''⟩ := hw'
          subst hw''
          have c2 := f2 dq osq
          go_wp2
          go_roundw
          case rel => exact ⟨k + 1 + 1, by have := HLT.out; omega, by go_num, by rw [HMX.out], bst VB.out (below_regrown V dq osq)⟩
          case measure => have := HLT.out; simp [intOf]; omega
      · have hmR : m = R := by omega
        subst hmR
        obtain ⟨mx, hmx⟩ : ∃ q, mostL C m = q := ⟨_, rfl⟩
        have HMX := Lib.hid (show mostL C C.length = mx by rw [HRR.out, hmx])
        simp only [hmx]
        have B8 := Lib.hid (bst BU.out hbel)
        have S8 := Lib.hid (SU.out.below hbel)
        have K8 := Lib.hid (KU.out.below hbel)
        have P8 := Lib.hid (UP.out.below hbel UP.out.lt)
        have hzw : w.heap.size ≤ wr.heap.size := B8.out.size
        clear hbel hmx hlt hm
        obtain ⟨w0r, rfl⟩ : ∃ q : World, q = wr := ⟨_, rfl⟩
        go_wp2
        go_loopw [86] (fun i wi => ∃ n : Nat, n ≤ l.length ∧ i = .int .i64 n ∧ Below w0r.heap.size w0r wi) (fun i _ => l.length - (intOf i).toNat)
        case atStart => exact ⟨0, by omega, rfl, Below.refl _ _⟩
        case round =>
          obtain ⟨n, hn, rfl, hbel⟩ := hrel
          by_cases hlt : n < l.length
          · obtain ⟨ad, e, pe, rfl, he, hpe, hE⟩ := (S8.out.below hbel).ent_load rfl hlt
            obtain ⟨hplt, c0, c1, c2, c3, c4, c5, c6, c7, c8, c9, c10, c11⟩ := hE
            have HLT := Lib.hid hlt
            have qn : decide (n < l.length) = true := by simpa using hlt
            have HGN := Lib.hid (HC.out.gone e (List.mem_of_getElem? he))
            obtain ⟨N5, hN5⟩ : ∃ N, wr.heap.size = N := ⟨_, rfl⟩
            obtain ⟨V, hV⟩ : ∃ V, V = wr.alloc (.cells #[.int .i64 e.id, .int .i64 e.rows, .int .i64 e.live, .bool e.lo.null, .int .i64 e.lo.n, .string e.lo.s, .int .i64 e.lo.seq, .bool e.hi.null, .int .i64 e.hi.n, .string e.hi.s, .int .i64 e.hi.seq, .int .i64 e.del] 41) := ⟨_, rfl⟩
            have VB := Lib.hid (show Below w0r.heap.size w0r V by rw [hV]; exact hbel.alloc hbel.size _)
            have VE := Lib.hid (show Blk V N5 41 #[.int .i64 e.id, .int .i64 e.rows, .int .i64 e.live, .bool e.lo.null, .int .i64 e.lo.n, .string e.lo.s, .int .i64 e.lo.seq, .bool e.hi.null, .int .i64 e.hi.n, .string e.hi.s, .int .i64 e.hi.seq, .int .i64 e.del] by rw [hV, ← hN5]; exact Blk.new _ _ _)
            have VP := Lib.hid (P8.out.below VB.out P8.out.lt)
            clear he hbel
            go_upto_region 19 with (fail)
            rw [← hV]
            try simp only [hN5]
            clear hV hN5 c0 c1 c2 c3 c4 c5 c6 c7 c8 c9 c10 c11 hpe hplt
            go_cut [107] from 90 to 106 (fun q wx => q = .bool false ∧ Below V.heap.size V wx)
            case first =>
              have VK := Lib.hid (K8.out.below VB.out)
              obtain ⟨cb, hcb⟩ : ∃ b, contR 1 (rgOf e) P = b := ⟨_, rfl⟩
              have HCO := Lib.hid (fun X => rcont_any 1 (rgOf e) P X hcb)
              have HRO := Lib.hid (fun X => rangeOf_any e X)
              rw [hcb, HMX.out] at HGN
              clear hcb
              cases cb with
              | false =>
                clear HGN
                refine wp_region_inv (by kernel_rfl) (by kernel_rfl) (fun L a w' => ∃ u90 u91 u92 u93 u94 u95 u96 u97 u98 u99 u100 u101 u102 u103 u104 u105 u106 u107 : Value, a = ⟨#[.slice A0 zs.length c0, .int .i64 a1, .int .i64 a2, undef, undef, undef, u6, .slice (some ad) l.length cL, .int .i64 d, .int .i64 u, .slice A2 m cK, .slice A5 m cC, .pointer (some ⟨N, 0, none⟩), .bool true, .int .i64 mx, u15, u16, undef, .pointer (some ⟨N5, 0, none⟩), .slice A0 zs.length c0, .slice (some ad) l.length cL, .int .i64 a1, .int .i64 x, .int .i64 d, .int .i64 a2, .int .i64 y, .int .i64 u, .slice (some ad) l.length cL, .int .i64 d, .int .i64 u, .slice A2 m cK, .slice (some ad) l.length cL, .slice A3 LR.length c3, .int .i64 D, .int .i64 d, .bool false, undef, undef, undef, undef, undef, undef, .slice (some ad) l.length cL, .slice A2 m cK, .slice A5 m cC, .tuple #[.agg #[.bool P.null, .int .i64 P.n, .string P.s, .int .i64 P.seq], .bool true], .slice (some ad) l.length cL, .slice A6 LR.length c6, .tuple #[.agg #[.bool P.null, .int .i64 P.n, .string P.s, .int .i64 P.seq], .bool true], .agg #[.bool P.null, .int .i64 P.n, .string P.s, .int .i64 P.seq], .bool true, .slice A5 m cC, .int .i64 m, .int .i64 m, .bool false, u55, u56, u57, u58, u59, u60, u61, u62, u63, u64, u65, u66, u67, u68, u69, u70, u71, u72, u73, u74, u75, u76, u77, u78, u79, u80, u81, u82, u83, .slice (some ad) l.length cL, .int .i64 l.length, .int .i64 n, .bool true, .pointer (some pe), .agg #[.int .i64 e.id, .int .i64 e.rows, .int .i64 e.live, .bool e.lo.null, .int .i64 e.lo.n, .string e.lo.s, .int .i64 e.lo.seq, .bool e.hi.null, .int .i64 e.hi.n, .string e.hi.s, .int .i64 e.hi.seq, .int .i64 e.del], u90, u91, u92, u93, u94, u95, u96, u97, u98, u99, u100, u101, u102, u103, u104, u105, u106, u107, u108, undef, undef, undef, undef, undef, undef, undef, undef, undef, undef, undef, undef, undef, undef, undef, undef, undef, undef, undef], []⟩ ∧
                    Below V.heap.size V w' ∧ Got (L 0) u90 (.agg #[.int .i64 e.id, .int .i64 e.rows, .int .i64 e.live, .bool e.lo.null, .int .i64 e.lo.n, .string e.lo.s, .int .i64 e.lo.seq, .bool e.hi.null, .int .i64 e.hi.n, .string e.hi.s, .int .i64 e.hi.seq, .int .i64 e.del]) ∧ Got (L 1) u91 (.agg #[.bool e.lo.null, .int .i64 e.lo.n, .string e.lo.s, .int .i64 e.lo.seq, .bool e.hi.null, .int .i64 e.hi.n, .string e.hi.s, .int .i64 e.hi.seq]) ∧ Got (L 2) u92 (.agg #[.bool P.null, .int .i64 P.n, .string P.s, .int .i64 P.seq]) ∧ Got (L 3) u93 (.bool false) ∧ Got (L 4) u94 (.bool false) ∧ Got (L 5) u95 undef ∧ Got (L 6) u96 undef ∧ Got (L 7) u97 undef ∧ Got (L 8) u98 undef ∧ Got (L 9) u99 (.bool false) ∧ Got (L 10) u100 (.bool false) ∧ Got (L 11) u101 undef ∧ Got (L 12) u102 undef ∧ Got (L 13) u103 undef ∧ Got (L 14) u104 undef ∧ Got (L 15) u105 undef ∧ Got (L 16) u106 undef ∧ Got (L 17) u107 (.bool false))
                  ?_ ?_ ?_
                · exact ⟨_, _, _, _, _, _, _, _, _, _, _, _, _, _, _, _, _, _, rfl, (Below.refl _ _).drew, nofun, nofun, nofun, nofun, nofun, nofun, nofun, nofun, nofun, nofun, nofun, nofun, nofun, nofun, nofun, nofun, nofun, nofun⟩
                · refine ⟨?_, ?_, ?_, ?_, ?_, ?_, ?_, ?_, ?_, ?_, ?_, ?_, ?_, ?_, ?_, ?_, ?_, ?_, trivial⟩
                  · intro L a w' hI hl hd K hK
                    refine hI.elim fun u90 hI => hI.elim fun u91 hI => hI.elim fun u92 hI => hI.elim fun u93 hI => hI.elim fun u94 hI => hI.elim fun u95 hI => hI.elim fun u96 hI => hI.elim fun u97 hI => hI.elim fun u98 hI => hI.elim fun u99 hI => hI.elim fun u100 hI => hI.elim fun u101 hI => hI.elim fun u102 hI => hI.elim fun u103 hI => hI.elim fun u104 hI => hI.elim fun u105 hI => hI.elim fun u106 hI => hI.elim fun u107 hI => ?_
                    have ha := hI.1
                    subst ha
                    have hb := hI.2.1
                    have g0 := hI.2.2.1
                    have g1 := hI.2.2.2.1
                    have g2 := hI.2.2.2.2.1
                    have g3 := hI.2.2.2.2.2.1
                    have g4 := hI.2.2.2.2.2.2.1
                    have g5 := hI.2.2.2.2.2.2.2.1
                    have g6 := hI.2.2.2.2.2.2.2.2.1
                    have g7 := hI.2.2.2.2.2.2.2.2.2.1
                    have g8 := hI.2.2.2.2.2.2.2.2.2.2.1
                    have g9 := hI.2.2.2.2.2.2.2.2.2.2.2.1
                    have g10 := hI.2.2.2.2.2.2.2.2.2.2.2.2.1
                    have g11 := hI.2.2.2.2.2.2.2.2.2.2.2.2.2.1
                    have g12 := hI.2.2.2.2.2.2.2.2.2.2.2.2.2.2.1
                    have g13 := hI.2.2.2.2.2.2.2.2.2.2.2.2.2.2.2.1
                    have g14 := hI.2.2.2.2.2.2.2.2.2.2.2.2.2.2.2.2.1
                    have g15 := hI.2.2.2.2.2.2.2.2.2.2.2.2.2.2.2.2.2.1
                    have g16 := hI.2.2.2.2.2.2.2.2.2.2.2.2.2.2.2.2.2.2.1
                    have g17 := hI.2.2.2.2.2.2.2.2.2.2.2.2.2.2.2.2.2.2.2
                    clear hI
                    dsimp only at hK ⊢
                    have bb := VE.out.below hb VE.out.lt
                    have c0 := bb.cell 0
                    have c1 := bb.cell 1
                    have c2 := bb.cell 2
                    have c3 := bb.cell 3
                    have c4 := bb.cell 4
                    have c5 := bb.cell 5
                    have c6 := bb.cell 6
                    have c7 := bb.cell 7
                    have c8 := bb.cell 8
                    have c9 := bb.cell 9
                    have c10 := bb.cell 10
                    have c11 := bb.cell 11
                    simp only [List.getElem?_toArray, List.getElem?_cons_zero, List.getElem?_cons_succ] at c0 c1 c2 c3 c4 c5 c6 c7 c8 c9 c10 c11
                    clear bb
                    go_simp
                    exact hK _ _ ⟨_, _, _, _, _, _, _, _, _, _, _, _, _, _, _, _, _, _, rfl, hb, fun _ => rfl, g1, g2, g3, g4, g5, g6, g7, g8, g9, g10, g11, g12, g13, g14, g15, g16, g17⟩
                  · intro L a w' hI hl hd K hK
                    refine hI.elim fun u90 hI => hI.elim fun u91 hI => hI.elim fun u92 hI => hI.elim fun u93 hI => hI.elim fun u94 hI => hI.elim fun u95 hI => hI.elim fun u96 hI => hI.elim fun u97 hI => hI.elim fun u98 hI => hI.elim fun u99 hI => hI.elim fun u100 hI => hI.elim fun u101 hI => hI.elim fun u102 hI => hI.elim fun u103 hI => hI.elim fun u104 hI => hI.elim fun u105 hI => hI.elim fun u106 hI => hI.elim fun u107 hI => ?_
                    have ha := hI.1
                    subst ha
                    have hb := hI.2.1
                    have g0 := hI.2.2.1
                    have g1 := hI.2.2.2.1
                    have g2 := hI.2.2.2.2.1
                    have g3 := hI.2.2.2.2.2.1
                    have g4 := hI.2.2.2.2.2.2.1
                    have g5 := hI.2.2.2.2.2.2.2.1
                    have g6 := hI.2.2.2.2.2.2.2.2.1
                    have g7 := hI.2.2.2.2.2.2.2.2.2.1
                    have g8 := hI.2.2.2.2.2.2.2.2.2.2.1
                    have g9 := hI.2.2.2.2.2.2.2.2.2.2.2.1
                    have g10 := hI.2.2.2.2.2.2.2.2.2.2.2.2.1
                    have g11 := hI.2.2.2.2.2.2.2.2.2.2.2.2.2.1
                    have g12 := hI.2.2.2.2.2.2.2.2.2.2.2.2.2.2.1
                    have g13 := hI.2.2.2.2.2.2.2.2.2.2.2.2.2.2.2.1
                    have g14 := hI.2.2.2.2.2.2.2.2.2.2.2.2.2.2.2.2.1
                    have g15 := hI.2.2.2.2.2.2.2.2.2.2.2.2.2.2.2.2.2.1
                    have g16 := hI.2.2.2.2.2.2.2.2.2.2.2.2.2.2.2.2.2.2.1
                    have g17 := hI.2.2.2.2.2.2.2.2.2.2.2.2.2.2.2.2.2.2.2
                    clear hI
                    simp [Region.binds] at hd
                    dsimp only at hK ⊢
                    have e0 := g0 (by simp [hd])
                    subst e0
                    go_wp2_with fail
                    refine (HRO.out w').mono ?_
                    rintro _ w4 ⟨rfl, hb4⟩
                    exact hK _ _ ⟨_, _, _, _, _, _, _, _, _, _, _, _, _, _, _, _, _, _, rfl, bst hb hb4, g0, fun _ => rfl, g2, g3, g4, g5, g6, g7, g8, g9, g10, g11, g12, g13, g14, g15, g16, g17⟩
                  · intro L a w' hI hl hd K hK
                    refine hI.elim fun u90 hI => hI.elim fun u91 hI => hI.elim fun u92 hI => hI.elim fun u93 hI => hI.elim fun u94 hI => hI.elim fun u95 hI => hI.elim fun u96 hI => hI.elim fun u97 hI => hI.elim fun u98 hI => hI.elim fun u99 hI => hI.elim fun u100 hI => hI.elim fun u101 hI => hI.elim fun u102 hI => hI.elim fun u103 hI => hI.elim fun u104 hI => hI.elim fun u105 hI => hI.elim fun u106 hI => hI.elim fun u107 hI => ?_
                    have ha := hI.1
                    subst ha
                    have hb := hI.2.1
                    have g0 := hI.2.2.1
                    have g1 := hI.2.2.2.1
                    have g2 := hI.2.2.2.2.1
                    have g3 := hI.2.2.2.2.2.1
                    have g4 := hI.2.2.2.2.2.2.1
                    have g5 := hI.2.2.2.2.2.2.2.1
                    have g6 := hI.2.2.2.2.2.2.2.2.1
                    have g7 := hI.2.2.2.2.2.2.2.2.2.1
                    have g8 := hI.2.2.2.2.2.2.2.2.2.2.1
                    have g9 := hI.2.2.2.2.2.2.2.2.2.2.2.1
                    have g10 := hI.2.2.2.2.2.2.2.2.2.2.2.2.1
                    have g11 := hI.2.2.2.2.2.2.2.2.2.2.2.2.2.1
                    have g12 := hI.2.2.2.2.2.2.2.2.2.2.2.2.2.2.1
                    have g13 := hI.2.2.2.2.2.2.2.2.2.2.2.2.2.2.2.1
                    have g14 := hI.2.2.2.2.2.2.2.2.2.2.2.2.2.2.2.2.1
                    have g15 := hI.2.2.2.2.2.2.2.2.2.2.2.2.2.2.2.2.2.1
                    have g16 := hI.2.2.2.2.2.2.2.2.2.2.2.2.2.2.2.2.2.2.1
                    have g17 := hI.2.2.2.2.2.2.2.2.2.2.2.2.2.2.2.2.2.2.2
                    clear hI
                    dsimp only at hK ⊢
                    have bb := VP.out.below hb VP.out.lt
                    have c0 := bb.cell 0
                    have c1 := bb.cell 1
                    have c2 := bb.cell 2
                    have c3 := bb.cell 3
                    simp only [List.getElem?_toArray, List.getElem?_cons_zero, List.getElem?_cons_succ] at c0 c1 c2 c3
                    clear bb
                    go_simp
                    exact hK _ _ ⟨_, _, _, _, _, _, _, _, _, _, _, _, _, _, _, _, _, _, rfl, hb, g0, g1, fun _ => rfl, g3, g4, g5, g6, g7, g8, g9, g10, g11, g12, g13, g14, g15, g16, g17⟩
                  · intro L a w' hI hl hd K hK
                    refine hI.elim fun u90 hI => hI.elim fun u91 hI => hI.elim fun u92 hI => hI.elim fun u93 hI => hI.elim fun u94 hI => hI.elim fun u95 hI => hI.elim fun u96 hI => hI.elim fun u97 hI => hI.elim fun u98 hI => hI.elim fun u99 hI => hI.elim fun u100 hI => hI.elim fun u101 hI => hI.elim fun u102 hI => hI.elim fun u103 hI => hI.elim fun u104 hI => hI.elim fun u105 hI => hI.elim fun u106 hI => hI.elim fun u107 hI => ?_
                    have ha := hI.1
                    subst ha
                    have hb := hI.2.1
                    have g0 := hI.2.2.1
                    have g1 := hI.2.2.2.1
                    have g2 := hI.2.2.2.2.1
                    have g3 := hI.2.2.2.2.2.1
                    have g4 := hI.2.2.2.2.2.2.1
                    have g5 := hI.2.2.2.2.2.2.2.1
                    have g6 := hI.2.2.2.2.2.2.2.2.1
                    have g7 := hI.2.2.2.2.2.2.2.2.2.1
                    have g8 := hI.2.2.2.2.2.2.2.2.2.2.1
                    have g9 := hI.2.2.2.2.2.2.2.2.2.2.2.1
                    have g10 := hI.2.2.2.2.2.2.2.2.2.2.2.2.1
                    have g11 := hI.2.2.2.2.2.2.2.2.2.2.2.2.2.1
                    have g12 := hI.2.2.2.2.2.2.2.2.2.2.2.2.2.2.1
                    have g13 := hI.2.2.2.2.2.2.2.2.2.2.2.2.2.2.2.1
                    have g14 := hI.2.2.2.2.2.2.2.2.2.2.2.2.2.2.2.2.1
                    have g15 := hI.2.2.2.2.2.2.2.2.2.2.2.2.2.2.2.2.2.1
                    have g16 := hI.2.2.2.2.2.2.2.2.2.2.2.2.2.2.2.2.2.2.1
                    have g17 := hI.2.2.2.2.2.2.2.2.2.2.2.2.2.2.2.2.2.2.2
                    clear hI
                    simp [Region.binds] at hd
                    dsimp only at hK ⊢
                    have e1 := g1 (by simp [hd])
                    subst e1
                    have e2 := g2 (by simp [hd])
                    subst e2
                    go_wp2_with fail
                    refine (HCO.out w').mono ?_
                    rintro _ w4 ⟨rfl, hb4⟩
                    exact hK _ _ ⟨_, _, _, _, _, _, _, _, _, _, _, _, _, _, _, _, _, _, rfl, bst hb hb4, g0, g1, g2, fun _ => rfl, g4, g5, g6, g7, g8, g9, g10, g11, g12, g13, g14, g15, g16, g17⟩
                  · intro L a w' hI hl hd K hK
                    refine hI.elim fun u90 hI => hI.elim fun u91 hI => hI.elim fun u92 hI => hI.elim fun u93 hI => hI.elim fun u94 hI => hI.elim fun u95 hI => hI.elim fun u96 hI => hI.elim fun u97 hI => hI.elim fun u98 hI => hI.elim fun u99 hI => hI.elim fun u100 hI => hI.elim fun u101 hI => hI.elim fun u102 hI => hI.elim fun u103 hI => hI.elim fun u104 hI => hI.elim fun u105 hI => hI.elim fun u106 hI => hI.elim fun u107 hI => ?_
                    have ha := hI.1
                    subst ha
                    have hb := hI.2.1
                    have g0 := hI.2.2.1
                    have g1 := hI.2.2.2.1
                    have g2 := hI.2.2.2.2.1
                    have g3 := hI.2.2.2.2.2.1
                    have g4 := hI.2.2.2.2.2.2.1
                    have g5 := hI.2.2.2.2.2.2.2.1
                    have g6 := hI.2.2.2.2.2.2.2.2.1
                    have g7 := hI.2.2.2.2.2.2.2.2.2.1
                    have g8 := hI.2.2.2.2.2.2.2.2.2.2.1
                    have g9 := hI.2.2.2.2.2.2.2.2.2.2.2.1
                    have g10 := hI.2.2.2.2.2.2.2.2.2.2.2.2.1
                    have g11 := hI.2.2.2.2.2.2.2.2.2.2.2.2.2.1
                    have g12 := hI.2.2.2.2.2.2.2.2.2.2.2.2.2.2.1
                    have g13 := hI.2.2.2.2.2.2.2.2.2.2.2.2.2.2.2.1
                    have g14 := hI.2.2.2.2.2.2.2.2.2.2.2.2.2.2.2.2.1
                    have g15 := hI.2.2.2.2.2.2.2.2.2.2.2.2.2.2.2.2.2.1
                    have g16 := hI.2.2.2.2.2.2.2.2.2.2.2.2.2.2.2.2.2.2.1
                    have g17 := hI.2.2.2.2.2.2.2.2.2.2.2.2.2.2.2.2.2.2.2
                    clear hI
                    simp [Region.binds] at hd
                    dsimp only at hK ⊢
                    have e3 := g3 (by simp [hd])
                    subst e3
                    go_simp
                    exact hK _ _ ⟨_, _, _, _, _, _, _, _, _, _, _, _, _, _, _, _, _, _, rfl, hb, g0, g1, g2, g3, fun _ => rfl, g5, g6, g7, g8, g9, g10, g11, g12, g13, g14, g15, g16, g17⟩
                  · intro L a w' hI hl hd K hK
                    refine hI.elim fun u90 hI => hI.elim fun u91 hI => hI.elim fun u92 hI => hI.elim fun u93 hI => hI.elim fun u94 hI => hI.elim fun u95 hI => hI.elim fun u96 hI => hI.elim fun u97 hI => hI.elim fun u98 hI => hI.elim fun u99 hI => hI.elim fun u100 hI => hI.elim fun u101 hI => hI.elim fun u102 hI => hI.elim fun u103 hI => hI.elim fun u104 hI => hI.elim fun u105 hI => hI.elim fun u106 hI => hI.elim fun u107 hI => ?_
                    have ha := hI.1
                    subst ha
                    have hb := hI.2.1
                    have g0 := hI.2.2.1
                    have g1 := hI.2.2.2.1
                    have g2 := hI.2.2.2.2.1
                    have g3 := hI.2.2.2.2.2.1
                    have g4 := hI.2.2.2.2.2.2.1
                    have g5 := hI.2.2.2.2.2.2.2.1
                    have g6 := hI.2.2.2.2.2.2.2.2.1
                    have g7 := hI.2.2.2.2.2.2.2.2.2.1
                    have g8 := hI.2.2.2.2.2.2.2.2.2.2.1
                    have g9 := hI.2.2.2.2.2.2.2.2.2.2.2.1
                    have g10 := hI.2.2.2.2.2.2.2.2.2.2.2.2.1
                    have g11 := hI.2.2.2.2.2.2.2.2.2.2.2.2.2.1
                    have g12 := hI.2.2.2.2.2.2.2.2.2.2.2.2.2.2.1
                    have g13 := hI.2.2.2.2.2.2.2.2.2.2.2.2.2.2.2.1
                    have g14 := hI.2.2.2.2.2.2.2.2.2.2.2.2.2.2.2.2.1
                    have g15 := hI.2.2.2.2.2.2.2.2.2.2.2.2.2.2.2.2.2.1
                    have g16 := hI.2.2.2.2.2.2.2.2.2.2.2.2.2.2.2.2.2.2.1
                    have g17 := hI.2.2.2.2.2.2.2.2.2.2.2.2.2.2.2.2.2.2.2
                    clear hI
                    simp [Region.binds] at hd
                    dsimp only at hK ⊢
                    have e4 := g4 (by simp [hd])
                    subst e4
                    go_simp
                    exact hK _ _ ⟨_, _, _, _, _, _, _, _, _, _, _, _, _, _, _, _, _, _, rfl, hb, g0, g1, g2, g3, g4, fun _ => rfl, g6, g7, g8, g9, g10, g11, g12, g13, g14, g15, g16, g17⟩
                  · intro L a w' hI hl hd K hK
                    refine hI.elim fun u90 hI => hI.elim fun u91 hI => hI.elim fun u92 hI => hI.elim fun u93 hI => hI.elim fun u94 hI => hI.elim fun u95 hI => hI.elim fun u96 hI => hI.elim fun u97 hI => hI.elim fun u98 hI => hI.elim fun u99 hI => hI.elim fun u100 hI => hI.elim fun u101 hI => hI.elim fun u102 hI => hI.elim fun u103 hI => hI.elim fun u104 hI => hI.elim fun u105 hI => hI.elim fun u106 hI => hI.elim fun u107 hI => ?_
                    have ha := hI.1
                    subst ha
                    have hb := hI.2.1
                    have g0 := hI.2.2.1
                    have g1 := hI.2.2.2.1
                    have g2 := hI.2.2.2.2.1
                    have g3 := hI.2.2.2.2.2.1
                    have g4 := hI.2.2.2.2.2.2.1
                    have g5 := hI.2.2.2.2.2.2.2.1
                    have g6 := hI.2.2.2.2.2.2.2.2.1
                    have g7 := hI.2.2.2.2.2.2.2.2.2.1
                    have g8 := hI.2.2.2.2.2.2.2.2.2.2.1
                    have g9 := hI.2.2.2.2.2.2.2.2.2.2.2.1
                    have g10 := hI.2.2.2.2.2.2.2.2.2.2.2.2.1
                    have g11 := hI.2.2.2.2.2.2.2.2.2.2.2.2.2.1
                    have g12 := hI.2.2.2.2.2.2.2.2.2.2.2.2.2.2.1
                    have g13 := hI.2.2.2.2.2.2.2.2.2.2.2.2.2.2.2.1
                    have g14 := hI.2.2.2.2.2.2.2.2.2.2.2.2.2.2.2.2.1
                    have g15 := hI.2.2.2.2.2.2.2.2.2.2.2.2.2.2.2.2.2.1
                    have g16 := hI.2.2.2.2.2.2.2.2.2.2.2.2.2.2.2.2.2.2.1
                    have g17 := hI.2.2.2.2.2.2.2.2.2.2.2.2.2.2.2.2.2.2.2
                    clear hI
                    simp [Region.binds] at hd
                    dsimp only at hK ⊢
                    have e4 := g4 (by simp [hd])
                    subst e4
                    have e5 := g5 (by simp [hd])
                    subst e5
                    go_simp
                    exact hK _ _ ⟨_, _, _, _, _, _, _, _, _, _, _, _, _, _, _, _, _, _, rfl, hb, g0, g1, g2, g3, g4, g5, fun _ => rfl, g7, g8, g9, g10, g11, g12, g13, g14, g15, g16, g17⟩
                  · intro L a w' hI hl hd K hK
                    refine hI.elim fun u90 hI => hI.elim fun u91 hI => hI.elim fun u92 hI => hI.elim fun u93 hI => hI.elim fun u94 hI => hI.elim fun u95 hI => hI.elim fun u96 hI => hI.elim fun u97 hI => hI.elim fun u98 hI => hI.elim fun u99 hI => hI.elim fun u100 hI => hI.elim fun u101 hI => hI.elim fun u102 hI => hI.elim fun u103 hI => hI.elim fun u104 hI => hI.elim fun u105 hI => hI.elim fun u106 hI => hI.elim fun u107 hI => ?_
                    have ha := hI.1
                    subst ha
                    have hb := hI.2.1
                    have g0 := hI.2.2.1
                    have g1 := hI.2.2.2.1
                    have g2 := hI.2.2.2.2.1
                    have g3 := hI.2.2.2.2.2.1
                    have g4 := hI.2.2.2.2.2.2.1
                    have g5 := hI.2.2.2.2.2.2.2.1
                    have g6 := hI.2.2.2.2.2.2.2.2.1
                    have g7 := hI.2.2.2.2.2.2.2.2.2.1
                    have g8 := hI.2.2.2.2.2.2.2.2.2.2.1
                    have g9 := hI.2.2.2.2.2.2.2.2.2.2.2.1
                    have g10 := hI.2.2.2.2.2.2.2.2.2.2.2.2.1
                    have g11 := hI.2.2.2.2.2.2.2.2.2.2.2.2.2.1
                    have g12 := hI.2.2.2.2.2.2.2.2.2.2.2.2.2.2.1
                    have g13 := hI.2.2.2.2.2.2.2.2.2.2.2.2.2.2.2.1
                    have g14 := hI.2.2.2.2.2.2.2.2.2.2.2.2.2.2.2.2.1
                    have g15 := hI.2.2.2.2.2.2.2.2.2.2.2.2.2.2.2.2.2.1
                    have g16 := hI.2.2.2.2.2.2.2.2.2.2.2.2.2.2.2.2.2.2.1
                    have g17 := hI.2.2.2.2.2.2.2.2.2.2.2.2.2.2.2.2.2.2.2
                    clear hI
                    simp [Region.binds] at hd
                    dsimp only at hK ⊢
                    have e4 := g4 (by simp [hd])
                    subst e4
                    go_simp
                    exact hK _ _ ⟨_, _, _, _, _, _, _, _, _, _, _, _, _, _, _, _, _, _, rfl, hb, g0, g1, g2, g3, g4, g5, g6, fun _ => rfl, g8, g9, g10, g11, g12, g13, g14, g15, g16, g17⟩
                  · intro L a w' hI hl hd K hK
                    refine hI.elim fun u90 hI => hI.elim fun u91 hI => hI.elim fun u92 hI => hI.elim fun u93 hI => hI.elim fun u94 hI => hI.elim fun u95 hI => hI.elim fun u96 hI => hI.elim fun u97 hI => hI.elim fun u98 hI => hI.elim fun u99 hI => hI.elim fun u100 hI => hI.elim fun u101 hI => hI.elim fun u102 hI => hI.elim fun u103 hI => hI.elim fun u104 hI => hI.elim fun u105 hI => hI.elim fun u106 hI => hI.elim fun u107 hI => ?_
                    have ha := hI.1
                    subst ha
                    have hb := hI.2.1
                    have g0 := hI.2.2.1
                    have g1 := hI.2.2.2.1
                    have g2 := hI.2.2.2.2.1
                    have g3 := hI.2.2.2.2.2.1
                    have g4 := hI.2.2.2.2.2.2.1
                    have g5 := hI.2.2.2.2.2.2.2.1
                    have g6 := hI.2.2.2.2.2.2.2.2.1
                    have g7 := hI.2.2.2.2.2.2.2.2.2.1
                    have g8 := hI.2.2.2.2.2.2.2.2.2.2.1
                    have g9 := hI.2.2.2.2.2.2.2.2.2.2.2.1
                    have g10 := hI.2.2.2.2.2.2.2.2.2.2.2.2.1
                    have g11 := hI.2.2.2.2.2.2.2.2.2.2.2.2.2.1
                    have g12 := hI.2.2.2.2.2.2.2.2.2.2.2.2.2.2.1
                    have g13 := hI.2.2.2.2.2.2.2.2.2.2.2.2.2.2.2.1
                    have g14 := hI.2.2.2.2.2.2.2.2.2.2.2.2.2.2.2.2.1
                    have g15 := hI.2.2.2.2.2.2.2.2.2.2.2.2.2.2.2.2.2.1
                    have g16 := hI.2.2.2.2.2.2.2.2.2.2.2.2.2.2.2.2.2.2.1
                    have g17 := hI.2.2.2.2.2.2.2.2.2.2.2.2.2.2.2.2.2.2.2
                    clear hI
                    simp [Region.binds] at hd
                    dsimp only at hK ⊢
                    have e4 := g4 (by simp [hd])
                    subst e4
                    have e6 := g6 (by simp [hd])
                    subst e6
                    have e7 := g7 (by simp [hd])
                    subst e7
                    go_simp
                    exact hK _ _ ⟨_, _, _, _, _, _, _, _, _, _, _, _, _, _, _, _, _, _, rfl, hb, g0, g1, g2, g3, g4, g5, g6, g7, fun _ => rfl, g9, g10, g11, g12, g13, g14, g15, g16, g17⟩
                  · intro L a w' hI hl hd K hK
                    refine hI.elim fun u90 hI => hI.elim fun u91 hI => hI.elim fun u92 hI => hI.elim fun u93 hI => hI.elim fun u94 hI => hI.elim fun u95 hI => hI.elim fun u96 hI => hI.elim fun u97 hI => hI.elim fun u98 hI => hI.elim fun u99 hI => hI.elim fun u100 hI => hI.elim fun u101 hI => hI.elim fun u102 hI => hI.elim fun u103 hI => hI.elim fun u104 hI => hI.elim fun u105 hI => hI.elim fun u106 hI => hI.elim fun u107 hI => ?_
                    have ha := hI.1
                    subst ha
                    have hb := hI.2.1
                    have g0 := hI.2.2.1
                    have g1 := hI.2.2.2.1
                    have g2 := hI.2.2.2.2.1
                    have g3 := hI.2.2.2.2.2.1
                    have g4 := hI.2.2.2.2.2.2.1
                    have g5 := hI.2.2.2.2.2.2.2.1
                    have g6 := hI.2.2.2.2.2.2.2.2.1
                    have g7 := hI.2.2.2.2.2.2.2.2.2.1
                    have g8 := hI.2.2.2.2.2.2.2.2.2.2.1
                    have g9 := hI.2.2.2.2.2.2.2.2.2.2.2.1
                    have g10 := hI.2.2.2.2.2.2.2.2.2.2.2.2.1
                    have g11 := hI.2.2.2.2.2.2.2.2.2.2.2.2.2.1
                    have g12 := hI.2.2.2.2.2.2.2.2.2.2.2.2.2.2.1
                    have g13 := hI.2.2.2.2.2.2.2.2.2.2.2.2.2.2.2.1
                    have g14 := hI.2.2.2.2.2.2.2.2.2.2.2.2.2.2.2.2.1
                    have g15 := hI.2.2.2.2.2.2.2.2.2.2.2.2.2.2.2.2.2.1
                    have g16 := hI.2.2.2.2.2.2.2.2.2.2.2.2.2.2.2.2.2.2.1
                    have g17 := hI.2.2.2.2.2.2.2.2.2.2.2.2.2.2.2.2.2.2.2
                    clear hI
                    simp [Region.binds] at hd
                    dsimp only at hK ⊢
                    have e4 := g4 (by simp [hd])
                    subst e4
                    go_simp
                    exact hK _ _ ⟨_, _, _, _, _, _, _, _, _, _, _, _, _, _, _, _, _, _, rfl, hb, g0, g1, g2, g3, g4, g5, g6, g7, g8, fun _ => rfl, g10, g11, g12, g13, g14, g15, g16, g17⟩
                  · intro L a w' hI hl hd K hK
                    refine hI.elim fun u90 hI => hI.elim fun u91 hI => hI.elim fun u92 hI => hI.elim fun u93 hI => hI.elim fun u94 hI => hI.elim fun u95 hI => hI.elim fun u96 hI => hI.elim fun u97 hI => hI.elim fun u98 hI => hI.elim fun u99 hI => hI.elim fun u100 hI => hI.elim fun u101 hI => hI.elim fun u102 hI => hI.elim fun u103 hI => hI.elim fun u104 hI => hI.elim fun u105 hI => hI.elim fun u106 hI => hI.elim fun u107 hI => ?_
                    have ha := hI.1
                    subst ha
                    have hb := hI.2.1
                    have g0 := hI.2.2.1
                    have g1 := hI.2.2.2.1
                    have g2 := hI.2.2.2.2.1
                    have g3 := hI.2.2.2.2.2.1
                    have g4 := hI.2.2.2.2.2.2.1
                    have g5 := hI.2.2.2.2.2.2.2.1
                    have g6 := hI.2.2.2.2.2.2.2.2.1
                    have g7 := hI.2.2.2.2.2.2.2.2.2.1
                    have g8 := hI.2.2.2.2.2.2.2.2.2.2.1
                    have g9 := hI.2.2.2.2.2.2.2.2.2.2.2.1
                    have g10 := hI.2.2.2.2.2.2.2.2.2.2.2.2.1
                    have g11 := hI.2.2.2.2.2.2.2.2.2.2.2.2.2.1
                    have g12 := hI.2.2.2.2.2.2.2.2.2.2.2.2.2.2.1
                    have g13 := hI.2.2.2.2.2.2.2.2.2.2.2.2.2.2.2.1
                    have g14 := hI.2.2.2.2.2.2.2.2.2.2.2.2.2.2.2.2.1
                    have g15 := hI.2.2.2.2.2.2.2.2.2.2.2.2.2.2.2.2.2.1
                    have g16 := hI.2.2.2.2.2.2.2.2.2.2.2.2.2.2.2.2.2.2.1
                    have g17 := hI.2.2.2.2.2.2.2.2.2.2.2.2.2.2.2.2.2.2.2
                    clear hI
                    simp [Region.binds] at hd
                    dsimp only at hK ⊢
                    have e9 := g9 (by simp [hd])
                    subst e9
                    go_simp
                    exact hK _ _ ⟨_, _, _, _, _, _, _, _, _, _, _, _, _, _, _, _, _, _, rfl, hb, g0, g1, g2, g3, g4, g5, g6, g7, g8, g9, fun _ => rfl, g11, g12, g13, g14, g15, g16, g17⟩
                  · intro L a w' hI hl hd K hK
                    refine hI.elim fun u90 hI => hI.elim fun u91 hI => hI.elim fun u92 hI => hI.elim fun u93 hI => hI.elim fun u94 hI => hI.elim fun u95 hI => hI.elim fun u96 hI => hI.elim fun u97 hI => hI.elim fun u98 hI => hI.elim fun u99 hI => hI.elim fun u100 hI => hI.elim fun u101 hI => hI.elim fun u102 hI => hI.elim fun u103 hI => hI.elim fun u104 hI => hI.elim fun u105 hI => hI.elim fun u106 hI => hI.elim fun u107 hI => ?_
                    have ha := hI.1
                    subst ha
                    have hb := hI.2.1
                    have g0 := hI.2.2.1
                    have g1 := hI.2.2.2.1
                    have g2 := hI.2.2.2.2.1
                    have g3 := hI.2.2.2.2.2.1
                    have g4 := hI.2.2.2.2.2.2.1
                    have g5 := hI.2.2.2.2.2.2.2.1
                    have g6 := hI.2.2.2.2.2.2.2.2.1
                    have g7 := hI.2.2.2.2.2.2.2.2.2.1
                    have g8 := hI.2.2.2.2.2.2.2.2.2.2.1
                    have g9 := hI.2.2.2.2.2.2.2.2.2.2.2.1
                    have g10 := hI.2.2.2.2.2.2.2.2.2.2.2.2.1
                    have g11 := hI.2.2.2.2.2.2.2.2.2.2.2.2.2.1
                    have g12 := hI.2.2.2.2.2.2.2.2.2.2.2.2.2.2.1
                    have g13 := hI.2.2.2.2.2.2.2.2.2.2.2.2.2.2.2.1
                    have g14 := hI.2.2.2.2.2.2.2.2.2.2.2.2.2.2.2.2.1
                    have g15 := hI.2.2.2.2.2.2.2.2.2.2.2.2.2.2.2.2.2.1
                    have g16 := hI.2.2.2.2.2.2.2.2.2.2.2.2.2.2.2.2.2.2.1
                    have g17 := hI.2.2.2.2.2.2.2.2.2.2.2.2.2.2.2.2.2.2.2
                    clear hI
                    simp [Region.binds] at hd
                    dsimp only at hK ⊢
                    have e10 := g10 (by simp [hd])
                    subst e10
                    go_simp
                    exact hK _ _ ⟨_, _, _, _, _, _, _, _, _, _, _, _, _, _, _, _, _, _, rfl, hb, g0, g1, g2, g3, g4, g5, g6, g7, g8, g9, g10, fun _ => rfl, g12, g13, g14, g15, g16, g17⟩
                  · intro L a w' hI hl hd K hK
                    refine hI.elim fun u90 hI => hI.elim fun u91 hI => hI.elim fun u92 hI => hI.elim fun u93 hI => hI.elim fun u94 hI => hI.elim fun u95 hI => hI.elim fun u96 hI => hI.elim fun u97 hI => hI.elim fun u98 hI => hI.elim fun u99 hI => hI.elim fun u100 hI => hI.elim fun u101 hI => hI.elim fun u102 hI => hI.elim fun u103 hI => hI.elim fun u104 hI => hI.elim fun u105 hI => hI.elim fun u106 hI => hI.elim fun u107 hI => ?_
                    have ha := hI.1
                    subst ha
                    have hb := hI.2.1
                    have g0 := hI.2.2.1
                    have g1 := hI.2.2.2.1
                    have g2 := hI.2.2.2.2.1
                    have g3 := hI.2.2.2.2.2.1
                    have g4 := hI.2.2.2.2.2.2.1
                    have g5 := hI.2.2.2.2.2.2.2.1
                    have g6 := hI.2.2.2.2.2.2.2.2.1
                    have g7 := hI.2.2.2.2.2.2.2.2.2.1
                    have g8 := hI.2.2.2.2.2.2.2.2.2.2.1
                    have g9 := hI.2.2.2.2.2.2.2.2.2.2.2.1
                    have g10 := hI.2.2.2.2.2.2.2.2.2.2.2.2.1
                    have g11 := hI.2.2.2.2.2.2.2.2.2.2.2.2.2.1
                    have g12 := hI.2.2.2.2.2.2.2.2.2.2.2.2.2.2.1
                    have g13 := hI.2.2.2.2.2.2.2.2.2.2.2.2.2.2.2.1
                    have g14 := hI.2.2.2.2.2.2.2.2.2.2.2.2.2.2.2.2.1
                    have g15 := hI.2.2.2.2.2.2.2.2.2.2.2.2.2.2.2.2.2.1
                    have g16 := hI.2.2.2.2.2.2.2.2.2.2.2.2.2.2.2.2.2.2.1
                    have g17 := hI.2.2.2.2.2.2.2.2.2.2.2.2.2.2.2.2.2.2.2
                    clear hI
                    simp [Region.binds] at hd
                    dsimp only at hK ⊢
                    have e10 := g10 (by simp [hd])
                    subst e10
                    go_simp
                    exact hK _ _ ⟨_, _, _, _, _, _, _, _, _, _, _, _, _, _, _, _, _, _, rfl, hb, g0, g1, g2, g3, g4, g5, g6, g7, g8, g9, g10, g11, fun _ => rfl, g13, g14, g15, g16, g17⟩
                  · intro L a w' hI hl hd K hK
                    refine hI.elim fun u90 hI => hI.elim fun u91 hI => hI.elim fun u92 hI => hI.elim fun u93 hI => hI.elim fun u94 hI => hI.elim fun u95 hI => hI.elim fun u96 hI => hI.elim fun u97 hI => hI.elim fun u98 hI => hI.elim fun u99 hI => hI.elim fun u100 hI => hI.elim fun u101 hI => hI.elim fun u102 hI => hI.elim fun u103 hI => hI.elim fun u104 hI => hI.elim fun u105 hI => hI.elim fun u106 hI => hI.elim fun u107 hI => ?_
                    have ha := hI.1
                    subst ha
                    have hb := hI.2.1
                    have g0 := hI.2.2.1
                    have g1 := hI.2.2.2.1
                    have g2 := hI.2.2.2.2.1
                    have g3 := hI.2.2.2.2.2.1
                    have g4 := hI.2.2.2.2.2.2.1
                    have g5 := hI.2.2.2.2.2.2.2.1
                    have g6 := hI.2.2.2.2.2.2.2.2.1
                    have g7 := hI.2.2.2.2.2.2.2.2.2.1
                    have g8 := hI.2.2.2.2.2.2.2.2.2.2.1
                    have g9 := hI.2.2.2.2.2.2.2.2.2.2.2.1
                    have g10 := hI.2.2.2.2.2.2.2.2.2.2.2.2.1
                    have g11 := hI.2.2.2.2.2.2.2.2.2.2.2.2.2.1
                    have g12 := hI.2.2.2.2.2.2.2.2.2.2.2.2.2.2.1
                    have g13 := hI.2.2.2.2.2.2.2.2.2.2.2.2.2.2.2.1
                    have g14 := hI.2.2.2.2.2.2.2.2.2.2.2.2.2.2.2.2.1
                    have g15 := hI.2.2.2.2.2.2.2.2.2.2.2.2.2.2.2.2.2.1
                    have g16 := hI.2.2.2.2.2.2.2.2.2.2.2.2.2.2.2.2.2.2.1
                    have g17 := hI.2.2.2.2.2.2.2.2.2.2.2.2.2.2.2.2.2.2.2
                    clear hI
                    simp [Region.binds] at hd
                    dsimp only at hK ⊢
                    have e10 := g10 (by simp [hd])
                    subst e10
                    go_simp
                    exact hK _ _ ⟨_, _, _, _, _, _, _, _, _, _, _, _, _, _, _, _, _, _, rfl, hb, g0, g1, g2, g3, g4, g5, g6, g7, g8, g9, g10, g11, g12, fun _ => rfl, g14, g15, g16, g17⟩
                  · intro L a w' hI hl hd K hK
                    refine hI.elim fun u90 hI => hI.elim fun u91 hI => hI.elim fun u92 hI => hI.elim fun u93 hI => hI.elim fun u94 hI => hI.elim fun u95 hI => hI.elim fun u96 hI => hI.elim fun u97 hI => hI.elim fun u98 hI => hI.elim fun u99 hI => hI.elim fun u100 hI => hI.elim fun u101 hI => hI.elim fun u102 hI => hI.elim fun u103 hI => hI.elim fun u104 hI => hI.elim fun u105 hI => hI.elim fun u106 hI => hI.elim fun u107 hI => ?_
                    have ha := hI.1
                    subst ha
                    have hb := hI.2.1
                    have g0 := hI.2.2.1
                    have g1 := hI.2.2.2.1
                    have g2 := hI.2.2.2.2.1
                    have g3 := hI.2.2.2.2.2.1
                    have g4 := hI.2.2.2.2.2.2.1
                    have g5 := hI.2.2.2.2.2.2.2.1
                    have g6 := hI.2.2.2.2.2.2.2.2.1
                    have g7 := hI.2.2.2.2.2.2.2.2.2.1
                    have g8 := hI.2.2.2.2.2.2.2.2.2.2.1
                    have g9 := hI.2.2.2.2.2.2.2.2.2.2.2.1
                    have g10 := hI.2.2.2.2.2.2.2.2.2.2.2.2.1
                    have g11 := hI.2.2.2.2.2.2.2.2.2.2.2.2.2.1
                    have g12 := hI.2.2.2.2.2.2.2.2.2.2.2.2.2.2.1
                    have g13 := hI.2.2.2.2.2.2.2.2.2.2.2.2.2.2.2.1
                    have g14 := hI.2.2.2.2.2.2.2.2.2.2.2.2.2.2.2.2.1
                    have g15 := hI.2.2.2.2.2.2.2.2.2.2.2.2.2.2.2.2.2.1
                    have g16 := hI.2.2.2.2.2.2.2.2.2.2.2.2.2.2.2.2.2.2.1
                    have g17 := hI.2.2.2.2.2.2.2.2.2.2.2.2.2.2.2.2.2.2.2
                    clear hI
                    simp [Region.binds] at hd
                    dsimp only at hK ⊢
                    have e10 := g10 (by simp [hd])
                    subst e10
                    go_simp
                    exact hK _ _ ⟨_, _, _, _, _, _, _, _, _, _, _, _, _, _, _, _, _, _, rfl, hb, g0, g1, g2, g3, g4, g5, g6, g7, g8, g9, g10, g11, g12, g13, fun _ => rfl, g15, g16, g17⟩
                  · intro L a w' hI hl hd K hK
                    refine hI.elim fun u90 hI => hI.elim fun u91 hI => hI.elim fun u92 hI => hI.elim fun u93 hI => hI.elim fun u94 hI => hI.elim fun u95 hI => hI.elim fun u96 hI => hI.elim fun u97 hI => hI.elim fun u98 hI => hI.elim fun u99 hI => hI.elim fun u100 hI => hI.elim fun u101 hI => hI.elim fun u102 hI => hI.elim fun u103 hI => hI.elim fun u104 hI => hI.elim fun u105 hI => hI.elim fun u106 hI => hI.elim fun u107 hI => ?_
                    have ha := hI.1
                    subst ha
                    have hb := hI.2.1
                    have g0 := hI.2.2.1
                    have g1 := hI.2.2.2.1
                    have g2 := hI.2.2.2.2.1
                    have g3 := hI.2.2.2.2.2.1
                    have g4 := hI.2.2.2.2.2.2.1
                    have g5 := hI.2.2.2.2.2.2.2.1
                    have g6 := hI.2.2.2.2.2.2.2.2.1
                    have g7 := hI.2.2.2.2.2.2.2.2.2.1
                    have g8 := hI.2.2.2.2.2.2.2.2.2.2.1
                    have g9 := hI.2.2.2.2.2.2.2.2.2.2.2.1
                    have g10 := hI.2.2.2.2.2.2.2.2.2.2.2.2.1
                    have g11 := hI.2.2.2.2.2.2.2.2.2.2.2.2.2.1
                    have g12 := hI.2.2.2.2.2.2.2.2.2.2.2.2.2.2.1
                    have g13 := hI.2.2.2.2.2.2.2.2.2.2.2.2.2.2.2.1
                    have g14 := hI.2.2.2.2.2.2.2.2.2.2.2.2.2.2.2.2.1
                    have g15 := hI.2.2.2.2.2.2.2.2.2.2.2.2.2.2.2.2.2.1
                    have g16 := hI.2.2.2.2.2.2.2.2.2.2.2.2.2.2.2.2.2.2.1
                    have g17 := hI.2.2.2.2.2.2.2.2.2.2.2.2.2.2.2.2.2.2.2
                    clear hI
                    simp [Region.binds] at hd
                    dsimp only at hK ⊢
                    have e10 := g10 (by simp [hd])
                    subst e10
                    go_simp
                    exact hK _ _ ⟨_, _, _, _, _, _, _, _, _, _, _, _, _, _, _, _, _, _, rfl, hb, g0, g1, g2, g3, g4, g5, g6, g7, g8, g9, g10, g11, g12, g13, g14, fun _ => rfl, g16, g17⟩
                  · intro L a w' hI hl hd K hK
                    refine hI.elim fun u90 hI => hI.elim fun u91 hI => hI.elim fun u92 hI => hI.elim fun u93 hI => hI.elim fun u94 hI => hI.elim fun u95 hI => hI.elim fun u96 hI => hI.elim fun u97 hI => hI.elim fun u98 hI => hI.elim fun u99 hI => hI.elim fun u100 hI => hI.elim fun u101 hI => hI.elim fun u102 hI => hI.elim fun u103 hI => hI.elim fun u104 hI => hI.elim fun u105 hI => hI.elim fun u106 hI => hI.elim fun u107 hI => ?_
                    have ha := hI.1
                    subst ha
                    have hb := hI.2.1
                    have g0 := hI.2.2.1
                    have g1 := hI.2.2.2.1
                    have g2 := hI.2.2.2.2.1
                    have g3 := hI.2.2.2.2.2.1
                    have g4 := hI.2.2.2.2.2.2.1
                    have g5 := hI.2.2.2.2.2.2.2.1
                    have g6 := hI.2.2.2.2.2.2.2.2.1
                    have g7 := hI.2.2.2.2.2.2.2.2.2.1
                    have g8 := hI.2.2.2.2.2.2.2.2.2.2.1
                    have g9 := hI.2.2.2.2.2.2.2.2.2.2.2.1
                    have g10 := hI.2.2.2.2.2.2.2.2.2.2.2.2.1
                    have g11 := hI.2.2.2.2.2.2.2.2.2.2.2.2.2.1
                    have g12 := hI.2.2.2.2.2.2.2.2.2.2.2.2.2.2.1
                    have g13 := hI.2.2.2.2.2.2.2.2.2.2.2.2.2.2.2.1
                    have g14 := hI.2.2.2.2.2.2.2.2.2.2.2.2.2.2.2.2.1
                    have g15 := hI.2.2.2.2.2.2.2.2.2.2.2.2.2.2.2.2.2.1
                    have g16 := hI.2.2.2.2.2.2.2.2.2.2.2.2.2.2.2.2.2.2.1
                    have g17 := hI.2.2.2.2.2.2.2.2.2.2.2.2.2.2.2.2.2.2.2
                    clear hI
                    simp [Region.binds] at hd
                    dsimp only at hK ⊢
                    have e10 := g10 (by simp [hd])
                    subst e10
                    go_simp
                    exact hK _ _ ⟨_, _, _, _, _, _, _, _, _, _, _, _, _, _, _, _, _, _, rfl, hb, g0, g1, g2, g3, g4, g5, g6, g7, g8, g9, g10, g11, g12, g13, g14, g15, fun _ => rfl, g17⟩
                  · intro L a w' hI hl hd K hK
                    refine hI.elim fun u90 hI => hI.elim fun u91 hI => hI.elim fun u92 hI => hI.elim fun u93 hI => hI.elim fun u94 hI => hI.elim fun u95 hI => hI.elim fun u96 hI => hI.elim fun u97 hI => hI.elim fun u98 hI => hI.elim fun u99 hI => hI.elim fun u100 hI => hI.elim fun u101 hI => hI.elim fun u102 hI => hI.elim fun u103 hI => hI.elim fun u104 hI => hI.elim fun u105 hI => hI.elim fun u106 hI => hI.elim fun u107 hI => ?_
                    have ha := hI.1
                    subst ha
                    have hb := hI.2.1
                    have g0 := hI.2.2.1
                    have g1 := hI.2.2.2.1
                    have g2 := hI.2.2.2.2.1
                    have g3 := hI.2.2.2.2.2.1
                    have g4 := hI.2.2.2.2.2.2.1
                    have g5 := hI.2.2.2.2.2.2.2.1
                    have g6 := hI.2.2.2.2.2.2.2.2.1
                    have g7 := hI.2.2.2.2.2.2.2.2.2.1
                    have g8 := hI.2.2.2.2.2.2.2.2.2.2.1
                    have g9 := hI.2.2.2.2.2.2.2.2.2.2.2.1
                    have g10 := hI.2.2.2.2.2.2.2.2.2.2.2.2.1
                    have g11 := hI.2.2.2.2.2.2.2.2.2.2.2.2.2.1
                    have g12 := hI.2.2.2.2.2.2.2.2.2.2.2.2.2.2.1
                    have g13 := hI.2.2.2.2.2.2.2.2.2.2.2.2.2.2.2.1
                    have g14 := hI.2.2.2.2.2.2.2.2.2.2.2.2.2.2.2.2.1
                    have g15 := hI.2.2.2.2.2.2.2.2.2.2.2.2.2.2.2.2.2.1
                    have g16 := hI.2.2.2.2.2.2.2.2.2.2.2.2.2.2.2.2.2.2.1
                    have g17 := hI.2.2.2.2.2.2.2.2.2.2.2.2.2.2.2.2.2.2.2
                    clear hI
                    simp [Region.binds] at hd
                    dsimp only at hK ⊢
                    have e10 := g10 (by simp [hd])
                    subst e10
                    go_simp
                    exact hK _ _ ⟨_, _, _, _, _, _, _, _, _, _, _, _, _, _, _, _, _, _, rfl, hb, g0, g1, g2, g3, g4, g5, g6, g7, g8, g9, g10, g11, g12, g13, g14, g15, g16, fun _ => rfl⟩
                intro a w3 hI
                refine hI.elim fun u90 hI => hI.elim fun u91 hI => hI.elim fun u92 hI => hI.elim fun u93 hI => hI.elim fun u94 hI => hI.elim fun u95 hI => hI.elim fun u96 hI => hI.elim fun u97 hI => hI.elim fun u98 hI => hI.elim fun u99 hI => hI.elim fun u100 hI => hI.elim fun u101 hI => hI.elim fun u102 hI => hI.elim fun u103 hI => hI.elim fun u104 hI => hI.elim fun u105 hI => hI.elim fun u106 hI => hI.elim fun u107 hI => ?_
                have ha := hI.1
                subst ha
                have hb := hI.2.1
                have g0 := hI.2.2.1
                have g1 := hI.2.2.2.1
                have g2 := hI.2.2.2.2.1
                have g3 := hI.2.2.2.2.2.1
                have g4 := hI.2.2.2.2.2.2.1
                have g5 := hI.2.2.2.2.2.2.2.1
                have g6 := hI.2.2.2.2.2.2.2.2.1
                have g7 := hI.2.2.2.2.2.2.2.2.2.1
                have g8 := hI.2.2.2.2.2.2.2.2.2.2.1
                have g9 := hI.2.2.2.2.2.2.2.2.2.2.2.1
                have g10 := hI.2.2.2.2.2.2.2.2.2.2.2.2.1
                have g11 := hI.2.2.2.2.2.2.2.2.2.2.2.2.2.1
                have g12 := hI.2.2.2.2.2.2.2.2.2.2.2.2.2.2.1
                have g13 := hI.2.2.2.2.2.2.2.2.2.2.2.2.2.2.2.1
                have g14 := hI.2.2.2.2.2.2.2.2.2.2.2.2.2.2.2.2.1
                have g15 := hI.2.2.2.2.2.2.2.2.2.2.2.2.2.2.2.2.2.1
                have g16 := hI.2.2.2.2.2.2.2.2.2.2.2.2.2.2.2.2.2.2.1
                have g17 := hI.2.2.2.2.2.2.2.2.2.2.2.2.2.2.2.2.2.2.2
                clear hI
                have e17 := g17 rfl
                subst e17
                have HX := Lib.hid hb
                clear g0 g1 g2 g3 g4 g5 g6 g7 g8 g9 g10 g11 g12 g13 g14 g15 g16 g17 hb
                go_wp2
                go_meet
                exact ⟨rfl, HX.out⟩
              | true =>
                by_cases hlv : e.live < mx
                · have q5 : decide (e.live < mx) = true := by simpa using hlv
                  have HGN := Lib.hid (And.intro (HGN.out rfl hlv) trivial)
                  clear hlv
                  refine wp_region_inv (by kernel_rfl) (by kernel_rfl) (fun L a w' => ∃ u90 u91 u92 u93 u94 u95 u96 u97 u98 u99 u100 u101 u102 u103 u104 u105 u106 u107 : Value, a = ⟨#[.slice A0 zs.length c0, .int .i64 a1, .int .i64 a2, undef, undef, undef, u6, .slice (some ad) l.length cL, .int .i64 d, .int .i64 u, .slice A2 m cK, .slice A5 m cC, .pointer (some ⟨N, 0, none⟩), .bool true, .int .i64 mx, u15, u16, undef, .pointer (some ⟨N5, 0, none⟩), .slice A0 zs.length c0, .slice (some ad) l.length cL, .int .i64 a1, .int .i64 x, .int .i64 d, .int .i64 a2, .int .i64 y, .int .i64 u, .slice (some ad) l.length cL, .int .i64 d, .int .i64 u, .slice A2 m cK, .slice (some ad) l.length cL, .slice A3 LR.length c3, .int .i64 D, .int .i64 d, .bool false, undef, undef, undef, undef, undef, undef, .slice (some ad) l.length cL, .slice A2 m cK, .slice A5 m cC, .tuple #[.agg #[.bool P.null, .int .i64 P.n, .string P.s, .int .i64 P.seq], .bool true], .slice (some ad) l.length cL, .slice A6 LR.length c6, .tuple #[.agg #[.bool P.null, .int .i64 P.n, .string P.s, .int .i64 P.seq], .bool true], .agg #[.bool P.null, .int .i64 P.n, .string P.s, .int .i64 P.seq], .bool true, .slice A5 m cC, .int .i64 m, .int .i64 m, .bool false, u55, u56, u57, u58, u59, u60, u61, u62, u63, u64, u65, u66, u67, u68, u69, u70, u71, u72, u73, u74, u75, u76, u77, u78, u79, u80, u81, u82, u83, .slice (some ad) l.length cL, .int .i64 l.length, .int .i64 n, .bool true, .pointer (some pe), .agg #[.int .i64 e.id, .int .i64 e.rows, .int .i64 e.live, .bool e.lo.null, .int .i64 e.lo.n, .string e.lo.s, .int .i64 e.lo.seq, .bool e.hi.null, .int .i64 e.hi.n, .string e.hi.s, .int .i64 e.hi.seq, .int .i64 e.del], u90, u91, u92, u93, u94, u95, u96, u97, u98, u99, u100, u101, u102, u103, u104, u105, u106, u107, u108, undef, undef, undef, undef, undef, undef, undef, undef, undef, undef, undef, undef, undef, undef, undef, undef, undef, undef, undef], []⟩ ∧
                      Below V.heap.size V w' ∧ Got (L 0) u90 (.agg #[.int .i64 e.id, .int .i64 e.rows, .int .i64 e.live, .bool e.lo.null, .int .i64 e.lo.n, .string e.lo.s, .int .i64 e.lo.seq, .bool e.hi.null, .int .i64 e.hi.n, .string e.hi.s, .int .i64 e.hi.seq, .int .i64 e.del]) ∧ Got (L 1) u91 (.agg #[.bool e.lo.null, .int .i64 e.lo.n, .string e.lo.s, .int .i64 e.lo.seq, .bool e.hi.null, .int .i64 e.hi.n, .string e.hi.s, .int .i64 e.hi.seq]) ∧ Got (L 2) u92 (.agg #[.bool P.null, .int .i64 P.n, .string P.s, .int .i64 P.seq]) ∧ Got (L 3) u93 (.bool true) ∧ Got (L 4) u94 (.bool true) ∧ Got (L 5) u95 (.pointer (some ⟨N5, 2, none⟩)) ∧ Got (L 6) u96 (.int .i64 e.live) ∧ Got (L 7) u97 (.int .i64 mx) ∧ Got (L 8) u98 (.bool true) ∧ Got (L 9) u99 (.bool true) ∧ Got (L 10) u100 (.bool true) ∧ Got (L 11) u101 (.agg #[.int .i64 e.id, .int .i64 e.rows, .int .i64 e.live, .bool e.lo.null, .int .i64 e.lo.n, .string e.lo.s, .int .i64 e.lo.seq, .bool e.hi.null, .int .i64 e.hi.n, .string e.hi.s, .int .i64 e.hi.seq, .int .i64 e.del]) ∧ GotRow (L 12) V.heap.size u102 1 41 #[.int .i64 e.id, .int .i64 e.rows, .int .i64 e.live, .bool e.lo.null, .int .i64 e.lo.n, .string e.lo.s, .int .i64 e.lo.seq, .bool e.hi.null, .int .i64 e.hi.n, .string e.hi.s, .int .i64 e.hi.seq, .int .i64 e.del] w' ∧ Got (L 13) u103 (.slice A2 m cK) ∧ (L 14 = true → ∃ A c, u104 = .slice A 1 c) ∧ Got (L 15) u105 (.int .i64 1) ∧ Got (L 16) u106 (.bool false) ∧ Got (L 17) u107 (.bool false))
                    ?_ ?_ ?_
                  · exact ⟨_, _, _, _, _, _, _, _, _, _, _, _, _, _, _, _, _, _, rfl, (Below.refl _ _).drew, nofun, nofun, nofun, nofun, nofun, nofun, nofun, nofun, nofun, nofun, nofun, nofun, nofun, nofun, nofun, nofun, nofun, nofun⟩
                  · refine ⟨?_, ?_, ?_, ?_, ?_, ?_, ?_, ?_, ?_, ?_, ?_, ?_, ?_, ?_, ?_, ?_, ?_, ?_, trivial⟩
                    · intro L a w' hI hl hd K hK
                      refine hI.elim fun u90 hI => hI.elim fun u91 hI => hI.elim fun u92 hI => hI.elim fun u93 hI => hI.elim fun u94 hI => hI.elim fun u95 hI => hI.elim fun u96 hI => hI.elim fun u97 hI => hI.elim fun u98 hI => hI.elim fun u99 hI => hI.elim fun u100 hI => hI.elim fun u101 hI => hI.elim fun u102 hI => hI.elim fun u103 hI => hI.elim fun u104 hI => hI.elim fun u105 hI => hI.elim fun u106 hI => hI.elim fun u107 hI => ?_
                      have ha := hI.1
                      subst ha
                      have hb := hI.2.1
                      have g0 := hI.2.2.1
                      have g1 := hI.2.2.2.1
                      have g2 := hI.2.2.2.2.1
                      have g3 := hI.2.2.2.2.2.1
                      have g4 := hI.2.2.2.2.2.2.1
                      have g5 := hI.2.2.2.2.2.2.2.1
                      have g6 := hI.2.2.2.2.2.2.2.2.1
                      have g7 := hI.2.2.2.2.2.2.2.2.2.1
                      have g8 := hI.2.2.2.2.2.2.2.2.2.2.1
                      have g9 := hI.2.2.2.2.2.2.2.2.2.2.2.1
                      have g10 := hI.2.2.2.2.2.2.2.2.2.2.2.2.1
                      have g11 := hI.2.2.2.2.2.2.2.2.2.2.2.2.2.1
                      have g12 := hI.2.2.2.2.2.2.2.2.2.2.2.2.2.2.1
                      have g13 := hI.2.2.2.2.2.2.2.2.2.2.2.2.2.2.2.1
                      have g14 := hI.2.2.2.2.2.2.2.2.2.2.2.2.2.2.2.2.1
                      have g15 := hI.2.2.2.2.2.2.2.2.2.2.2.2.2.2.2.2.2.1
                      have g16 := hI.2.2.2.2.2.2.2.2.2.2.2.2.2.2.2.2.2.2.1
                      have g17 := hI.2.2.2.2.2.2.2.2.2.2.2.2.2.2.2.2.2.2.2
                      clear hI
                      dsimp only at hK ⊢
                      have bb := VE.out.below hb VE.out.lt
                      have c0 := bb.cell 0
                      have c1 := bb.cell 1
                      have c2 := bb.cell 2
                      have c3 := bb.cell 3
                      have c4 := bb.cell 4
                      have c5 := bb.cell 5
                      have c6 := bb.cell 6
                      have c7 := bb.cell 7
                      have c8 := bb.cell 8
                      have c9 := bb.cell 9
                      have c10 := bb.cell 10
                      have c11 := bb.cell 11
                      simp only [List.getElem?_toArray, List.getElem?_cons_zero, List.getElem?_cons_succ] at c0 c1 c2 c3 c4 c5 c6 c7 c8 c9 c10 c11
                      clear bb
                      go_simp
                      exact hK _ _ ⟨_, _, _, _, _, _, _, _, _, _, _, _, _, _, _, _, _, _, rfl, hb, fun _ => rfl, g1, g2, g3, g4, g5, g6, g7, g8, g9, g10, g11, g12, g13, g14, g15, g16, g17⟩
                    · intro L a w' hI hl hd K hK
                      refine hI.elim fun u90 hI => hI.elim fun u91 hI => hI.elim fun u92 hI => hI.elim fun u93 hI => hI.elim fun u94 hI => hI.elim fun u95 hI => hI.elim fun u96 hI => hI.elim fun u97 hI => hI.elim fun u98 hI => hI.elim fun u99 hI => hI.elim fun u100 hI => hI.elim fun u101 hI => hI.elim fun u102 hI => hI.elim fun u103 hI => hI.elim fun u104 hI => hI.elim fun u105 hI => hI.elim fun u106 hI => hI.elim fun u107 hI => ?_
                      have ha := hI.1
                      subst ha
                      have hb := hI.2.1
                      have g0 := hI.2.2.1
                      have g1 := hI.2.2.2.1
                      have g2 := hI.2.2.2.2.1
                      have g3 := hI.2.2.2.2.2.1
                      have g4 := hI.2.2.2.2.2.2.1
                      have g5 := hI.2.2.2.2.2.2.2.1
                      have g6 := hI.2.2.2.2.2.2.2.2.1
                      have g7 := hI.2.2.2.2.2.2.2.2.2.1
                      have g8 := hI.2.2.2.2.2.2.2.2.2.2.1
                      have g9 := hI.2.2.2.2.2.2.2.2.2.2.2.1
                      have g10 := hI.2.2.2.2.2.2.2.2.2.2.2.2.1
                      have g11 := hI.2.2.2.2.2.2.2.2.2.2.2.2.2.1
                      have g12 := hI.2.2.2.2.2.2.2.2.2.2.2.2.2.2.1
                      have g13 := hI.2.2.2.2.2.2.2.2.2.2.2.2.2.2.2.1
                      have g14 := hI.2.2.2.2.2.2.2.2.2.2.2.2.2.2.2.2.1
                      have g15 := hI.2.2.2.2.2.2.2.2.2.2.2.2.2.2.2.2.2.1
                      have g16 := hI.2.2.2.2.2.2.2.2.2.2.2.2.2.2.2.2.2.2.1
                      have g17 := hI.2.2.2.2.2.2.2.2.2.2.2.2.2.2.2.2.2.2.2
                      clear hI
                      simp [Region.binds] at hd
                      dsimp only at hK ⊢
                      have e0 := g0 (by simp [hd])
                      subst e0
                      go_wp2_with fail
                      refine (HRO.out w').mono ?_
                      rintro _ w4 ⟨rfl, hb4⟩
                      exact hK _ _ ⟨_, _, _, _, _, _, _, _, _, _, _, _, _, _, _, _, _, _, rfl, bst hb hb4, g0, fun _ => rfl, g2, g3, g4, g5, g6, g7, g8, g9, g10, g11, g12.below hb4, g13, g14, g15, g16, g17⟩
                    · intro L a w' hI hl hd K hK
                      refine hI.elim fun u90 hI => hI.elim fun u91 hI => hI.elim fun u92 hI => hI.elim fun u93 hI => hI.elim fun u94 hI => hI.elim fun u95 hI => hI.elim fun u96 hI => hI.elim fun u97 hI => hI.elim fun u98 hI => hI.elim fun u99 hI => hI.elim fun u100 hI => hI.elim fun u101 hI => hI.elim fun u102 hI => hI.elim fun u103 hI => hI.elim fun u104 hI => hI.elim fun u105 hI => hI.elim fun u106 hI => hI.elim fun u107 hI => ?_
                      have ha := hI.1
                      subst ha
                      have hb := hI.2.1
                      have g0 := hI.2.2.1
                      have g1 := hI.2.2.2.1
                      have g2 := hI.2.2.2.2.1
                      have g3 := hI.2.2.2.2.2.1
                      have g4 := hI.2.2.2.2.2.2.1
                      have g5 := hI.2.2.2.2.2.2.2.1
                      have g6 := hI.2.2.2.2.2.2.2.2.1
                      have g7 := hI.2.2.2.2.2.2.2.2.2.1
                      have g8 := hI.2.2.2.2.2.2.2.2.2.2.1
                      have g9 := hI.2.2.2.2.2.2.2.2.2.2.2.1
                      have g10 := hI.2.2.2.2.2.2.2.2.2.2.2.2.1
                      have g11 := hI.2.2.2.2.2.2.2.2.2.2.2.2.2.1
                      have g12 := hI.2.2.2.2.2.2.2.2.2.2.2.2.2.2.1
                      have g13 := hI.2.2.2.2.2.2.2.2.2.2.2.2.2.2.2.1
                      have g14 := hI.2.2.2.2.2.2.2.2.2.2.2.2.2.2.2.2.1
                      have g15 := hI.2.2.2.2.2.2.2.2.2.2.2.2.2.2.2.2.2.1
                      have g16 := hI.2.2.2.2.2.2.2.2.2.2.2.2.2.2.2.2.2.2.1
                      have g17 := hI.2.2.2.2.2.2.2.2.2.2.2.2.2.2.2.2.2.2.2
                      clear hI
                      dsimp only at hK ⊢
                      have bb := VP.out.below hb VP.out.lt
                      have c0 := bb.cell 0
                      have c1 := bb.cell 1
                      have c2 := bb.cell 2
                      have c3 := bb.cell 3
                      simp only [List.getElem?_toArray, List.getElem?_cons_zero, List.getElem?_cons_succ] at c0 c1 c2 c3
                      clear bb
                      go_simp
                      exact hK _ _ ⟨_, _, _, _, _, _, _, _, _, _, _, _, _, _, _, _, _, _, rfl, hb, g0, g1, fun _ => rfl, g3, g4, g5, g6, g7, g8, g9, g10, g11, g12, g13, g14, g15, g16, g17⟩
                    · intro L a w' hI hl hd K hK
                      refine hI.elim fun u90 hI => hI.elim fun u91 hI => hI.elim fun u92 hI => hI.elim fun u93 hI => hI.elim fun u94 hI => hI.elim fun u95 hI => hI.elim fun u96 hI => hI.elim fun u97 hI => hI.elim fun u98 hI => hI.elim fun u99 hI => hI.elim fun u100 hI => hI.elim fun u101 hI => hI.elim fun u102 hI => hI.elim fun u103 hI => hI.elim fun u104 hI => hI.elim fun u105 hI => hI.elim fun u106 hI => hI.elim fun u107 hI => ?_
                      have ha := hI.1
                      subst ha
                      have hb := hI.2.1
                      have g0 := hI.2.2.1
                      have g1 := hI.2.2.2.1
                      have g2 := hI.2.2.2.2.1
                      have g3 := hI.2.2.2.2.2.1
                      have g4 := hI.2.2.2.2.2.2.1
                      have g5 := hI.2.2.2.2.2.2.2.1
                      have g6 := hI.2.2.2.2.2.2.2.2.1
                      have g7 := hI.2.2.2.2.2.2.2.2.2.1
                      have g8 := hI.2.2.2.2.2.2.2.2.2.2.1
                      have g9 := hI.2.2.2.2.2.2.2.2.2.2.2.1
                      have g10 := hI.2.2.2.2.2.2.2.2.2.2.2.2.1
                      have g11 := hI.2.2.2.2.2.2.2.2.2.2.2.2.2.1
                      have g12 := hI.2.2.2.2.2.2.2.2.2.2.2.2.2.2.1
                      have g13 := hI.2.2.2.2.2.2.2.2.2.2.2.2.2.2.2.1
                      have g14 := hI.2.2.2.2.2.2.2.2.2.2.2.2.2.2.2.2.1
                      have g15 := hI.2.2.2.2.2.2.2.2.2.2.2.2.2.2.2.2.2.1
                      have g16 := hI.2.2.2.2.2.2.2.2.2.2.2.2.2.2.2.2.2.2.1
                      have g17 := hI.2.2.2.2.2.2.2.2.2.2.2.2.2.2.2.2.2.2.2
                      clear hI
                      simp [Region.binds] at hd
                      dsimp only at hK ⊢
                      have e1 := g1 (by simp [hd])
                      subst e1
                      have e2 := g2 (by simp [hd])
                      subst e2
                      go_wp2_with fail
                      refine (HCO.out w').mono ?_
                      rintro _ w4 ⟨rfl, hb4⟩
                      exact hK _ _ ⟨_, _, _, _, _, _, _, _, _, _, _, _, _, _, _, _, _, _, rfl, bst hb hb4, g0, g1, g2, fun _ => rfl, g4, g5, g6, g7, g8, g9, g10, g11, g12.below hb4, g13, g14, g15, g16, g17⟩
                    · intro L a w' hI hl hd K hK
                      refine hI.elim fun u90 hI => hI.elim fun u91 hI => hI.elim fun u92 hI => hI.elim fun u93 hI => hI.elim fun u94 hI => hI.elim fun u95 hI => hI.elim fun u96 hI => hI.elim fun u97 hI => hI.elim fun u98 hI => hI.elim fun u99 hI => hI.elim fun u100 hI => hI.elim fun u101 hI => hI.elim fun u102 hI => hI.elim fun u103 hI => hI.elim fun u104 hI => hI.elim fun u105 hI => hI.elim fun u106 hI => hI.elim fun u107 hI => ?_
                      have ha := hI.1
                      subst ha
                      have hb := hI.2.1
                      have g0 := hI.2.2.1
                      have g1 := hI.2.2.2.1
                      have g2 := hI.2.2.2.2.1
                      have g3 := hI.2.2.2.2.2.1
                      have g4 := hI.2.2.2.2.2.2.1
                      have g5 := hI.2.2.2.2.2.2.2.1
                      have g6 := hI.2.2.2.2.2.2.2.2.1
                      have g7 := hI.2.2.2.2.2.2.2.2.2.1
                      have g8 := hI.2.2.2.2.2.2.2.2.2.2.1
                      have g9 := hI.2.2.2.2.2.2.2.2.2.2.2.1
                      have g10 := hI.2.2.2.2.2.2.2.2.2.2.2.2.1
                      have g11 := hI.2.2.2.2.2.2.2.2.2.2.2.2.2.1
                      have g12 := hI.2.2.2.2.2.2.2.2.2.2.2.2.2.2.1
                      have g13 := hI.2.2.2.2.2.2.2.2.2.2.2.2.2.2.2.1
                      have g14 := hI.2.2.2.2.2.2.2.2.2.2.2.2.2.2.2.2.1
                      have g15 := hI.2.2.2.2.2.2.2.2.2.2.2.2.2.2.2.2.2.1
                      have g16 := hI.2.2.2.2.2.2.2.2.2.2.2.2.2.2.2.2.2.2.1
                      have g17 := hI.2.2.2.2.2.2.2.2.2.2.2.2.2.2.2.2.2.2.2
                      clear hI
                      simp [Region.binds] at hd
                      dsimp only at hK ⊢
                      have e3 := g3 (by simp [hd])
                      subst e3
                      go_simp
                      exact hK _ _ ⟨_, _, _, _, _, _, _, _, _, _, _, _, _, _, _, _, _, _, rfl, hb, g0, g1, g2, g3, fun _ => rfl, g5, g6, g7, g8, g9, g10, g11, g12, g13, g14, g15, g16, g17⟩
                    · intro L a w' hI hl hd K hK
                      refine hI.elim fun u90 hI => hI.elim fun u91 hI => hI.elim fun u92 hI => hI.elim fun u93 hI => hI.elim fun u94 hI => hI.elim fun u95 hI => hI.elim fun u96 hI => hI.elim fun u97 hI => hI.elim fun u98 hI => hI.elim fun u99 hI => hI.elim fun u100 hI => hI.elim fun u101 hI => hI.elim fun u102 hI => hI.elim fun u103 hI => hI.elim fun u104 hI => hI.elim fun u105 hI => hI.elim fun u106 hI => hI.elim fun u107 hI => ?_
                      have ha := hI.1
                      subst ha
                      have hb := hI.2.1
                      have g0 := hI.2.2.1
                      have g1 := hI.2.2.2.1
                      have g2 := hI.2.2.2.2.1
                      have g3 := hI.2.2.2.2.2.1
                      have g4 := hI.2.2.2.2.2.2.1
                      have g5 := hI.2.2.2.2.2.2.2.1
                      have g6 := hI.2.2.2.2.2.2.2.2.1
                      have g7 := hI.2.2.2.2.2.2.2.2.2.1
                      have g8 := hI.2.2.2.2.2.2.2.2.2.2.1
                      have g9 := hI.2.2.2.2.2.2.2.2.2.2.2.1
                      have g10 := hI.2.2.2.2.2.2.2.2.2.2.2.2.1
                      have g11 := hI.2.2.2.2.2.2.2.2.2.2.2.2.2.1
                      have g12 := hI.2.2.2.2.2.2.2.2.2.2.2.2.2.2.1
                      have g13 := hI.2.2.2.2.2.2.2.2.2.2.2.2.2.2.2.1
                      have g14 := hI.2.2.2.2.2.2.2.2.2.2.2.2.2.2.2.2.1
                      have g15 := hI.2.2.2.2.2.2.2.2.2.2.2.2.2.2.2.2.2.1
                      have g16 := hI.2.2.2.2.2.2.2.2.2.2.2.2.2.2.2.2.2.2.1
                      have g17 := hI.2.2.2.2.2.2.2.2.2.2.2.2.2.2.2.2.2.2.2
                      clear hI
                      simp [Region.binds] at hd
                      dsimp only at hK ⊢
                      have e4 := g4 (by simp [hd])
                      subst e4
                      go_simp
                      exact hK _ _ ⟨_, _, _, _, _, _, _, _, _, _, _, _, _, _, _, _, _, _, rfl, hb, g0, g1, g2, g3, g4, fun _ => rfl, g6, g7, g8, g9, g10, g11, g12, g13, g14, g15, g16, g17⟩
                    · intro L a w' hI hl hd K hK
                      refine hI.elim fun u90 hI => hI.elim fun u91 hI => hI.elim fun u92 hI => hI.elim fun u93 hI => hI.elim fun u94 hI => hI.elim fun u95 hI => hI.elim fun u96 hI => hI.elim fun u97 hI => hI.elim fun u98 hI => hI.elim fun u99 hI => hI.elim fun u100 hI => hI.elim fun u101 hI => hI.elim fun u102 hI => hI.elim fun u103 hI => hI.elim fun u104 hI => hI.elim fun u105 hI => hI.elim fun u106 hI => hI.elim fun u107 hI => ?_
                      have ha := hI.1
                      subst ha
                      have hb := hI.2.1
                      have g0 := hI.2.2.1
                      have g1 := hI.2.2.2.1
                      have g2 := hI.2.2.2.2.1
                      have g3 := hI.2.2.2.2.2.1
                      have g4 := hI.2.2.2.2.2.2.1
                      have g5 := hI.2.2.2.2.2.2.2.1
                      have g6 := hI.2.2.2.2.2.2.2.2.1
                      have g7 := hI.2.2.2.2.2.2.2.2.2.1
                      have g8 := hI.2.2.2.2.2.2.2.2.2.2.1
                      have g9 := hI.2.2.2.2.2.2.2.2.2.2.2.1
                      have g10 := hI.2.2.2.2.2.2.2.2.2.2.2.2.1
                      have g11 := hI.2.2.2.2.2.2.2.2.2.2.2.2.2.1
                      have g12 := hI.2.2.2.2.2.2.2.2.2.2.2.2.2.2.1
                      have g13 := hI.2.2.2.2.2.2.2.2.2.2.2.2.2.2.2.1
                      have g14 := hI.2.2.2.2.2.2.2.2.2.2.2.2.2.2.2.2.1
                      have g15 := hI.2.2.2.2.2.2.2.2.2.2.2.2.2.2.2.2.2.1
                      have g16 := hI.2.2.2.2.2.2.2.2.2.2.2.2.2.2.2.2.2.2.1
                      have g17 := hI.2.2.2.2.2.2.2.2.2.2.2.2.2.2.2.2.2.2.2
                      clear hI
                      simp [Region.binds] at hd
                      dsimp only at hK ⊢
                      have e4 := g4 (by simp [hd])
                      subst e4
                      have e5 := g5 (by simp [hd])
                      subst e5
                      have bb := VE.out.below hb VE.out.lt
                      have c2 := bb.cell 2
                      simp only [List.getElem?_toArray, List.getElem?_cons_zero, List.getElem?_cons_succ] at c2
                      clear bb
                      go_simp
                      exact hK _ _ ⟨_, _, _, _, _, _, _, _, _, _, _, _, _, _, _, _, _, _, rfl, hb, g0, g1, g2, g3, g4, g5, fun _ => rfl, g7, g8, g9, g10, g11, g12, g13, g14, g15, g16, g17⟩
                    · intro L a w' hI hl hd K hK
                      refine hI.elim fun u90 hI => hI.elim fun u91 hI => hI.elim fun u92 hI => hI.elim fun u93 hI => hI.elim fun u94 hI => hI.elim fun u95 hI => hI.elim fun u96 hI => hI.elim fun u97 hI => hI.elim fun u98 hI => hI.elim fun u99 hI => hI.elim fun u100 hI => hI.elim fun u101 hI => hI.elim fun u102 hI => hI.elim fun u103 hI => hI.elim fun u104 hI => hI.elim fun u105 hI => hI.elim fun u106 hI => hI.elim fun u107 hI => ?_
                      have ha := hI.1
                      subst ha
                      have hb := hI.2.1
                      have g0 := hI.2.2.1
                      have g1 := hI.2.2.2.1
                      have g2 := hI.2.2.2.2.1
                      have g3 := hI.2.2.2.2.2.1
                      have g4 := hI.2.2.2.2.2.2.1
                      have g5 := hI.2.2.2.2.2.2.2.1
                      have g6 := hI.2.2.2.2.2.2.2.2.1
                      have g7 := hI.2.2.2.2.2.2.2.2.2.1
                      have g8 := hI.2.2.2.2.2.2.2.2.2.2.1
                      have g9 := hI.2.2.2.2.2.2.2.2.2.2.2.1
                      have g10 := hI.2.2.2.2.2.2.2.2.2.2.2.2.1
                      have g11 := hI.2.2.2.2.2.2.2.2.2.2.2.2.2.1
                      have g12 := hI.2.2.2.2.2.2.2.2.2.2.2.2.2.2.1
                      have g13 := hI.2.2.2.2.2.2.2.2.2.2.2.2.2.2.2.1
                      have g14 := hI.2.2.2.2.2.2.2.2.2.2.2.2.2.2.2.2.1
                      have g15 := hI.2.2.2.2.2.2.2.2.2.2.2.2.2.2.2.2.2.1
                      have g16 := hI.2.2.2.2.2.2.2.2.2.2.2.2.2.2.2.2.2.2.1
                      have g17 := hI.2.2.2.2.2.2.2.2.2.2.2.2.2.2.2.2.2.2.2
                      clear hI
                      simp [Region.binds] at hd
                      dsimp only at hK ⊢
                      have e4 := g4 (by simp [hd])
                      subst e4
                      go_simp
                      exact hK _ _ ⟨_, _, _, _, _, _, _, _, _, _, _, _, _, _, _, _, _, _, rfl, hb, g0, g1, g2, g3, g4, g5, g6, fun _ => rfl, g8, g9, g10, g11, g12, g13, g14, g15, g16, g17⟩
                    · intro L a w' hI hl hd K hK
                      refine hI.elim fun u90 hI => hI.elim fun u91 hI => hI.elim fun u92 hI => hI.elim fun u93 hI => hI.elim fun u94 hI => hI.elim fun u95 hI => hI.elim fun u96 hI => hI.elim fun u97 hI => hI.elim fun u98 hI => hI.elim fun u99 hI => hI.elim fun u100 hI => hI.elim fun u101 hI => hI.elim fun u102 hI => hI.elim fun u103 hI => hI.elim fun u104 hI => hI.elim fun u105 hI => hI.elim fun u106 hI => hI.elim fun u107 hI => ?_
                      have ha := hI.1
                      subst ha
                      have hb := hI.2.1
                      have g0 := hI.2.2.1
                      have g1 := hI.2.2.2.1
                      have g2 := hI.2.2.2.2.1
                      have g3 := hI.2.2.2.2.2.1
                      have g4 := hI.2.2.2.2.2.2.1
                      have g5 := hI.2.2.2.2.2.2.2.1
                      have g6 := hI.2.2.2.2.2.2.2.2.1
                      have g7 := hI.2.2.2.2.2.2.2.2.2.1
                      have g8 := hI.2.2.2.2.2.2.2.2.2.2.1
                      have g9 := hI.2.2.2.2.2.2.2.2.2.2.2.1
                      have g10 := hI.2.2.2.2.2.2.2.2.2.2.2.2.1
                      have g11 := hI.2.2.2.2.2.2.2.2.2.2.2.2.2.1
                      have g12 := hI.2.2.2.2.2.2.2.2.2.2.2.2.2.2.1
                      have g13 := hI.2.2.2.2.2.2.2.2.2.2.2.2.2.2.2.1
                      have g14 := hI.2.2.2.2.2.2.2.2.2.2.2.2.2.2.2.2.1
                      have g15 := hI.2.2.2.2.2.2.2.2.2.2.2.2.2.2.2.2.2.1
                      have g16 := hI.2.2.2.2.2.2.2.2.2.2.2.2.2.2.2.2.2.2.1
                      have g17 := hI.2.2.2.2.2.2.2.2.2.2.2.2.2.2.2.2.2.2.2
                      clear hI
                      simp [Region.binds] at hd
                      dsimp only at hK ⊢
                      have e4 := g4 (by simp [hd])
                      subst e4
                      have e6 := g6 (by simp [hd])
                      subst e6
                      have e7 := g7 (by simp [hd])
                      subst e7
                      go_simp
                      exact hK _ _ ⟨_, _, _, _, _, _, _, _, _, _, _, _, _, _, _, _, _, _, rfl, hb, g0, g1, g2, g3, g4, g5, g6, g7, fun _ => rfl, g9, g10, g11, g12, g13, g14, g15, g16, g17⟩
                    · intro L a w' hI hl hd K hK
                      refine hI.elim fun u90 hI => hI.elim fun u91 hI => hI.elim fun u92 hI => hI.elim fun u93 hI => hI.elim fun u94 hI => hI.elim fun u95 hI => hI.elim fun u96 hI => hI.elim fun u97 hI => hI.elim fun u98 hI => hI.elim fun u99 hI => hI.elim fun u100 hI => hI.elim fun u101 hI => hI.elim fun u102 hI => hI.elim fun u103 hI => hI.elim fun u104 hI => hI.elim fun u105 hI => hI.elim fun u106 hI => hI.elim fun u107 hI => ?_
                      have ha := hI.1
                      subst ha
                      have hb := hI.2.1
                      have g0 := hI.2.2.1
                      have g1 := hI.2.2.2.1
                      have g2 := hI.2.2.2.2.1
                      have g3 := hI.2.2.2.2.2.1
                      have g4 := hI.2.2.2.2.2.2.1
                      have g5 := hI.2.2.2.2.2.2.2.1
                      have g6 := hI.2.2.2.2.2.2.2.2.1
                      have g7 := hI.2.2.2.2.2.2.2.2.2.1
                      have g8 := hI.2.2.2.2.2.2.2.2.2.2.1
                      have g9 := hI.2.2.2.2.2.2.2.2.2.2.2.1
                      have g10 := hI.2.2.2.2.2.2.2.2.2.2.2.2.1
                      have g11 := hI.2.2.2.2.2.2.2.2.2.2.2.2.2.1
                      have g12 := hI.2.2.2.2.2.2.2.2.2.2.2.2.2.2.1
                      have g13 := hI.2.2.2.2.2.2.2.2.2.2.2.2.2.2.2.1
                      have g14 := hI.2.2.2.2.2.2.2.2.2.2.2.2.2.2.2.2.1
                      have g15 := hI.2.2.2.2.2.2.2.2.2.2.2.2.2.2.2.2.2.1
                      have g16 := hI.2.2.2.2.2.2.2.2.2.2.2.2.2.2.2.2.2.2.1
                      have g17 := hI.2.2.2.2.2.2.2.2.2.2.2.2.2.2.2.2.2.2.2
                      clear hI
                      simp [Region.binds] at hd
                      dsimp only at hK ⊢
                      have e4 := g4 (by simp [hd])
                      subst e4
                      have e8 := g8 (by simp [hd])
                      subst e8
                      go_simp
                      exact hK _ _ ⟨_, _, _, _, _, _, _, _, _, _, _, _, _, _, _, _, _, _, rfl, hb, g0, g1, g2, g3, g4, g5, g6, g7, g8, fun _ => rfl, g10, g11, g12, g13, g14, g15, g16, g17⟩
                    · intro L a w' hI hl hd K hK
                      refine hI.elim fun u90 hI => hI.elim fun u91 hI => hI.elim fun u92 hI => hI.elim fun u93 hI => hI.elim fun u94 hI => hI.elim fun u95 hI => hI.elim fun u96 hI => hI.elim fun u97 hI => hI.elim fun u98 hI => hI.elim fun u99 hI => hI.elim fun u100 hI => hI.elim fun u101 hI => hI.elim fun u102 hI => hI.elim fun u103 hI => hI.elim fun u104 hI => hI.elim fun u105 hI => hI.elim fun u106 hI => hI.elim fun u107 hI => ?_
                      have ha := hI.1
                      subst ha
                      have hb := hI.2.1
                      have g0 := hI.2.2.1
                      have g1 := hI.2.2.2.1
                      have g2 := hI.2.2.2.2.1
                      have g3 := hI.2.2.2.2.2.1
                      have g4 := hI.2.2.2.2.2.2.1
                      have g5 := hI.2.2.2.2.2.2.2.1
                      have g6 := hI.2.2.2.2.2.2.2.2.1
                      have g7 := hI.2.2.2.2.2.2.2.2.2.1
                      have g8 := hI.2.2.2.2.2.2.2.2.2.2.1
                      have g9 := hI.2.2.2.2.2.2.2.2.2.2.2.1
                      have g10 := hI.2.2.2.2.2.2.2.2.2.2.2.2.1
                      have g11 := hI.2.2.2.2.2.2.2.2.2.2.2.2.2.1
                      have g12 := hI.2.2.2.2.2.2.2.2.2.2.2.2.2.2.1
                      have g13 := hI.2.2.2.2.2.2.2.2.2.2.2.2.2.2.2.1
                      have g14 := hI.2.2.2.2.2.2.2.2.2.2.2.2.2.2.2.2.1
                      have g15 := hI.2.2.2.2.2.2.2.2.2.2.2.2.2.2.2.2.2.1
                      have g16 := hI.2.2.2.2.2.2.2.2.2.2.2.2.2.2.2.2.2.2.1
                      have g17 := hI.2.2.2.2.2.2.2.2.2.2.2.2.2.2.2.2.2.2.2
                      clear hI
                      simp [Region.binds] at hd
                      dsimp only at hK ⊢
                      have e9 := g9 (by simp [hd])
                      subst e9
                      go_simp
                      exact hK _ _ ⟨_, _, _, _, _, _, _, _, _, _, _, _, _, _, _, _, _, _, rfl, hb, g0, g1, g2, g3, g4, g5, g6, g7, g8, g9, fun _ => rfl, g11, g12, g13, g14, g15, g16, g17⟩
                    · intro L a w' hI hl hd K hK
                      refine hI.elim fun u90 hI => hI.elim fun u91 hI => hI.elim fun u92 hI => hI.elim fun u93 hI => hI.elim fun u94 hI => hI.elim fun u95 hI => hI.elim fun u96 hI => hI.elim fun u97 hI => hI.elim fun u98 hI => hI.elim fun u99 hI => hI.elim fun u100 hI => hI.elim fun u101 hI => hI.elim fun u102 hI => hI.elim fun u103 hI => hI.elim fun u104 hI => hI.elim fun u105 hI => hI.elim fun u106 hI => hI.elim fun u107 hI => ?_
                      have ha := hI.1
                      subst ha
                      have hb := hI.2.1
                      have g0 := hI.2.2.1
                      have g1 := hI.2.2.2.1
                      have g2 := hI.2.2.2.2.1
                      have g3 := hI.2.2.2.2.2.1
                      have g4 := hI.2.2.2.2.2.2.1
                      have g5 := hI.2.2.2.2.2.2.2.1
                      have g6 := hI.2.2.2.2.2.2.2.2.1
                      have g7 := hI.2.2.2.2.2.2.2.2.2.1
                      have g8 := hI.2.2.2.2.2.2.2.2.2.2.1
                      have g9 := hI.2.2.2.2.2.2.2.2.2.2.2.1
                      have g10 := hI.2.2.2.2.2.2.2.2.2.2.2.2.1
                      have g11 := hI.2.2.2.2.2.2.2.2.2.2.2.2.2.1
                      have g12 := hI.2.2.2.2.2.2.2.2.2.2.2.2.2.2.1
                      have g13 := hI.2.2.2.2.2.2.2.2.2.2.2.2.2.2.2.1
                      have g14 := hI.2.2.2.2.2.2.2.2.2.2.2.2.2.2.2.2.1
                      have g15 := hI.2.2.2.2.2.2.2.2.2.2.2.2.2.2.2.2.2.1
                      have g16 := hI.2.2.2.2.2.2.2.2.2.2.2.2.2.2.2.2.2.2.1
                      have g17 := hI.2.2.2.2.2.2.2.2.2.2.2.2.2.2.2.2.2.2.2
                      clear hI
                      simp [Region.binds] at hd
                      dsimp only at hK ⊢
                      have e10 := g10 (by simp [hd])
                      subst e10
                      have bb := VE.out.below hb VE.out.lt
                      have c0 := bb.cell 0
                      have c1 := bb.cell 1
                      have c2 := bb.cell 2
                      have c3 := bb.cell 3
                      have c4 := bb.cell 4
                      have c5 := bb.cell 5
                      have c6 := bb.cell 6
                      have c7 := bb.cell 7
                      have c8 := bb.cell 8
                      have c9 := bb.cell 9
                      have c10 := bb.cell 10
                      have c11 := bb.cell 11
                      simp only [List.getElem?_toArray, List.getElem?_cons_zero, List.getElem?_cons_succ] at c0 c1 c2 c3 c4 c5 c6 c7 c8 c9 c10 c11
                      clear bb
                      go_simp
                      exact hK _ _ ⟨_, _, _, _, _, _, _, _, _, _, _, _, _, _, _, _, _, _, rfl, hb, g0, g1, g2, g3, g4, g5, g6, g7, g8, g9, g10, fun _ => rfl, g12, g13, g14, g15, g16, g17⟩
                    · intro L a w' hI hl hd K hK
                      refine hI.elim fun u90 hI => hI.elim fun u91 hI => hI.elim fun u92 hI => hI.elim fun u93 hI => hI.elim fun u94 hI => hI.elim fun u95 hI => hI.elim fun u96 hI => hI.elim fun u97 hI => hI.elim fun u98 hI => hI.elim fun u99 hI => hI.elim fun u100 hI => hI.elim fun u101 hI => hI.elim fun u102 hI => hI.elim fun u103 hI => hI.elim fun u104 hI => hI.elim fun u105 hI => hI.elim fun u106 hI => hI.elim fun u107 hI => ?_
                      have ha := hI.1
                      subst ha
                      have hb := hI.2.1
                      have g0 := hI.2.2.1
                      have g1 := hI.2.2.2.1
                      have g2 := hI.2.2.2.2.1
                      have g3 := hI.2.2.2.2.2.1
                      have g4 := hI.2.2.2.2.2.2.1
                      have g5 := hI.2.2.2.2.2.2.2.1
                      have g6 := hI.2.2.2.2.2.2.2.2.1
                      have g7 := hI.2.2.2.2.2.2.2.2.2.1
                      have g8 := hI.2.2.2.2.2.2.2.2.2.2.1
                      have g9 := hI.2.2.2.2.2.2.2.2.2.2.2.1
                      have g10 := hI.2.2.2.2.2.2.2.2.2.2.2.2.1
                      have g11 := hI.2.2.2.2.2.2.2.2.2.2.2.2.2.1
                      have g12 := hI.2.2.2.2.2.2.2.2.2.2.2.2.2.2.1
                      have g13 := hI.2.2.2.2.2.2.2.2.2.2.2.2.2.2.2.1
                      have g14 := hI.2.2.2.2.2.2.2.2.2.2.2.2.2.2.2.2.1
                      have g15 := hI.2.2.2.2.2.2.2.2.2.2.2.2.2.2.2.2.2.1
                      have g16 := hI.2.2.2.2.2.2.2.2.2.2.2.2.2.2.2.2.2.2.1
                      have g17 := hI.2.2.2.2.2.2.2.2.2.2.2.2.2.2.2.2.2.2.2
                      clear hI
                      simp [Region.binds] at hd
                      dsimp only at hK ⊢
                      have e10 := g10 (by simp [hd])
                      subst e10
                      have e11 := g11 (by simp [hd])
                      subst e11
                      go_simp
                      exact hK _ _ ⟨_, _, _, _, _, _, _, _, _, _, _, _, _, _, _, _, _, _, rfl, hb.alloc hb.size _, g0, g1, g2, g3, g4, g5, g6, g7, g8, g9, g10, g11, fun _ => ⟨_, rfl, hb.size, Blk.new _ _ _⟩, g13, g14, g15, g16, g17⟩
                    · intro L a w' hI hl hd K hK
                      refine hI.elim fun u90 hI => hI.elim fun u91 hI => hI.elim fun u92 hI => hI.elim fun u93 hI => hI.elim fun u94 hI => hI.elim fun u95 hI => hI.elim fun u96 hI => hI.elim fun u97 hI => hI.elim fun u98 hI => hI.elim fun u99 hI => hI.elim fun u100 hI => hI.elim fun u101 hI => hI.elim fun u102 hI => hI.elim fun u103 hI => hI.elim fun u104 hI => hI.elim fun u105 hI => hI.elim fun u106 hI => hI.elim fun u107 hI => ?_
                      have ha := hI.1
                      subst ha
                      have hb := hI.2.1
                      have g0 := hI.2.2.1
                      have g1 := hI.2.2.2.1
                      have g2 := hI.2.2.2.2.1
                      have g3 := hI.2.2.2.2.2.1
                      have g4 := hI.2.2.2.2.2.2.1
                      have g5 := hI.2.2.2.2.2.2.2.1
                      have g6 := hI.2.2.2.2.2.2.2.2.1
                      have g7 := hI.2.2.2.2.2.2.2.2.2.1
                      have g8 := hI.2.2.2.2.2.2.2.2.2.2.1
                      have g9 := hI.2.2.2.2.2.2.2.2.2.2.2.1
                      have g10 := hI.2.2.2.2.2.2.2.2.2.2.2.2.1
                      have g11 := hI.2.2.2.2.2.2.2.2.2.2.2.2.2.1
                      have g12 := hI.2.2.2.2.2.2.2.2.2.2.2.2.2.2.1
                      have g13 := hI.2.2.2.2.2.2.2.2.2.2.2.2.2.2.2.1
                      have g14 := hI.2.2.2.2.2.2.2.2.2.2.2.2.2.2.2.2.1
                      have g15 := hI.2.2.2.2.2.2.2.2.2.2.2.2.2.2.2.2.2.1
                      have g16 := hI.2.2.2.2.2.2.2.2.2.2.2.2.2.2.2.2.2.2.1
                      have g17 := hI.2.2.2.2.2.2.2.2.2.2.2.2.2.2.2.2.2.2.2
                      clear hI
                      simp [Region.binds] at hd
                      dsimp only at hK ⊢
                      have e10 := g10 (by simp [hd])
                      subst e10
                      go_simp
                      exact hK _ _ ⟨_, _, _, _, _, _, _, _, _, _, _, _, _, _, _, _, _, _, rfl, hb, g0, g1, g2, g3, g4, g5, g6, g7, g8, g9, g10, g11, g12, fun _ => rfl, g14, g15, g16, g17⟩
                    · intro L a w' hI hl hd K hK
                      refine hI.elim fun u90 hI => hI.elim fun u91 hI => hI.elim fun u92 hI => hI.elim fun u93 hI => hI.elim fun u94 hI => hI.elim fun u95 hI => hI.elim fun u96 hI => hI.elim fun u97 hI => hI.elim fun u98 hI => hI.elim fun u99 hI => hI.elim fun u100 hI => hI.elim fun u101 hI => hI.elim fun u102 hI => hI.elim fun u103 hI => hI.elim fun u104 hI => hI.elim fun u105 hI => hI.elim fun u106 hI => hI.elim fun u107 hI => ?_
                      have ha := hI.1
                      subst ha
                      have hb := hI.2.1
                      have g0 := hI.2.2.1
                      have g1 := hI.2.2.2.1
                      have g2 := hI.2.2.2.2.1
                      have g3 := hI.2.2.2.2.2.1
                      have g4 := hI.2.2.2.2.2.2.1
                      have g5 := hI.2.2.2.2.2.2.2.1
                      have g6 := hI.2.2.2.2.2.2.2.2.1
                      have g7 := hI.2.2.2.2.2.2.2.2.2.1
                      have g8 := hI.2.2.2.2.2.2.2.2.2.2.1
                      have g9 := hI.2.2.2.2.2.2.2.2.2.2.2.1
                      have g10 := hI.2.2.2.2.2.2.2.2.2.2.2.2.1
                      have g11 := hI.2.2.2.2.2.2.2.2.2.2.2.2.2.1
                      have g12 := hI.2.2.2.2.2.2.2.2.2.2.2.2.2.2.1
                      have g13 := hI.2.2.2.2.2.2.2.2.2.2.2.2.2.2.2.1
                      have g14 := hI.2.2.2.2.2.2.2.2.2.2.2.2.2.2.2.2.1
                      have g15 := hI.2.2.2.2.2.2.2.2.2.2.2.2.2.2.2.2.2.1
                      have g16 := hI.2.2.2.2.2.2.2.2.2.2.2.2.2.2.2.2.2.2.1
                      have g17 := hI.2.2.2.2.2.2.2.2.2.2.2.2.2.2.2.2.2.2.2
                      clear hI
                      simp [Region.binds] at hd
                      dsimp only at hK ⊢
                      have e10 := g10 (by simp [hd])
                      subst e10
                      have e13 := g13 (by simp [hd])
                      subst e13
                      obtain ⟨A, e33, hA, hB⟩ := g12 (by simp [hd])
                      subst e33
                      have HC1 := Lib.hid (chosen28_any (.slice (some ⟨A, 0, none⟩) 1 1) (.slice A2 m cK) [e] KS w' (show Sl w' 12 _ 1 (ents [e]) from ents_blk1 hB) (show Sl w' 1 _ KS.length _ by rw [HKR.out]; exact VK.out.below hb) (by simp) (by rw [HKR.out]; omega))
                      rw [HGN.out.1] at HC1
                      go_wp2_with fail
                      refine HC1.out.mono ?_
                      rintro _ w4 ⟨v4, rfl, hb4, ho4⟩
                      obtain ⟨A4, c4, rfl, _, _⟩ := (Sl.of_own ho4).form
                      exact hK _ _ ⟨_, _, _, _, _, _, _, _, _, _, _, _, _, _, _, _, _, _, rfl, bst hb hb4, g0, g1, g2, g3, g4, g5, g6, g7, g8, g9, g10, g11, fun _ => ⟨A, rfl, hA, hB.below hb4 hB.lt⟩, g13, fun _ => ⟨_, _, rfl⟩, g15, g16, g17⟩
                    · intro L a w' hI hl hd K hK
                      refine hI.elim fun u90 hI => hI.elim fun u91 hI => hI.elim fun u92 hI => hI.elim fun u93 hI => hI.elim fun u94 hI => hI.elim fun u95 hI => hI.elim fun u96 hI => hI.elim fun u97 hI => hI.elim fun u98 hI => hI.elim fun u99 hI => hI.elim fun u100 hI => hI.elim fun u101 hI => hI.elim fun u102 hI => hI.elim fun u103 hI => hI.elim fun u104 hI => hI.elim fun u105 hI => hI.elim fun u106 hI => hI.elim fun u107 hI => ?_
                      have ha := hI.1
                      subst ha
                      have hb := hI.2.1
                      have g0 := hI.2.2.1
                      have g1 := hI.2.2.2.1
                      have g2 := hI.2.2.2.2.1
                      have g3 := hI.2.2.2.2.2.1
                      have g4 := hI.2.2.2.2.2.2.1
                      have g5 := hI.2.2.2.2.2.2.2.1
                      have g6 := hI.2.2.2.2.2.2.2.2.1
                      have g7 := hI.2.2.2.2.2.2.2.2.2.1
                      have g8 := hI.2.2.2.2.2.2.2.2.2.2.1
                      have g9 := hI.2.2.2.2.2.2.2.2.2.2.2.1
                      have g10 := hI.2.2.2.2.2.2.2.2.2.2.2.2.1
                      have g11 := hI.2.2.2.2.2.2.2.2.2.2.2.2.2.1
                      have g12 := hI.2.2.2.2.2.2.2.2.2.2.2.2.2.2.1
                      have g13 := hI.2.2.2.2.2.2.2.2.2.2.2.2.2.2.2.1
                      have g14 := hI.2.2.2.2.2.2.2.2.2.2.2.2.2.2.2.2.1
                      have g15 := hI.2.2.2.2.2.2.2.2.2.2.2.2.2.2.2.2.2.1
                      have g16 := hI.2.2.2.2.2.2.2.2.2.2.2.2.2.2.2.2.2.2.1
                      have g17 := hI.2.2.2.2.2.2.2.2.2.2.2.2.2.2.2.2.2.2.2
                      clear hI
                      simp [Region.binds] at hd
                      dsimp only at hK ⊢
                      have e10 := g10 (by simp [hd])
                      subst e10
                      obtain ⟨A4, c4, e4⟩ := g14 (by simp [hd])
                      subst e4
                      go_simp
                      exact hK _ _ ⟨_, _, _, _, _, _, _, _, _, _, _, _, _, _, _, _, _, _, rfl, hb, g0, g1, g2, g3, g4, g5, g6, g7, g8, g9, g10, g11, g12, g13, fun _ => ⟨_, _, rfl⟩, fun _ => rfl, g16, g17⟩
                    · intro L a w' hI hl hd K hK
                      refine hI.elim fun u90 hI => hI.elim fun u91 hI => hI.elim fun u92 hI => hI.elim fun u93 hI => hI.elim fun u94 hI => hI.elim fun u95 hI => hI.elim fun u96 hI => hI.elim fun u97 hI => hI.elim fun u98 hI => hI.elim fun u99 hI => hI.elim fun u100 hI => hI.elim fun u101 hI => hI.elim fun u102 hI => hI.elim fun u103 hI => hI.elim fun u104 hI => hI.elim fun u105 hI => hI.elim fun u106 hI => hI.elim fun u107 hI => ?_
                      have ha := hI.1
                      subst ha
                      have hb := hI.2.1
                      have g0 := hI.2.2.1
                      have g1 := hI.2.2.2.1
                      have g2 := hI.2.2.2.2.1
                      have g3 := hI.2.2.2.2.2.1
                      have g4 := hI.2.2.2.2.2.2.1
                      have g5 := hI.2.2.2.2.2.2.2.1
                      have g6 := hI.2.2.2.2.2.2.2.2.1
                      have g7 := hI.2.2.2.2.2.2.2.2.2.1
                      have g8 := hI.2.2.2.2.2.2.2.2.2.2.1
                      have g9 := hI.2.2.2.2.2.2.2.2.2.2.2.1
                      have g10 := hI.2.2.2.2.2.2.2.2.2.2.2.2.1
                      have g11 := hI.2.2.2.2.2.2.2.2.2.2.2.2.2.1
                      have g12 := hI.2.2.2.2.2.2.2.2.2.2.2.2.2.2.1
                      have g13 := hI.2.2.2.2.2.2.2.2.2.2.2.2.2.2.2.1
                      have g14 := hI.2.2.2.2.2.2.2.2.2.2.2.2.2.2.2.2.1
                      have g15 := hI.2.2.2.2.2.2.2.2.2.2.2.2.2.2.2.2.2.1
                      have g16 := hI.2.2.2.2.2.2.2.2.2.2.2.2.2.2.2.2.2.2.1
                      have g17 := hI.2.2.2.2.2.2.2.2.2.2.2.2.2.2.2.2.2.2.2
                      clear hI
                      simp [Region.binds] at hd
                      dsimp only at hK ⊢
                      have e10 := g10 (by simp [hd])
                      subst e10
                      have e15 := g15 (by simp [hd])
                      subst e15
                      go_simp
                      exact hK _ _ ⟨_, _, _, _, _, _, _, _, _, _, _, _, _, _, _, _, _, _, rfl, hb, g0, g1, g2, g3, g4, g5, g6, g7, g8, g9, g10, g11, g12, g13, g14, g15, fun _ => rfl, g17⟩
                    · intro L a w' hI hl hd K hK
                      refine hI.elim fun u90 hI => hI.elim fun u91 hI => hI.elim fun u92 hI => hI.elim fun u93 hI => hI.elim fun u94 hI => hI.elim fun u95 hI => hI.elim fun u96 hI => hI.elim fun u97 hI => hI.elim fun u98 hI => hI.elim fun u99 hI => hI.elim fun u100 hI => hI.elim fun u101 hI => hI.elim fun u102 hI => hI.elim fun u103 hI => hI.elim fun u104 hI => hI.elim fun u105 hI => hI.elim fun u106 hI => hI.elim fun u107 hI => ?_
                      have ha := hI.1
                      subst ha
                      have hb := hI.2.1
                      have g0 := hI.2.2.1
                      have g1 := hI.2.2.2.1
                      have g2 := hI.2.2.2.2.1
                      have g3 := hI.2.2.2.2.2.1
                      have g4 := hI.2.2.2.2.2.2.1
                      have g5 := hI.2.2.2.2.2.2.2.1
                      have g6 := hI.2.2.2.2.2.2.2.2.1
                      have g7 := hI.2.2.2.2.2.2.2.2.2.1
                      have g8 := hI.2.2.2.2.2.2.2.2.2.2.1
                      have g9 := hI.2.2.2.2.2.2.2.2.2.2.2.1
                      have g10 := hI.2.2.2.2.2.2.2.2.2.2.2.2.1
                      have g11 := hI.2.2.2.2.2.2.2.2.2.2.2.2.2.1
                      have g12 := hI.2.2.2.2.2.2.2.2.2.2.2.2.2.2.1
                      have g13 := hI.2.2.2.2.2.2.2.2.2.2.2.2.2.2.2.1
                      have g14 := hI.2.2.2.2.2.2.2.2.2.2.2.2.2.2.2.2.1
                      have g15 := hI.2.2.2.2.2.2.2.2.2.2.2.2.2.2.2.2.2.1
                      have g16 := hI.2.2.2.2.2.2.2.2.2.2.2.2.2.2.2.2.2.2.1
                      have g17 := hI.2.2.2.2.2.2.2.2.2.2.2.2.2.2.2.2.2.2.2
                      clear hI
                      simp [Region.binds] at hd
                      dsimp only at hK ⊢
                      have e10 := g10 (by simp [hd])
                      subst e10
                      have e16 := g16 (by simp [hd])
                      subst e16
                      go_simp
                      exact hK _ _ ⟨_, _, _, _, _, _, _, _, _, _, _, _, _, _, _, _, _, _, rfl, hb, g0, g1, g2, g3, g4, g5, g6, g7, g8, g9, g10, g11, g12, g13, g14, g15, g16, fun _ => rfl⟩
                  intro a w3 hI
                  refine hI.elim fun u90 hI => hI.elim fun u91 hI => hI.elim fun u92 hI => hI.elim fun u93 hI => hI.elim fun u94 hI => hI.elim fun u95 hI => hI.elim fun u96 hI => hI.elim fun u97 hI => hI.elim fun u98 hI => hI.elim fun u99 hI => hI.elim fun u100 hI => hI.elim fun u101 hI => hI.elim fun u102 hI => hI.elim fun u103 hI => hI.elim fun u104 hI => hI.elim fun u105 hI => hI.elim fun u106 hI => hI.elim fun u107 hI => ?_
                  have ha := hI.1
                  subst ha
                  have hb := hI.2.1
                  have g0 := hI.2.2.1
                  have g1 := hI.2.2.2.1
                  have g2 := hI.2.2.2.2.1
                  have g3 := hI.2.2.2.2.2.1
                  have g4 := hI.2.2.2.2.2.2.1
                  have g5 := hI.2.2.2.2.2.2.2.1
                  have g6 := hI.2.2.2.2.2.2.2.2.1
                  have g7 := hI.2.2.2.2.2.2.2.2.2.1
                  have g8 := hI.2.2.2.2.2.2.2.2.2.2.1
                  have g9 := hI.2.2.2.2.2.2.2.2.2.2.2.1
                  have g10 := hI.2.2.2.2.2.2.2.2.2.2.2.2.1
                  have g11 := hI.2.2.2.2.2.2.2.2.2.2.2.2.2.1
                  have g12 := hI.2.2.2.2.2.2.2.2.2.2.2.2.2.2.1
                  have g13 := hI.2.2.2.2.2.2.2.2.2.2.2.2.2.2.2.1
                  have g14 := hI.2.2.2.2.2.2.2.2.2.2.2.2.2.2.2.2.1
                  have g15 := hI.2.2.2.2.2.2.2.2.2.2.2.2.2.2.2.2.2.1
                  have g16 := hI.2.2.2.2.2.2.2.2.2.2.2.2.2.2.2.2.2.2.1
                  have g17 := hI.2.2.2.2.2.2.2.2.2.2.2.2.2.2.2.2.2.2.2
                  clear hI
                  have e17 := g17 rfl
                  subst e17
                  have HX := Lib.hid hb
                  clear g0 g1 g2 g3 g4 g5 g6 g7 g8 g9 g10 g11 g12 g13 g14 g15 g16 g17 hb
                  go_wp2
                  go_meet
                  exact ⟨rfl, HX.out⟩
                · have q5 : decide (e.live < mx) = false := by simpa using hlv
                  clear hlv HGN
                  refine wp_region_inv (by kernel_rfl) (by kernel_rfl) (fun L a w' => ∃ u90 u91 u92 u93 u94 u95 u96 u97 u98 u99 u100 u101 u102 u103 u104 u105 u106 u107 : Value, a = ⟨#[.slice A0 zs.length c0, .int .i64 a1, .int .i64 a2, undef, undef, undef, u6, .slice (some ad) l.length cL, .int .i64 d, .int .i64 u, .slice A2 m cK, .slice A5 m cC, .pointer (some ⟨N, 0, none⟩), .bool true, .int .i64 mx, u15, u16, undef, .pointer (some ⟨N5, 0, none⟩), .slice A0 zs.length c0, .slice (some ad) l.length cL, .int .i64 a1, .int .i64 x, .int .i64 d, .int .i64 a2, .int .i64 y, .int .i64 u, .slice (some ad) l.length cL, .int .i64 d, .int .i64 u, .slice A2 m cK, .slice (some ad) l.length cL, .slice A3 LR.length c3, .int .i64 D, .int .i64 d, .bool false, undef, undef, undef, undef, undef, undef, .slice (some ad) l.length cL, .slice A2 m cK, .slice A5 m cC, .tuple #[.agg #[.bool P.null, .int .i64 P.n, .string P.s, .int .i64 P.seq], .bool true], .slice (some ad) l.length cL, .slice A6 LR.length c6, .tuple #[.agg #[.bool P.null, .int .i64 P.n, .string P.s, .int .i64 P.seq], .bool true], .agg #[.bool P.null, .int .i64 P.n, .string P.s, .int .i64 P.seq], .bool true, .slice A5 m cC, .int .i64 m, .int .i64 m, .bool false, u55, u56, u57, u58, u59, u60, u61, u62, u63, u64, u65, u66, u67, u68, u69, u70, u71, u72, u73, u74, u75, u76, u77, u78, u79, u80, u81, u82, u83, .slice (some ad) l.length cL, .int .i64 l.length, .int .i64 n, .bool true, .pointer (some pe), .agg #[.int .i64 e.id, .int .i64 e.rows, .int .i64 e.live, .bool e.lo.null, .int .i64 e.lo.n, .string e.lo.s, .int .i64 e.lo.seq, .bool e.hi.null, .int .i64 e.hi.n, .string e.hi.s, .int .i64 e.hi.seq, .int .i64 e.del], u90, u91, u92, u93, u94, u95, u96, u97, u98, u99, u100, u101, u102, u103, u104, u105, u106, u107, u108, undef, undef, undef, undef, undef, undef, undef, undef, undef, undef, undef, undef, undef, undef, undef, undef, undef, undef, undef], []⟩ ∧
                      Below V.heap.size V w' ∧ Got (L 0) u90 (.agg #[.int .i64 e.id, .int .i64 e.rows, .int .i64 e.live, .bool e.lo.null, .int .i64 e.lo.n, .string e.lo.s, .int .i64 e.lo.seq, .bool e.hi.null, .int .i64 e.hi.n, .string e.hi.s, .int .i64 e.hi.seq, .int .i64 e.del]) ∧ Got (L 1) u91 (.agg #[.bool e.lo.null, .int .i64 e.lo.n, .string e.lo.s, .int .i64 e.lo.seq, .bool e.hi.null, .int .i64 e.hi.n, .string e.hi.s, .int .i64 e.hi.seq]) ∧ Got (L 2) u92 (.agg #[.bool P.null, .int .i64 P.n, .string P.s, .int .i64 P.seq]) ∧ Got (L 3) u93 (.bool true) ∧ Got (L 4) u94 (.bool true) ∧ Got (L 5) u95 (.pointer (some ⟨N5, 2, none⟩)) ∧ Got (L 6) u96 (.int .i64 e.live) ∧ Got (L 7) u97 (.int .i64 mx) ∧ Got (L 8) u98 (.bool false) ∧ Got (L 9) u99 (.bool false) ∧ Got (L 10) u100 (.bool false) ∧ Got (L 11) u101 undef ∧ Got (L 12) u102 undef ∧ Got (L 13) u103 undef ∧ Got (L 14) u104 undef ∧ Got (L 15) u105 undef ∧ Got (L 16) u106 undef ∧ Got (L 17) u107 (.bool false))
                    ?_ ?_ ?_
                  · exact ⟨_, _, _, _, _, _, _, _, _, _, _, _, _, _, _, _, _, _, rfl, (Below.refl _ _).drew, nofun, nofun, nofun, nofun, nofun, nofun, nofun, nofun, nofun, nofun, nofun, nofun, nofun, nofun, nofun, nofun, nofun, nofun⟩
                  · refine ⟨?_, ?_, ?_, ?_, ?_, ?_, ?_, ?_, ?_, ?_, ?_, ?_, ?_, ?_, ?_, ?_, ?_, ?_, trivial⟩
                    · intro L a w' hI hl hd K hK
                      refine hI.elim fun u90 hI => hI.elim fun u91 hI => hI.elim fun u92 hI => hI.elim fun u93 hI => hI.elim fun u94 hI => hI.elim fun u95 hI => hI.elim fun u96 hI => hI.elim fun u97 hI => hI.elim fun u98 hI => hI.elim fun u99 hI => hI.elim fun u100 hI => hI.elim fun u101 hI => hI.elim fun u102 hI => hI.elim fun u103 hI => hI.elim fun u104 hI => hI.elim fun u105 hI => hI.elim fun u106 hI => hI.elim fun u107 hI => ?_
                      have ha := hI.1
                      subst ha
                      have hb := hI.2.1
                      have g0 := hI.2.2.1
                      have g1 := hI.2.2.2.1
                      have g2 := hI.2.2.2.2.1
                      have g3 := hI.2.2.2.2.2.1
                      have g4 := hI.2.2.2.2.2.2.1
                      have g5 := hI.2.2.2.2.2.2.2.1
                      have g6 := hI.2.2.2.2.2.2.2.2.1
                      have g7 := hI.2.2.2.2.2.2.2.2.2.1
                      have g8 := hI.2.2.2.2.2.2.2.2.2.2.1
                      have g9 := hI.2.2.2.2.2.2.2.2.2.2.2.1
                      have g10 := hI.2.2.2.2.2.2.2.2.2.2.2.2.1
                      have g11 := hI.2.2.2.2.2.2.2.2.2.2.2.2.2.1
                      have g12 := hI.2.2.2.2.2.2.2.2.2.2.2.2.2.2.1
                      have g13 := hI.2.2.2.2.2.2.2.2.2.2.2.2.2.2.2.1
                      have g14 := hI.2.2.2.2.2.2.2.2.2.2.2.2.2.2.2.2.1
                      have g15 := hI.2.2.2.2.2.2.2.2.2.2.2.2.2.2.2.2.2.1
                      have g16 := hI.2.2.2.2.2.2.2.2.2.2.2.2.2.2.2.2.2.2.1
                      have g17 := hI.2.2.2.2.2.2.2.2.2.2.2.2.2.2.2.2.2.2.2
                      clear hI
                      dsimp only at hK ⊢
                      have bb := VE.out.below hb VE.out.lt
                      have c0 := bb.cell 0
                      have c1 := bb.cell 1
                      have c2 := bb.cell 2
                      have c3 := bb.cell 3
                      have c4 := bb.cell 4
                      have c5 := bb.cell 5
                      have c6 := bb.cell 6
                      have c7 := bb.cell 7
                      have c8 := bb.cell 8
                      have c9 := bb.cell 9
                      have c10 := bb.cell 10
                      have c11 := bb.cell 11
                      simp only [List.getElem?_toArray, List.getElem?_cons_zero, List.getElem?_cons_succ] at c0 c1 c2 c3 c4 c5 c6 c7 c8 c9 c10 c11
                      clear bb
                      go_simp
                      exact hK _ _ ⟨_, _, _, _, _, _, _, _, _, _, _, _, _, _, _, _, _, _, rfl, hb, fun _ => rfl, g1, g2, g3, g4, g5, g6, g7, g8, g9, g10, g11, g12, g13, g14, g15, g16, g17⟩
                    · intro L a w' hI hl hd K hK
                      refine hI.elim fun u90 hI => hI.elim fun u91 hI => hI.elim fun u92 hI => hI.elim fun u93 hI => hI.elim fun u94 hI => hI.elim fun u95 hI => hI.elim fun u96 hI => hI.elim fun u97 hI => hI.elim fun u98 hI => hI.elim fun u99 hI => hI.elim fun u100 hI => hI.elim fun u101 hI => hI.elim fun u102 hI => hI.elim fun u103 hI => hI.elim fun u104 hI => hI.elim fun u105 hI => hI.elim fun u106 hI => hI.elim fun u107 hI => ?_
                      have ha := hI.1
                      subst ha
                      have hb := hI.2.1
                      have g0 := hI.2.2.1
                      have g1 := hI.2.2.2.1
                      have g2 := hI.2.2.2.2.1
                      have g3 := hI.2.2.2.2.2.1
                      have g4 := hI.2.2.2.2.2.2.1
                      have g5 := hI.2.2.2.2.2.2.2.1
                      have g6 := hI.2.2.2.2.2.2.2.2.1
                      have g7 := hI.2.2.2.2.2.2.2.2.2.1
                      have g8 := hI.2.2.2.2.2.2.2.2.2.2.1
                      have g9 := hI.2.2.2.2.2.2.2.2.2.2.2.1
                      have g10 := hI.2.2.2.2.2.2.2.2.2.2.2.2.1
                      have g11 := hI.2.2.2.2.2.2.2.2.2.2.2.2.2.1
                      have g12 := hI.2.2.2.2.2.2.2.2.2.2.2.2.2.2.1
                      have g13 := hI.2.2.2.2.2.2.2.2.2.2.2.2.2.2.2.1
                      have g14 := hI.2.2.2.2.2.2.2.2.2.2.2.2.2.2.2.2.1
                      have g15 := hI.2.2.2.2.2.2.2.2.2.2.2.2.2.2.2.2.2.1
                      have g16 := hI.2.2.2.2.2.2.2.2.2.2.2.2.2.2.2.2.2.2.1
                      have g17 := hI.2.2.2.2.2.2.2.2.2.2.2.2.2.2.2.2.2.2.2
                      clear hI
                      simp [Region.binds] at hd
                      dsimp only at hK ⊢
                      have e0 := g0 (by simp [hd])
                      subst e0
                      go_wp2_with fail
                      refine (HRO.out w').mono ?_
                      rintro _ w4 ⟨rfl, hb4⟩
                      exact hK _ _ ⟨_, _, _, _, _, _, _, _, _, _, _, _, _, _, _, _, _, _, rfl, bst hb hb4, g0, fun _ => rfl, g2, g3, g4, g5, g6, g7, g8, g9, g10, g11, g12, g13, g14, g15, g16, g17⟩
                    · intro L a w' hI hl hd K hK
                      refine hI.elim fun u90 hI => hI.elim fun u91 hI => hI.elim fun u92 hI => hI.elim fun u93 hI => hI.elim fun u94 hI => hI.elim fun u95 hI => hI.elim fun u96 hI => hI.elim fun u97 hI => hI.elim fun u98 hI => hI.elim fun u99 hI => hI.elim fun u100 hI => hI.elim fun u101 hI => hI.elim fun u102 hI => hI.elim fun u103 hI => hI.elim fun u104 hI => hI.elim fun u105 hI => hI.elim fun u106 hI => hI.elim fun u107 hI => ?_
                      have ha := hI.1
                      subst ha
                      have hb := hI.2.1
                      have g0 := hI.2.2.1
                      have g1 := hI.2.2.2.1
                      have g2 := hI.2.2.2.2.1
                      have g3 := hI.2.2.2.2.2.1
                      have g4 := hI.2.2.2.2.2.2.1
                      have g5 := hI.2.2.2.2.2.2.2.1
                      have g6 := hI.2.2.2.2.2.2.2.2.1
                      have g7 := hI.2.2.2.2.2.2.2.2.2.1
                      have g8 := hI.2.2.2.2.2.2.2.2.2.2.1
                      have g9 := hI.2.2.2.2.2.2.2.2.2.2.2.1
                      have g10 := hI.2.2.2.2.2.2.2.2.2.2.2.2.1
                      have g11 := hI.2.2.2.2.2.2.2.2.2.2.2.2.2.1
                      have g12 := hI.2.2.2.2.2.2.2.2.2.2.2.2.2.2.1
                      have g13 := hI.2.2.2.2.2.2.2.2.2.2.2.2.2.2.2.1
                      have g14 := hI.2.2.2.2.2.2.2.2.2.2.2.2.2.2.2.2.1
                      have g15 := hI.2.2.2.2.2.2.2.2.2.2.2.2.2.2.2.2.2.1
                      have g16 := hI.2.2.2.2.2.2.2.2.2.2.2.2.2.2.2.2.2.2.1
                      have g17 := hI.2.2.2.2.2.2.2.2.2.2.2.2.2.2.2.2.2.2.2
                      clear hI
                      dsimp only at hK ⊢
                      have bb := VP.out.below hb VP.out.lt
                      have c0 := bb.cell 0
                      have c1 := bb.cell 1
                      have c2 := bb.cell 2
                      have c3 := bb.cell 3
                      simp only [List.getElem?_toArray, List.getElem?_cons_zero, List.getElem?_cons_succ] at c0 c1 c2 c3
                      clear bb
                      go_simp
                      exact hK _ _ ⟨_, _, _, _, _, _, _, _, _, _, _, _, _, _, _, _, _, _, rfl, hb, g0, g1, fun _ => rfl, g3, g4, g5, g6, g7, g8, g9, g10, g11, g12, g13, g14, g15, g16, g17⟩
                    · intro L a w' hI hl hd K hK
                      refine hI.elim fun u90 hI => hI.elim fun u91 hI => hI.elim fun u92 hI => hI.elim fun u93 hI => hI.elim fun u94 hI => hI.elim fun u95 hI => hI.elim fun u96 hI => hI.elim fun u97 hI => hI.elim fun u98 hI => hI.elim fun u99 hI => hI.elim fun u100 hI => hI.elim fun u101 hI => hI.elim fun u102 hI => hI.elim fun u103 hI => hI.elim fun u104 hI => hI.elim fun u105 hI => hI.elim fun u106 hI => hI.elim fun u107 hI => ?_
                      have ha := hI.1
                      subst ha
                      have hb := hI.2.1
                      have g0 := hI.2.2.1
                      have g1 := hI.2.2.2.1
                      have g2 := hI.2.2.2.2.1
                      have g3 := hI.2.2.2.2.2.1
                      have g4 := hI.2.2.2.2.2.2.1
                      have g5 := hI.2.2.2.2.2.2.2.1
                      have g6 := hI.2.2.2.2.2.2.2.2.1
                      have g7 := hI.2.2.2.2.2.2.2.2.2.1
                      have g8 := hI.2.2.2.2.2.2.2.2.2.2.1
                      have g9 := hI.2.2.2.2.2.2.2.2.2.2.2.1
                      have g10 := hI.2.2.2.2.2.2.2.2.2.2.2.2.1
                      have g11 := hI.2.2.2.2.2.2.2.2.2.2.2.2.2.1
                      have g12 := hI.2.2.2.2.2.2.2.2.2.2.2.2.2.2.1
                      have g13 := hI.2.2.2.2.2.2.2.2.2.2.2.2.2.2.2.1
                      have g14 := hI.2.2.2.2.2.2.2.2.2.2.2.2.2.2.2.2.1
                      have g15 := hI.2.2.2.2.2.2.2.2.2.2.2.2.2.2.2.2.2.1
                      have g16 := hI.2.2.2.2.2.2.2.2.2.2.2.2.2.2.2.2.2.2.1
                      have g17 := hI.2.2.2.2.2.2.2.2.2.2.2.2.2.2.2.2.2.2.2
                      clear hI
                      simp [Region.binds] at hd
                      dsimp only at hK ⊢
                      have e1 := g1 (by simp [hd])
                      subst e1
                      have e2 := g2 (by simp [hd])
                      subst e2
                      go_wp2_with fail
                      refine (HCO.out w').mono ?_
                      rintro _ w4 ⟨rfl, hb4⟩
                      exact hK _ _ ⟨_, _, _, _, _, _, _, _, _, _, _, _, _, _, _, _, _, _, rfl, bst hb hb4, g0, g1, g2, fun _ => rfl, g4, g5, g6, g7, g8, g9, g10, g11, g12, g13, g14, g15, g16, g17⟩
                    · intro L a w' hI hl hd K hK
                      refine hI.elim fun u90 hI => hI.elim fun u91 hI => hI.elim fun u92 hI => hI.elim fun u93 hI => hI.elim fun u94 hI => hI.elim fun u95 hI => hI.elim fun u96 hI => hI.elim fun u97 hI => hI.elim fun u98 hI => hI.elim fun u99 hI => hI.elim fun u100 hI => hI.elim fun u101 hI => hI.elim fun u102 hI => hI.elim fun u103 hI => hI.elim fun u104 hI => hI.elim fun u105 hI => hI.elim fun u106 hI => hI.elim fun u107 hI => ?_
                      have ha := hI.1
                      subst ha
                      have hb := hI.2.1
                      have g0 := hI.2.2.1
                      have g1 := hI.2.2.2.1
                      have g2 := hI.2.2.2.2.1
                      have g3 := hI.2.2.2.2.2.1
                      have g4 := hI.2.2.2.2.2.2.1
                      have g5 := hI.2.2.2.2.2.2.2.1
                      have g6 := hI.2.2.2.2.2.2.2.2.1
                      have g7 := hI.2.2.2.2.2.2.2.2.2.1
                      have g8 := hI.2.2.2.2.2.2.2.2.2.2.1
                      have g9 := hI.2.2.2.2.2.2.2.2.2.2.2.1
                      have g10 := hI.2.2.2.2.2.2.2.2.2.2.2.2.1
                      have g11 := hI.2.2.2.2.2.2.2.2.2.2.2.2.2.1
                      have g12 := hI.2.2.2.2.2.2.2.2.2.2.2.2.2.2.1
                      have g13 := hI.2.2.2.2.2.2.2.2.2.2.2.2.2.2.2.1
                      have g14 := hI.2.2.2.2.2.2.2.2.2.2.2.2.2.2.2.2.1
                      have g15 := hI.2.2.2.2.2.2.2.2.2.2.2.2.2.2.2.2.2.1
                      have g16 := hI.2.2.2.2.2.2.2.2.2.2.2.2.2.2.2.2.2.2.1
                      have g17 := hI.2.2.2.2.2.2.2.2.2.2.2.2.2.2.2.2.2.2.2
                      clear hI
                      simp [Region.binds] at hd
                      dsimp only at hK ⊢
                      have e3 := g3 (by simp [hd])
                      subst e3
                      go_simp
                      exact hK _ _ ⟨_, _, _, _, _, _, _, _, _, _, _, _, _, _, _, _, _, _, rfl, hb, g0, g1, g2, g3, fun _ => rfl, g5, g6, g7, g8, g9, g10, g11, g12, g13, g14, g15, g16, g17⟩
                    · intro L a w' hI hl hd K hK
                      refine hI.elim fun u90 hI => hI.elim fun u91 hI => hI.elim fun u92 hI => hI.elim fun u93 hI => hI.elim fun u94 hI => hI.elim fun u95 hI => hI.elim fun u96 hI => hI.elim fun u97 hI => hI.elim fun u98 hI => hI.elim fun u99 hI => hI.elim fun u100 hI => hI.elim fun u101 hI => hI.elim fun u102 hI => hI.elim fun u103 hI => hI.elim fun u104 hI => hI.elim fun u105 hI => hI.elim fun u106 hI => hI.elim fun u107 hI => ?_
                      have ha := hI.1
                      subst ha
                      have hb := hI.2.1
                      have g0 := hI.2.2.1
                      have g1 := hI.2.2.2.1
                      have g2 := hI.2.2.2.2.1
                      have g3 := hI.2.2.2.2.2.1
                      have g4 := hI.2.2.2.2.2.2.1
                      have g5 := hI.2.2.2.2.2.2.2.1
                      have g6 := hI.2.2.2.2.2.2.2.2.1
                      have g7 := hI.2.2.2.2.2.2.2.2.2.1
                      have g8 := hI.2.2.2.2.2.2.2.2.2.2.1
                      have g9 := hI.2.2.2.2.2.2.2.2.2.2.2.1
                      have g10 := hI.2.2.2.2.2.2.2.2.2.2.2.2.1
                      have g11 := hI.2.2.2.2.2.2.2.2.2.2.2.2.2.1
                      have g12 := hI.2.2.2.2.2.2.2.2.2.2.2.2.2.2.1
                      have g13 := hI.2.2.2.2.2.2.2.2.2.2.2.2.2.2.2.1
                      have g14 := hI.2.2.2.2.2.2.2.2.2.2.2.2.2.2.2.2.1
                      have g15 := hI.2.2.2.2.2.2.2.2.2.2.2.2.2.2.2.2.2.1
                      have g16 := hI.2.2.2.2.2.2.2.2.2.2.2.2.2.2.2.2.2.2.1
                      have g17 := hI.2.2.2.2.2.2.2.2.2.2.2.2.2.2.2.2.2.2.2
                      clear hI
                      simp [Region.binds] at hd
                      dsimp only at hK ⊢
                      have e4 := g4 (by simp [hd])
                      subst e4
                      go_simp
                      exact hK _ _ ⟨_, _, _, _, _, _, _, _, _, _, _, _, _, _, _, _, _, _, rfl, hb, g0, g1, g2, g3, g4, fun _ => rfl, g6, g7, g8, g9, g10, g11, g12, g13, g14, g15, g16, g17⟩
                    · intro L a w' hI hl hd K hK
                      refine hI.elim fun u90 hI => hI.elim fun u91 hI => hI.elim fun u92 hI => hI.elim fun u93 hI => hI.elim fun u94 hI => hI.elim fun u95 hI => hI.elim fun u96 hI => hI.elim fun u97 hI => hI.elim fun u98 hI => hI.elim fun u99 hI => hI.elim fun u100 hI => hI.elim fun u101 hI => hI.elim fun u102 hI => hI.elim fun u103 hI => hI.elim fun u104 hI => hI.elim fun u105 hI => hI.elim fun u106 hI => hI.elim fun u107 hI => ?_
                      have ha := hI.1
                      subst ha
                      have hb := hI.2.1
                      have g0 := hI.2.2.1
                      have g1 := hI.2.2.2.1
                      have g2 := hI.2.2.2.2.1
                      have g3 := hI.2.2.2.2.2.1
                      have g4 := hI.2.2.2.2.2.2.1
                      have g5 := hI.2.2.2.2.2.2.2.1
                      have g6 := hI.2.2.2.2.2.2.2.2.1
                      have g7 := hI.2.2.2.2.2.2.2.2.2.1
                      have g8 := hI.2.2.2.2.2.2.2.2.2.2.1
                      have g9 := hI.2.2.2.2.2.2.2.2.2.2.2.1
                      have g10 := hI.2.2.2.2.2.2.2.2.2.2.2.2.1
                      have g11 := hI.2.2.2.2.2.2.2.2.2.2.2.2.2.1
                      have g12 := hI.2.2.2.2.2.2.2.2.2.2.2.2.2.2.1
                      have g13 := hI.2.2.2.2.2.2.2.2.2.2.2.2.2.2.2.1
                      have g14 := hI.2.2.2.2.2.2.2.2.2.2.2.2.2.2.2.2.1
                      have g15 := hI.2.2.2.2.2.2.2.2.2.2.2.2.2.2.2.2.2.1
                      have g16 := hI.2.2.2.2.2.2.2.2.2.2.2.2.2.2.2.2.2.2.1
                      have g17 := hI.2.2.2.2.2.2.2.2.2.2.2.2.2.2.2.2.2.2.2
                      clear hI
                      simp [Region.binds] at hd
                      dsimp only at hK ⊢
                      have e4 := g4 (by simp [hd])
                      subst e4
                      have e5 := g5 (by simp [hd])
                      subst e5
                      have bb := VE.out.below hb VE.out.lt
                      have c2 := bb.cell 2
                      simp only [List.getElem?_toArray, List.getElem?_cons_zero, List.getElem?_cons_succ] at c2
                      clear bb
                      go_simp
                      exact hK _ _ ⟨_, _, _, _, _, _, _, _, _, _, _, _, _, _, _, _, _, _, rfl, hb, g0, g1, g2, g3, g4, g5, fun _ => rfl, g7, g8, g9, g10, g11, g12, g13, g14, g15, g16, g17⟩
                    · intro L a w' hI hl hd K hK
                      refine hI.elim fun u90 hI => hI.elim fun u91 hI => hI.elim fun u92 hI => hI.elim fun u93 hI => hI.elim fun u94 hI => hI.elim fun u95 hI => hI.elim fun u96 hI => hI.elim fun u97 hI => hI.elim fun u98 hI => hI.elim fun u99 hI => hI.elim fun u100 hI => hI.elim fun u101 hI => hI.elim fun u102 hI => hI.elim fun u103 hI => hI.elim fun u104 hI => hI.elim fun u105 hI => hI.elim fun u106 hI => hI.elim fun u107 hI => ?_
                      have ha := hI.1
                      subst ha
                      have hb := hI.2.1
                      have g0 := hI.2.2.1
                      have g1 := hI.2.2.2.1
                      have g2 := hI.2.2.2.2.1
                      have g3 := hI.2.2.2.2.2.1
                      have g4 := hI.2.2.2.2.2.2.1
                      have g5 := hI.2.2.2.2.2.2.2.1
                      have g6 := hI.2.2.2.2.2.2.2.2.1
                      have g7 := hI.2.2.2.2.2.2.2.2.2.1
                      have g8 := hI.2.2.2.2.2.2.2.2.2.2.1
                      have g9 := hI.2.2.2.2.2.2.2.2.2.2.2.1
                      have g10 := hI.2.2.2.2.2.2.2.2.2.2.2.2.1
                      have g11 := hI.2.2.2.2.2.2.2.2.2.2.2.2.2.1
                      have g12 := hI.2.2.2.2.2.2.2.2.2.2.2.2.2.2.1
                      have g13 := hI.2.2.2.2.2.2.2.2.2.2.2.2.2.2.2.1
                      have g14 := hI.2.2.2.2.2.2.2.2.2.2.2.2.2.2.2.2.1
                      have g15 := hI.2.2.2.2.2.2.2.2.2.2.2.2.2.2.2.2.2.1
                      have g16 := hI.2.2.2.2.2.2.2.2.2.2.2.2.2.2.2.2.2.2.1
                      have g17 := hI.2.2.2.2.2.2.2.2.2.2.2.2.2.2.2.2.2.2.2
                      clear hI
                      simp [Region.binds] at hd
                      dsimp only at hK ⊢
                      have e4 := g4 (by simp [hd])
                      subst e4
                      go_simp
                      exact hK _ _ ⟨_, _, _, _, _, _, _, _, _, _, _, _, _, _, _, _, _, _, rfl, hb, g0, g1, g2, g3, g4, g5, g6, fun _ => rfl, g8, g9, g10, g11, g12, g13, g14, g15, g16, g17⟩
                    · intro L a w' hI hl hd K hK
                      refine hI.elim fun u90 hI => hI.elim fun u91 hI => hI.elim fun u92 hI => hI.elim fun u93 hI => hI.elim fun u94 hI => hI.elim fun u95 hI => hI.elim fun u96 hI => hI.elim fun u97 hI => hI.elim fun u98 hI => hI.elim fun u99 hI => hI.elim fun u100 hI => hI.elim fun u101 hI => hI.elim fun u102 hI => hI.elim fun u103 hI => hI.elim fun u104 hI => hI.elim fun u105 hI => hI.elim fun u106 hI => hI.elim fun u107 hI => ?_
                      have ha := hI.1
                      subst ha
                      have hb := hI.2.1
                      have g0 := hI.2.2.1
                      have g1 := hI.2.2.2.1
                      have g2 := hI.2.2.2.2.1
                      have g3 := hI.2.2.2.2.2.1
                      have g4 := hI.2.2.2.2.2.2.1
                      have g5 := hI.2.2.2.2.2.2.2.1
                      have g6 := hI.2.2.2.2.2.2.2.2.1
                      have g7 := hI.2.2.2.2.2.2.2.2.2.1
                      have g8 := hI.2.2.2.2.2.2.2.2.2.2.1
                      have g9 := hI.2.2.2.2.2.2.2.2.2.2.2.1
                      have g10 := hI.2.2.2.2.2.2.2.2.2.2.2.2.1
                      have g11 := hI.2.2.2.2.2.2.2.2.2.2.2.2.2.1
                      have g12 := hI.2.2.2.2.2.2.2.2.2.2.2.2.2.2.1
                      have g13 := hI.2.2.2.2.2.2.2.2.2.2.2.2.2.2.2.1
                      have g14 := hI.2.2.2.2.2.2.2.2.2.2.2.2.2.2.2.2.1
                      have g15 := hI.2.2.2.2.2.2.2.2.2.2.2.2.2.2.2.2.2.1
                      have g16 := hI.2.2.2.2.2.2.2.2.2.2.2.2.2.2.2.2.2.2.1
                      have g17 := hI.2.2.2.2.2.2.2.2.2.2.2.2.2.2.2.2.2.2.2
                      clear hI
                      simp [Region.binds] at hd
                      dsimp only at hK ⊢
                      have e4 := g4 (by simp [hd])
                      subst e4
                      have e6 := g6 (by simp [hd])
                      subst e6
                      have e7 := g7 (by simp [hd])
                      subst e7
                      go_simp
                      exact hK _ _ ⟨_, _, _, _, _, _, _, _, _, _, _, _, _, _, _, _, _, _, rfl, hb, g0, g1, g2, g3, g4, g5, g6, g7, fun _ => rfl, g9, g10, g11, g12, g13, g14, g15, g16, g17⟩
                    · intro L a w' hI hl hd K hK
                      refine hI.elim fun u90 hI => hI.elim fun u91 hI => hI.elim fun u92 hI => hI.elim fun u93 hI => hI.elim fun u94 hI => hI.elim fun u95 hI => hI.elim fun u96 hI => hI.elim fun u97 hI => hI.elim fun u98 hI => hI.elim fun u99 hI => hI.elim fun u100 hI => hI.elim fun u101 hI => hI.elim fun u102 hI => hI.elim fun u103 hI => hI.elim fun u104 hI => hI.elim fun u105 hI => hI.elim fun u106 hI => hI.elim fun u107 hI => ?_
                      have ha := hI.1
                      subst ha
                      have hb := hI.2.1
                      have g0 := hI.2.2.1
                      have g1 := hI.2.2.2.1
                      have g2 := hI.2.2.2.2.1
                      have g3 := hI.2.2.2.2.2.1
                      have g4 := hI.2.2.2.2.2.2.1
                      have g5 := hI.2.2.2.2.2.2.2.1
                      have g6 := hI.2.2.2.2.2.2.2.2.1
                      have g7 := hI.2.2.2.2.2.2.2.2.2.1
                      have g8 := hI.2.2.2.2.2.2.2.2.2.2.1
                      have g9 := hI.2.2.2.2.2.2.2.2.2.2.2.1
                      have g10 := hI.2.2.2.2.2.2.2.2.2.2.2.2.1
                      have g11 := hI.2.2.2.2.2.2.2.2.2.2.2.2.2.1
                      have g12 := hI.2.2.2.2.2.2.2.2.2.2.2.2.2.2.1
                      have g13 := hI.2.2.2.2.2.2.2.2.2.2.2.2.2.2.2.1
                      have g14 := hI.2.2.2.2.2.2.2.2.2.2.2.2.2.2.2.2.1
                      have g15 := hI.2.2.2.2.2.2.2.2.2.2.2.2.2.2.2.2.2.1
                      have g16 := hI.2.2.2.2.2.2.2.2.2.2.2.2.2.2.2.2.2.2.1
                      have g17 := hI.2.2.2.2.2.2.2.2.2.2.2.2.2.2.2.2.2.2.2
                      clear hI
                      simp [Region.binds] at hd
                      dsimp only at hK ⊢
                      have e4 := g4 (by simp [hd])
                      subst e4
                      have e8 := g8 (by simp [hd])
                      subst e8
                      go_simp
                      exact hK _ _ ⟨_, _, _, _, _, _, _, _, _, _, _, _, _, _, _, _, _, _, rfl, hb, g0, g1, g2, g3, g4, g5, g6, g7, g8, fun _ => rfl, g10, g11, g12, g13, g14, g15, g16, g17⟩
                    · intro L a w' hI hl hd K hK
                      refine hI.elim fun u90 hI => hI.elim fun u91 hI => hI.elim fun u92 hI => hI.elim fun u93 hI => hI.elim fun u94 hI => hI.elim fun u95 hI => hI.elim fun u96 hI => hI.elim fun u97 hI => hI.elim fun u98 hI => hI.elim fun u99 hI => hI.elim fun u100 hI => hI.elim fun u101 hI => hI.elim fun u102 hI => hI.elim fun u103 hI => hI.elim fun u104 hI => hI.elim fun u105 hI => hI.elim fun u106 hI => hI.elim fun u107 hI => ?_
                      have ha := hI.1
                      subst ha
                      have hb := hI.2.1
                      have g0 := hI.2.2.1
                      have g1 := hI.2.2.2.1
                      have g2 := hI.2.2.2.2.1
                      have g3 := hI.2.2.2.2.2.1
                      have g4 := hI.2.2.2.2.2.2.1
                      have g5 := hI.2.2.2.2.2.2.2.1
                      have g6 := hI.2.2.2.2.2.2.2.2.1
                      have g7 := hI.2.2.2.2.2.2.2.2.2.1
                      have g8 := hI.2.2.2.2.2.2.2.2.2.2.1
                      have g9 := hI.2.2.2.2.2.2.2.2.2.2.2.1
                      have g10 := hI.2.2.2.2.2.2.2.2.2.2.2.2.1
                      have g11 := hI.2.2.2.2.2.2.2.2.2.2.2.2.2.1
                      have g12 := hI.2.2.2.2.2.2.2.2.2.2.2.2.2.2.1
                      have g13 := hI.2.2.2.2.2.2.2.2.2.2.2.2.2.2.2.1
                      have g14 := hI.2.2.2.2.2.2.2.2.2.2.2.2.2.2.2.2.1
                      have g15 := hI.2.2.2.2.2.2.2.2.2.2.2.2.2.2.2.2.2.1
                      have g16 := hI.2.2.2.2.2.2.2.2.2.2.2.2.2.2.2.2.2.2.1
                      have g17 := hI.2.2.2.2.2.2.2.2.2.2.2.2.2.2.2.2.2.2.2
                      clear hI
                      simp [Region.binds] at hd
                      dsimp only at hK ⊢
                      have e9 := g9 (by simp [hd])
                      subst e9
                      go_simp
                      exact hK _ _ ⟨_, _, _, _, _, _, _, _, _, _, _, _, _, _, _, _, _, _, rfl, hb, g0, g1, g2, g3, g4, g5, g6, g7, g8, g9, fun _ => rfl, g11, g12, g13, g14, g15, g16, g17⟩
                    · intro L a w' hI hl hd K hK
                      refine hI.elim fun u90 hI => hI.elim fun u91 hI => hI.elim fun u92 hI => hI.elim fun u93 hI => hI.elim fun u94 hI => hI.elim fun u95 hI => hI.elim fun u96 hI => hI.elim fun u97 hI => hI.elim fun u98 hI => hI.elim fun u99 hI => hI.elim fun u100 hI => hI.elim fun u101 hI => hI.elim fun u102 hI => hI.elim fun u103 hI => hI.elim fun u104 hI => hI.elim fun u105 hI => hI.elim fun u106 hI => hI.elim fun u107 hI => ?_
                      have ha := hI.1
                      subst ha
                      have hb := hI.2.1
                      have g0 := hI.2.2.1
                      have g1 := hI.2.2.2.1
                      have g2 := hI.2.2.2.2.1
                      have g3 := hI.2.2.2.2.2.1
                      have g4 := hI.2.2.2.2.2.2.1
                      have g5 := hI.2.2.2.2.2.2.2.1
                      have g6 := hI.2.2.2.2.2.2.2.2.1
                      have g7 := hI.2.2.2.2.2.2.2.2.2.1
                      have g8 := hI.2.2.2.2.2.2.2.2.2.2.1
                      have g9 := hI.2.2.2.2.2.2.2.2.2.2.2.1
                      have g10 := hI.2.2.2.2.2.2.2.2.2.2.2.2.1
                      have g11 := hI.2.2.2.2.2.2.2.2.2.2.2.2.2.1
                      have g12 := hI.2.2.2.2.2.2.2.2.2.2.2.2.2.2.1
                      have g13 := hI.2.2.2.2.2.2.2.2.2.2.2.2.2.2.2.1
                      have g14 := hI.2.2.2.2.2.2.2.2.2.2.2.2.2.2.2.2.1
                      have g15 := hI.2.2.2.2.2.2.2.2.2.2.2.2.2.2.2.2.2.1
                      have g16 := hI.2.2.2.2.2.2.2.2.2.2.2.2.2.2.2.2.2.2.1
                      have g17 := hI.2.2.2.2.2.2.2.2.2.2.2.2.2.2.2.2.2.2.2
                      clear hI
                      simp [Region.binds] at hd
                      dsimp only at hK ⊢
                      have e10 := g10 (by simp [hd])
                      subst e10
                      go_simp
                      exact hK _ _ ⟨_, _, _, _, _, _, _, _, _, _, _, _, _, _, _, _, _, _, rfl, hb, g0, g1, g2, g3, g4, g5, g6, g7, g8, g9, g10, fun _ => rfl, g12, g13, g14, g15, g16, g17⟩
                    · intro L a w' hI hl hd K hK
                      refine hI.elim fun u90 hI => hI.elim fun u91 hI => hI.elim fun u92 hI => hI.elim fun u93 hI => hI.elim fun u94 hI => hI.elim fun u95 hI => hI.elim fun u96 hI => hI.elim fun u97 hI => hI.elim fun u98 hI => hI.elim fun u99 hI => hI.elim fun u100 hI => hI.elim fun u101 hI => hI.elim fun u102 hI => hI.elim fun u103 hI => hI.elim fun u104 hI => hI.elim fun u105 hI => hI.elim fun u106 hI => hI.elim fun u107 hI => ?_
                      have ha := hI.1
                      subst ha
                      have hb := hI.2.1
                      have g0 := hI.2.2.1
                      have g1 := hI.2.2.2.1
                      have g2 := hI.2.2.2.2.1
                      have g3 := hI.2.2.2.2.2.1
                      have g4 := hI.2.2.2.2.2.2.1
                      have g5 := hI.2.2.2.2.2.2.2.1
                      have g6 := hI.2.2.2.2.2.2.2.2.1
                      have g7 := hI.2.2.2.2.2.2.2.2.2.1
                      have g8 := hI.2.2.2.2.2.2.2.2.2.2.1
                      have g9 := hI.2.2.2.2.2.2.2.2.2.2.2.1
                      have g10 := hI.2.2.2.2.2.2.2.2.2.2.2.2.1
                      have g11 := hI.2.2.2.2.2.2.2.2.2.2.2.2.2.1
                      have g12 := hI.2.2.2.2.2.2.2.2.2.2.2.2.2.2.1
                      have g13 := hI.2.2.2.2.2.2.2.2.2.2.2.2.2.2.2.1
                      have g14 := hI.2.2.2.2.2.2.2.2.2.2.2.2.2.2.2.2.1
                      have g15 := hI.2.2.2.2.2.2.2.2.2.2.2.2.2.2.2.2.2.1
                      have g16 := hI.2.2.2.2.2.2.2.2.2.2.2.2.2.2.2.2.2.2.1
                      have g17 := hI.2.2.2.2.2.2.2.2.2.2.2.2.2.2.2.2.2.2.2
                      clear hI
                      simp [Region.binds] at hd
                      dsimp only at hK ⊢
                      have e10 := g10 (by simp [hd])
                      subst e10
                      go_simp
                      exact hK _ _ ⟨_, _, _, _, _, _, _, _, _, _, _, _, _, _, _, _, _, _, rfl, hb, g0, g1, g2, g3, g4, g5, g6, g7, g8, g9, g10, g11, fun _ => rfl, g13, g14, g15, g16, g17⟩
                    · intro L a w' hI hl hd K hK
                      refine hI.elim fun u90 hI => hI.elim fun u91 hI => hI.elim fun u92 hI => hI.elim fun u93 hI => hI.elim fun u94 hI => hI.elim fun u95 hI => hI.elim fun u96 hI => hI.elim fun u97 hI => hI.elim fun u98 hI => hI.elim fun u99 hI => hI.elim fun u100 hI => hI.elim fun u101 hI => hI.elim fun u102 hI => hI.elim fun u103 hI => hI.elim fun u104 hI => hI.elim fun u105 hI => hI.elim fun u106 hI => hI.elim fun u107 hI => ?_
                      have ha := hI.1
                      subst ha
                      have hb := hI.2.1
                      have g0 := hI.2.2.1
                      have g1 := hI.2.2.2.1
                      have g2 := hI.2.2.2.2.1
                      have g3 := hI.2.2.2.2.2.1
                      have g4 := hI.2.2.2.2.2.2.1
                      have g5 := hI.2.2.2.2.2.2.2.1
                      have g6 := hI.2.2.2.2.2.2.2.2.1
                      have g7 := hI.2.2.2.2.2.2.2.2.2.1
                      have g8 := hI.2.2.2.2.2.2.2.2.2.2.1
                      have g9 := hI.2.2.2.2.2.2.2.2.2.2.2.1
                      have g10 := hI.2.2.2.2.2.2.2.2.2.2.2.2.1
                      have g11 := hI.2.2.2.2.2.2.2.2.2.2.2.2.2.1
                      have g12 := hI.2.2.2.2.2.2.2.2.2.2.2.2.2.2.1
                      have g13 := hI.2.2.2.2.2.2.2.2.2.2.2.2.2.2.2.1
                      have g14 := hI.2.2.2.2.2.2.2.2.2.2.2.2.2.2.2.2.1
                      have g15 := hI.2.2.2.2.2.2.2.2.2.2.2.2.2.2.2.2.2.1
                      have g16 := hI.2.2.2.2.2.2.2.2.2.2.2.2.2.2.2.2.2.2.1
                      have g17 := hI.2.2.2.2.2.2.2.2.2.2.2.2.2.2.2.2.2.2.2
                      clear hI
                      simp [Region.binds] at hd
                      dsimp only at hK ⊢
                      have e10 := g10 (by simp [hd])
                      subst e10
                      go_simp
                      exact hK _ _ ⟨_, _, _, _, _, _, _, _, _, _, _, _, _, _, _, _, _, _, rfl, hb, g0, g1, g2, g3, g4, g5, g6, g7, g8, g9, g10, g11, g12, fun _ => rfl, g14, g15, g16, g17⟩
                    · intro L a w' hI hl hd K hK
                      refine hI.elim fun u90 hI => hI.elim fun u91 hI => hI.elim fun u92 hI => hI.elim fun u93 hI => hI.elim fun u94 hI => hI.elim fun u95 hI => hI.elim fun u96 hI => hI.elim fun u97 hI => hI.elim fun u98 hI => hI.elim fun u99 hI => hI.elim fun u100 hI => hI.elim fun u101 hI => hI.elim fun u102 hI => hI.elim fun u103 hI => hI.elim fun u104 hI => hI.elim fun u105 hI => hI.elim fun u106 hI => hI.elim fun u107 hI => ?_
                      have ha := hI.1
                      subst ha
                      have hb := hI.2.1
                      have g0 := hI.2.2.1
                      have g1 := hI.2.2.2.1
                      have g2 := hI.2.2.2.2.1
                      have g3 := hI.2.2.2.2.2.1
                      have g4 := hI.2.2.2.2.2.2.1
                      have g5 := hI.2.2.2.2.2.2.2.1
                      have g6 := hI.2.2.2.2.2.2.2.2.1
                      have g7 := hI.2.2.2.2.2.2.2.2.2.1
                      have g8 := hI.2.2.2.2.2.2.2.2.2.2.1
                      have g9 := hI.2.2.2.2.2.2.2.2.2.2.2.1
                      have g10 := hI.2.2.2.2.2.2.2.2.2.2.2.2.1
                      have g11 := hI.2.2.2.2.2.2.2.2.2.2.2.2.2.1
                      have g12 := hI.2.2.2.2.2.2.2.2.2.2.2.2.2.2.1
                      have g13 := hI.2.2.2.2.2.2.2.2.2.2.2.2.2.2.2.1
                      have g14 := hI.2.2.2.2.2.2.2.2.2.2.2.2.2.2.2.2.1
                      have g15 := hI.2.2.2.2.2.2.2.2.2.2.2.2.2.2.2.2.2.1
                      have g16 := hI.2.2.2.2.2.2.2.2.2.2.2.2.2.2.2.2.2.2.1
                      have g17 := hI.2.2.2.2.2.2.2.2.2.2.2.2.2.2.2.2.2.2.2
                      clear hI
                      simp [Region.binds] at hd
                      dsimp only at hK ⊢
                      have e10 := g10 (by simp [hd])
                      subst e10
                      go_simp
                      exact hK _ _ ⟨_, _, _, _, _, _, _, _, _, _, _, _, _, _, _, _, _, _, rfl, hb, g0, g1, g2, g3, g4, g5, g6, g7, g8, g9, g10, g11, g12, g13, fun _ => rfl, g15, g16, g17⟩
                    · intro L a w' hI hl hd K hK
                      refine hI.elim fun u90 hI => hI.elim fun u91 hI => hI.elim fun u92 hI => hI.elim fun u93 hI => hI.elim fun u94 hI => hI.elim fun u95 hI => hI.elim fun u96 hI => hI.elim fun u97 hI => hI.elim fun u98 hI => hI.elim fun u99 hI => hI.elim fun u100 hI => hI.elim fun u101 hI => hI.elim fun u102 hI => hI.elim fun u103 hI => hI.elim fun u104 hI => hI.elim fun u105 hI => hI.elim fun u106 hI => hI.elim fun u107 hI => ?_
                      have ha := hI.1
                      subst ha
                      have hb := hI.2.1
                      have g0 := hI.2.2.1
                      have g1 := hI.2.2.2.1
                      have g2 := hI.2.2.2.2.1
                      have g3 := hI.2.2.2.2.2.1
                      have g4 := hI.2.2.2.2.2.2.1
                      have g5 := hI.2.2.2.2.2.2.2.1
                      have g6 := hI.2.2.2.2.2.2.2.2.1
                      have g7 := hI.2.2.2.2.2.2.2.2.2.1
                      have g8 := hI.2.2.2.2.2.2.2.2.2.2.1
                      have g9 := hI.2.2.2.2.2.2.2.2.2.2.2.1
                      have g10 := hI.2.2.2.2.2.2.2.2.2.2.2.2.1
                      have g11 := hI.2.2.2.2.2.2.2.2.2.2.2.2.2.1
                      have g12 := hI.2.2.2.2.2.2.2.2.2.2.2.2.2.2.1
                      have g13 := hI.2.2.2.2.2.2.2.2.2.2.2.2.2.2.2.1
                      have g14 := hI.2.2.2.2.2.2.2.2.2.2.2.2.2.2.2.2.1
                      have g15 := hI.2.2.2.2.2.2.2.2.2.2.2.2.2.2.2.2.2.1
                      have g16 := hI.2.2.2.2.2.2.2.2.2.2.2.2.2.2.2.2.2.2.1
                      have g17 := hI.2.2.2.2.2.2.2.2.2.2.2.2.2.2.2.2.2.2.2
                      clear hI
                      simp [Region.binds] at hd
                      dsimp only at hK ⊢
                      have e10 := g10 (by simp [hd])
                      subst e10
                      go_simp
                      exact hK _ _ ⟨_, _, _, _, _, _, _, _, _, _, _, _, _, _, _, _, _, _, rfl, hb, g0, g1, g2, g3, g4, g5, g6, g7, g8, g9, g10, g11, g12, g13, g14, fun _ => rfl, g16, g17⟩
                    · intro L a w' hI hl hd K hK
                      refine hI.elim fun u90 hI => hI.elim fun u91 hI => hI.elim fun u92 hI => hI.elim fun u93 hI => hI.elim fun u94 hI => hI.elim fun u95 hI => hI.elim fun u96 hI => hI.elim fun u97 hI => hI.elim fun u98 hI => hI.elim fun u99 hI => hI.elim fun u100 hI => hI.elim fun u101 hI => hI.elim fun u102 hI => hI.elim fun u103 hI => hI.elim fun u104 hI => hI.elim fun u105 hI => hI.elim fun u106 hI => hI.elim fun u107 hI => ?_
                      have ha := hI.1
                      subst ha
                      have hb := hI.2.1
                      have g0 := hI.2.2.1
                      have g1 := hI.2.2.2.1
                      have g2 := hI.2.2.2.2.1
                      have g3 := hI.2.2.2.2.2.1
                      have g4 := hI.2.2.2.2.2.2.1
                      have g5 := hI.2.2.2.2.2.2.2.1
                      have g6 := hI.2.2.2.2.2.2.2.2.1
                      have g7 := hI.2.2.2.2.2.2.2.2.2.1
                      have g8 := hI.2.2.2.2.2.2.2.2.2.2.1
                      have g9 := hI.2.2.2.2.2.2.2.2.2.2.2.1
                      have g10 := hI.2.2.2.2.2.2.2.2.2.2.2.2.1
                      have g11 := hI.2.2.2.2.2.2.2.2.2.2.2.2.2.1
                      have g12 := hI.2.2.2.2.2.2.2.2.2.2.2.2.2.2.1
                      have g13 := hI.2.2.2.2.2.2.2.2.2.2.2.2.2.2.2.1
                      have g14 := hI.2.2.2.2.2.2.2.2.2.2.2.2.2.2.2.2.1
                      have g15 := hI.2.2.2.2.2.2.2.2.2.2.2.2.2.2.2.2.2.1
                      have g16 := hI.2.2.2.2.2.2.2.2.2.2.2.2.2.2.2.2.2.2.1
                      have g17 := hI.2.2.2.2.2.2.2.2.2.2.2.2.2.2.2.2.2.2.2
                      clear hI
                      simp [Region.binds] at hd
                      dsimp only at hK ⊢
                      have e10 := g10 (by simp [hd])
                      subst e10
                      go_simp
                      exact hK _ _ ⟨_, _, _, _, _, _, _, _, _, _, _, _, _, _, _, _, _, _, rfl, hb, g0, g1, g2, g3, g4, g5, g6, g7, g8, g9, g10, g11, g12, g13, g14, g15, fun _ => rfl, g17⟩
                    · intro L a w' hI hl hd K hK
                      refine hI.elim fun u90 hI => hI.elim fun u91 hI => hI.elim fun u92 hI => hI.elim fun u93 hI => hI.elim fun u94 hI => hI.elim fun u95 hI => hI.elim fun u96 hI => hI.elim fun u97 hI => hI.elim fun u98 hI => hI.elim fun u99 hI => hI.elim fun u100 hI => hI.elim fun u101 hI => hI.elim fun u102 hI => hI.elim fun u103 hI => hI.elim fun u104 hI => hI.elim fun u105 hI => hI.elim fun u106 hI => hI.elim fun u107 hI => ?_
                      have ha := hI.1
                      subst ha
                      have hb := hI.2.1
                      have g0 := hI.2.2.1
                      have g1 := hI.2.2.2.1
                      have g2 := hI.2.2.2.2.1
                      have g3 := hI.2.2.2.2.2.1
                      have g4 := hI.2.2.2.2.2.2.1
                      have g5 := hI.2.2.2.2.2.2.2.1
                      have g6 := hI.2.2.2.2.2.2.2.2.1
                      have g7 := hI.2.2.2.2.2.2.2.2.2.1
                      have g8 := hI.2.2.2.2.2.2.2.2.2.2.1
                      have g9 := hI.2.2.2.2.2.2.2.2.2.2.2.1
                      have g10 := hI.2.2.2.2.2.2.2.2.2.2.2.2.1
                      have g11 := hI.2.2.2.2.2.2.2.2.2.2.2.2.2.1
                      have g12 := hI.2.2.2.2.2.2.2.2.2.2.2.2.2.2.1
                      have g13 := hI.2.2.2.2.2.2.2.2.2.2.2.2.2.2.2.1
                      have g14 := hI.2.2.2.2.2.2.2.2.2.2.2.2.2.2.2.2.1
                      have g15 := hI.2.2.2.2.2.2.2.2.2.2.2.2.2.2.2.2.2.1
                      have g16 := hI.2.2.2.2.2.2.2.2.2.2.2.2.2.2.2.2.2.2.1
                      have g17 := hI.2.2.2.2.2.2.2.2.2.2.2.2.2.2.2.2.2.2.2
                      clear hI
                      simp [Region.binds] at hd
                      dsimp only at hK ⊢
                      have e10 := g10 (by simp [hd])
                      subst e10
                      go_simp
                      exact hK _ _ ⟨_, _, _, _, _, _, _, _, _, _, _, _, _, _, _, _, _, _, rfl, hb, g0, g1, g2, g3, g4, g5, g6, g7, g8, g9, g10, g11, g12, g13, g14, g15, g16, fun _ => rfl⟩
                  intro a w3 hI
                  refine hI.elim fun u90 hI => hI.elim fun u91 hI => hI.elim fun u92 hI => hI.elim fun u93 hI => hI.elim fun u94 hI => hI.elim fun u95 hI => hI.elim fun u96 hI => hI.elim fun u97 hI => hI.elim fun u98 hI => hI.elim fun u99 hI => hI.elim fun u100 hI => hI.elim fun u101 hI => hI.elim fun u102 hI => hI.elim fun u103 hI => hI.elim fun u104 hI => hI.elim fun u105 hI => hI.elim fun u106 hI => hI.elim fun u107 hI => ?_
                  have ha := hI.1
                  subst ha
                  have hb := hI.2.1
                  have g0 := hI.2.2.1
                  have g1 := hI.2.2.2.1
                  have g2 := hI.2.2.2.2.1
                  have g3 := hI.2.2.2.2.2.1
                  have g4 := hI.2.2.2.2.2.2.1
                  have g5 := hI.2.2.2.2.2.2.2.1
                  have g6 := hI.2.2.2.2.2.2.2.2.1
                  have g7 := hI.2.2.2.2.2.2.2.2.2.1
                  have g8 := hI.2.2.2.2.2.2.2.2.2.2.1
                  have g9 := hI.2.2.2.2.2.2.2.2.2.2.2.1
                  have g10 := hI.2.2.2.2.2.2.2.2.2.2.2.2.1
                  have g11 := hI.2.2.2.2.2.2.2.2.2.2.2.2.2.1
                  have g12 := hI.2.2.2.2.2.2.2.2.2.2.2.2.2.2.1
                  have g13 := hI.2.2.2.2.2.2.2.2.2.2.2.2.2.2.2.1
                  have g14 := hI.2.2.2.2.2.2.2.2.2.2.2.2.2.2.2.2.1
                  have g15 := hI.2.2.2.2.2.2.2.2.2.2.2.2.2.2.2.2.2.1
                  have g16 := hI.2.2.2.2.2.2.2.2.2.2.2.2.2.2.2.2.2.2.1
                  have g17 := hI.2.2.2.2.2.2.2.2.2.2.2.2.2.2.2.2.2.2.2
                  clear hI
                  have e17 := g17 rfl
                  subst e17
                  have HX := Lib.hid hb
                  clear g0 g1 g2 g3 g4 g5 g6 g7 g8 g9 g10 g11 g12 g13 g14 g15 g16 g17 hb
                  go_wp2
                  go_meet
                  exact ⟨rfl, HX.out⟩
            case rest =>
              obtain ⟨rfl, hbc⟩ := hcut
              have VB2 := Lib.hid (bst VB.out hbc)
              clear hbc
              go_wp2
              go_roundw
              case rel => exact ⟨n + 1, HLT.out, by go_num, VB2.out⟩
              case measure => have := HLT.out; simp [intOf]; omega
          · have B9 := Lib.hid (bst B8.out hbel)
            have hR2 : 2 ≤ m := by have := HC.out.two; have := HRR.out; omega
            have hRu : (m : Int) ≤ u := by have := HC.out.most; have := HRR.out; omega
            clear hbel
            go_wp2_with fail
            refine (awake28_any _).mono ?_
            rintro _ w9 ⟨rfl, hb9⟩
            have B10 := Lib.hid (bst B9.out hb9)
            have q8 : decide ((2 : Int) ≤ (m : Int)) = true := by simp; omega
            have q8' : decide (2 ≤ m) = true := by simpa using hR2
            have q9 : decide ((m : Int) ≤ u) = true := by simpa using hRu
            clear hb9
            go_wp2
            go_ret
            exact ⟨rfl, B10.out⟩
end Go.Proofs.Ytcjekbncllccbaa
