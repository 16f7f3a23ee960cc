/-
  The walk of the law PickerRaisesNothing.
-/
import Derived.Test.YtcjekbncllccbaaPk11
import Derived.Test.YtcjekbncllccbaaPickRaise
import Derived.Test.YtcjekbncllccbaaPk9
namespace Go.Proofs.Ytcjekbncllccbaa
open Go.RowKit Go.Sort

theorem ents_one {w : World} {g : Nat} {e : Ent} (h : Blk w g 41 #[.int .i64 e.id, .int .i64 e.rows, .int .i64 e.live, .bool e.lo.null, .int .i64 e.lo.n, .string e.lo.s, .int .i64 e.lo.seq, .bool e.hi.null, .int .i64 e.hi.n, .string e.hi.s, .int .i64 e.hi.seq, .int .i64 e.del]) : Sl w 12 (.slice (some ⟨g, 0, none⟩) 1 1) 1 (ents [e]) :=
  ⟨_, 1, rfl, Nat.le_refl _, by decide, rfl, fun _ => ⟨_, rfl, h.lt, fun j u hj => by
    rw [Addr.add_lit, h.cell (0 + j), Nat.zero_add]; rw [← Array.getElem?_toList]; exact hj⟩⟩
theorem own_rk2 {w : World} {base : Nat} {t : TypeId} {v : Value} {l : List Rk} {e : Ent} {n : Nat} (hn : l.length = n) (h : w.ownsRow base t 4 v (n + 2) (rks l ++ (#[.bool e.lo.null, .int .i64 e.lo.n, .string e.lo.s, .int .i64 e.lo.seq, .bool e.hi.null, .int .i64 e.hi.n, .string e.hi.s, .int .i64 e.hi.seq] : Array Value).toList)) : w.ownsRow base t 4 v (l ++ [e.lo, e.hi]).length (rks (l ++ [e.lo, e.hi])) := by
  subst hn
  have e1 : (l ++ [e.lo, e.hi]).length = l.length + 2 := by simp
  have e2 : rks (l ++ [e.lo, e.hi]) = rks l ++ (#[.bool e.lo.null, .int .i64 e.lo.n, .string e.lo.s, .int .i64 e.lo.seq, .bool e.hi.null, .int .i64 e.hi.n, .string e.hi.s, .int .i64 e.hi.seq] : Array Value).toList := by simp [rks, Rk.cells]
  rw [e1, e2]; exact h
theorem own_rg1 {w : World} {base : Nat} {t : TypeId} {v : Value} {l : List Rg} {r : Rg} {n : Nat} (hn : l.length = n) (h : w.ownsRow base t 8 v (n + 1) (rngs l ++ (#[.bool r.lo.null, .int .i64 r.lo.n, .string r.lo.s, .int .i64 r.lo.seq, .bool r.hi.null, .int .i64 r.hi.n, .string r.hi.s, .int .i64 r.hi.seq] : Array Value).toList)) : w.ownsRow base t 8 v (l ++ [r]).length (rngs (l ++ [r])) := by
  subst hn; exact own_rngs (r := r) rfl h
theorem own_rg2 {w : World} {base : Nat} {t : TypeId} {v : Value} {l : List Rg} {r s : Rg} {n : Nat} (hn : l.length = n) (h : w.ownsRow base t 8 v (n + 2) (rngs l ++ (#[.bool r.lo.null, .int .i64 r.lo.n, .string r.lo.s, .int .i64 r.lo.seq, .bool r.hi.null, .int .i64 r.hi.n, .string r.hi.s, .int .i64 r.hi.seq, .bool s.lo.null, .int .i64 s.lo.n, .string s.lo.s, .int .i64 s.lo.seq, .bool s.hi.null, .int .i64 s.hi.n, .string s.hi.s, .int .i64 s.hi.seq] : Array Value).toList)) : w.ownsRow base t 8 v (l ++ [r, s]).length (rngs (l ++ [r, s])) := by
  subst hn
  have e1 : (l ++ [r, s]).length = l.length + 2 := by simp
  have e2 : rngs (l ++ [r, s]) = rngs l ++ (#[.bool r.lo.null, .int .i64 r.lo.n, .string r.lo.s, .int .i64 r.lo.seq, .bool r.hi.null, .int .i64 r.hi.n, .string r.hi.s, .int .i64 r.hi.seq, .bool s.lo.null, .int .i64 s.lo.n, .string s.lo.s, .int .i64 s.lo.seq, .bool s.hi.null, .int .i64 s.hi.n, .string s.hi.s, .int .i64 s.hi.seq] : Array Value).toList := by simp [rngs, Rg.cells]
  rw [e1, e2]; exact h
set_option maxRecDepth 100000 in
set_option maxHeartbeats 8000000 in
theorem pickerRaisesNothing_walk (v0 : Value) (zs : List Int) (a1 a2 a3 a4 : Int) (w : World) (hx : Sl w 1 v0 zs.length (ints zs)) (hxl : zs.length ≤ 9223372036854775807) (hxr : ∀ x ∈ zs, -9223372036854775808 ≤ x ∧ x ≤ 9223372036854775807) :
    Calls Try.prog 6 #[v0, .int .i64 a1, .int .i64 a2, .int .i64 a3, .int .i64 a4] w fun e w' => e = .returned (.bool true) ∧ Below w.heap.size w w' := by
  obtain ⟨A0, c0, rfl, _, _⟩ := hx.form
  have C1 := Lib.hid (kentries_any _ zs 7 w hx hxl hxr (by omega) (by omega))
  clear hx hxl hxr
  go_enter Try.func6, Try.ntmps6
  go_wp2_with fail
  refine C1.out.mono ?_
  rintro _ w1 ⟨v1, l, rfl, hll, hG, ho1, hb1⟩
  have HM := Lib.hid (made_of hG (by omega))
  have B1 := Lib.hid hb1
  have HS := Lib.hid (Sl.of_own ho1)
  obtain ⟨A1, cL, rfl, hc11, hc12⟩ := (Sl.of_own ho1).form
  have hl7 : l.length ≤ 7 := by omega
  clear hG ho1 hb1 C1 hll
  go_wp2_with fail
  refine (pick_any a1 3 _ (by omega) (by omega)).mono ?_
  rintro _ _ ⟨rfl, rfl⟩
  have x0 := pick_lo a1 3 (by omega)
  have x1 := pick_hi a1 3 (by omega)
  obtain ⟨x, hx⟩ : ∃ x, pick a1 3 = x := ⟨_, rfl⟩
  rw [hx] at x0 x1 ⊢
  clear hx
  obtain ⟨d, hd⟩ : ∃ d, 1 + x = d := ⟨_, rfl⟩
  have wx : IntKind.i64.wrap (1 + x) = d := by rw [← hd]; exact IntWalk.i64_in _ (by omega)
  have hd1 : 1 ≤ d := by omega
  clear hd
  go_wp2_with fail
  refine (pick_any a2 4 _ (by omega) (by omega)).mono ?_
  rintro _ _ ⟨rfl, rfl⟩
  have y0 := pick_lo a2 4 (by omega)
  have y1 := pick_hi a2 4 (by omega)
  obtain ⟨y, hy⟩ : ∃ y, pick a2 4 = y := ⟨_, rfl⟩
  rw [hy] at y0 y1 ⊢
  clear hy
  obtain ⟨u, hu⟩ : ∃ u, 2 + y = u := ⟨_, rfl⟩
  have wy : IntKind.i64.wrap (2 + y) = u := by rw [← hu]; exact IntWalk.i64_in _ (by omega)
  have hu1 : 2 ≤ u := by omega
  clear hu
  go_wp2_with fail
  refine (pick_any a3 20 _ (by omega) (by omega)).mono ?_
  rintro _ _ ⟨rfl, rfl⟩
  obtain ⟨rr, hr⟩ : ∃ rr, pick a3 20 = rr := ⟨_, rfl⟩
  rw [hr]
  clear hr
  have HPI := Lib.hid (pick28_any 1 _ l d u rr _ HS.out HM.out.small (by omega) HM.out.live')
  have HRZ := Lib.hid (fun h => HM.out.raise (rows := rr) hd1 hu1 h)
  obtain ⟨KS, hK⟩ : ∃ KS, pickQ 1 l d u rr = KS := ⟨_, rfl⟩
  rw [hK] at HPI HRZ
  clear hK
  go_wp2_with fail
  refine HPI.out.mono ?_
  rintro _ w2 ⟨v2, rfl, hb2, ho2, _⟩
  have B2 := Lib.hid (bst B1.out hb2)
  have HS2 := Lib.hid (HS.out.below hb2)
  have HK2 := Lib.hid (Sl.of_own ho2)
  obtain ⟨A2, cK, rfl, hcK1, hcK2⟩ := (Sl.of_own ho2).form
  clear hb2 ho2 HPI
  by_cases hk0 : KS.length = 0
  · have q1 : ((KS.length : Int) == 0) = true := by simp [hk0]
    have q1' : (KS.length == 0) = true := by simp [hk0]
    clear hk0
    go_wp2_with fail
    refine (awake28_any _).mono ?_
    rintro _ w3 ⟨rfl, hb3⟩
    have B3 := Lib.hid (bst B2.out hb3)
    clear hb3
    go_wp2
    go_ret
    exact ⟨rfl, B3.out⟩
  · have q1 : ((KS.length : Int) == 0) = false := by rw [beq_eq_false_iff_ne]; omega
    have q1' : (KS.length == 0) = false := by simpa using hk0
    obtain ⟨C, H, hRZ⟩ := HRZ.out (fun e => hk0 (by rw [e]; rfl))
    have HRS := Lib.hid hRZ.raises
    have HSM := Lib.hid hRZ.small
    obtain ⟨RC, hRC⟩ : ∃ RC, C.length = RC := ⟨_, rfl⟩
    have hKR : KS.length = RC := by rw [← hRZ.len, hRC]
    have HKR := Lib.hid hKR
    have hrc : RC ≤ 7 := by have := hRZ.small; omega
    have HCH := Lib.hid (show Calls Try.prog 16 #[.slice A1 l.length cL, .slice A2 KS.length cK] w2 (RetRow w2 41 12 C.length (ents C)) by rw [← hRZ.ch]; exact chosen28_any _ _ l KS w2 HS2.out HK2.out (by omega) (by omega))
    obtain ⟨LC, hLC⟩ : ∃ LC, C.map rgOf = LC := ⟨_, rfl⟩
    have hLCl : LC.length = RC := by rw [← hLC, List.length_map, hRC]
    have HRG := Lib.hid (fun X v (hv : Sl X 12 v C.length (ents C)) => show Calls Try.prog 14 #[v] X (RetRow X 44 8 LC.length (rngs LC)) by rw [← hLC]; exact rranges_any v C X hv (by omega))
    have HHU := Lib.hid (fun X v (hv : Sl X 8 v LC.length (rngs LC)) => show Calls Try.prog 24 #[.int .i64 1, v] X (RetHull X (some H)) by rw [← hRZ.hull, hLC]; exact rhull_any 1 v LC X hv (by omega))
    rw [hRC] at HCH HRG
    rw [hLCl] at HRG HHU
    rw [hKR] at HCH HK2 hcK1 q1 q1' hk0
    simp only [hKR]
    have q2 : ((RC : Int) != (RC : Int)) = false := by simp
    have q2' : (RC != RC) = false := by simp
    clear hRZ hRC hKR hLC hLCl hk0 HRZ
    go_wp2_with fail
    with_reducible refine HCH.out.mono ?_
    rintro _ w3 ⟨v3, rfl, hb3, ho3⟩
    have B3 := Lib.hid (bst B2.out hb3)
    have HS3 := Lib.hid (HS2.out.below hb3)
    have HK3 := Lib.hid (HK2.out.below hb3)
    have HG3 := Lib.hid (HRG.out _ _ (Sl.of_own ho3))
    obtain ⟨A3, cC, rfl, hcC1, hcC2⟩ := (Sl.of_own ho3).form
    clear hb3 ho3 HCH HRG
    go_wp2_with fail
    with_reducible refine HG3.out.mono ?_
    rintro _ w4 ⟨v4, rfl, hb4, ho4⟩
    have B4 := Lib.hid (bst B3.out hb4)
    have HS4 := Lib.hid (HS3.out.below hb4)
    have HK4 := Lib.hid (HK3.out.below hb4)
    have HH4 := Lib.hid (HHU.out _ _ (Sl.of_own ho4))
    obtain ⟨A4, c4, rfl, _, _⟩ := (Sl.of_own ho4).form
    clear hb4 ho4 HG3 HHU
    go_wp2_with fail
    with_reducible refine HH4.out.mono ?_
    rintro _ w5 ⟨rfl, hb5⟩
    simp only [show oRg (some H) = H from rfl, Option.isSome_some]
    obtain ⟨N, hN⟩ : ∃ N, w5.heap.size = N := ⟨_, rfl⟩
    obtain ⟨U, hU⟩ : ∃ U, U = w5.alloc (.cells #[.bool H.lo.null, .int .i64 H.lo.n, .string H.lo.s, .int .i64 H.lo.seq, .bool H.hi.null, .int .i64 H.hi.n, .string H.hi.s, .int .i64 H.hi.seq] 44) := ⟨_, rfl⟩
    have hbU : Below w4.heap.size w4 U := by rw [hU]; exact hb5.alloc hb5.size _
    have UH := Lib.hid (show Blk U N 44 #[.bool H.lo.null, .int .i64 H.lo.n, .string H.lo.s, .int .i64 H.lo.seq, .bool H.hi.null, .int .i64 H.hi.n, .string H.hi.s, .int .i64 H.hi.seq] by rw [hU, ← hN]; exact Blk.new _ _ _)
    have BU := Lib.hid (bst B4.out hbU)
    have SU := Lib.hid (HS4.out.below hbU)
    have KU := Lib.hid (HK4.out.below hbU)
    clear hb5 hbU HH4
    go_upto_region 7 with (fail)
    rw [← hU]
    try simp only [hN]
    clear hU hN
    go_wp2
    go_loopw [16, 17, 59] (fun av ev i wr => ∃ (m : Nat) (rs : List Rg) (es : List Rk), m ≤ l.length ∧ i = .int .i64 m ∧ rs.length ≤ m ∧ es.length ≤ 2 * m ∧ Hid (rs = (leftE l KS m).map rgOf) ∧ Hid (es = endsE (leftE l KS m)) ∧ wr.ownsRow U.heap.size 44 8 av rs.length (rngs rs) ∧ wr.ownsRow U.heap.size 37 4 ev es.length (rks es) ∧ Below U.heap.size U wr) (fun _ _ i _ => l.length - (intOf i).toNat)
    case atStart => exact ⟨0, [], [], by omega, rfl, by simp, by simp, Lib.hid (by simp [leftE]), Lib.hid (by simp [leftE, endsE]), World.ownsRow_nil _ _ _ _, World.ownsRow_nil _ _ _ _, Below.refl _ _⟩
    case round =>
      obtain ⟨m, rs, es, hm, rfl, hrl, hel, hrs, hes, hoA, hoE, hbel⟩ := hrel
      by_cases hlt : m < l.length
      · obtain ⟨ad, e, pe, rfl, he, hpe, hE⟩ := (SU.out.below hbel).ent_load rfl hlt
        obtain ⟨hplt, c0, c1, c2, c3, c4, c5, c6, c7, c8, c9, c10, c11⟩ := hE
        have HLT := Lib.hid hlt
        have qm : decide (m < l.length) = true := by simpa using hlt
        have HNX := Lib.hid (leftE_next (K := KS) he)
        obtain ⟨av, hav⟩ : ∃ q, q = u16 := ⟨_, rfl⟩
        obtain ⟨N7, hN7⟩ : ∃ N, wr.heap.size = N := ⟨_, rfl⟩
        obtain ⟨V, hV⟩ : ∃ V, V = wr.alloc (.cells #[.int .i64 e.id, .int .i64 e.rows, .int .i64 e.live, .bool e.lo.null, .int .i64 e.lo.n, .string e.lo.s, .int .i64 e.lo.seq, .bool e.hi.null, .int .i64 e.hi.n, .string e.hi.s, .int .i64 e.hi.seq, .int .i64 e.del] 41) := ⟨_, rfl⟩
        have hbV : Below wr.heap.size wr V := by rw [hV]; exact abel _ _
        have VB := Lib.hid (show Below U.heap.size U V by rw [hV]; exact hbel.alloc hbel.size _)
        have VE := Lib.hid (show Blk V N7 41 #[.int .i64 e.id, .int .i64 e.rows, .int .i64 e.live, .bool e.lo.null, .int .i64 e.lo.n, .string e.lo.s, .int .i64 e.lo.seq, .bool e.hi.null, .int .i64 e.hi.n, .string e.hi.s, .int .i64 e.hi.seq, .int .i64 e.del] by rw [hV, ← hN7]; exact Blk.new _ _ _)
        have VA := Lib.hid (own_below hoA hbV)
        have VO := Lib.hid (own_below hoE hbV)
        obtain ⟨GL, hGL⟩ : ∃ GL, chosenE [e] KS = GL := ⟨_, rfl⟩
        have hgl : GL.length ≤ 7 := by rw [← hGL]; have := chosenE_len [e] KS; have := HKR.out; simp at *; omega
        rw [hGL] at HNX
        have HCE := Lib.hid (fun X (hX : Below V.heap.size V X) (hs : Sl X 12 (.slice (some ⟨V.heap.size, 0, none⟩) 1 1) 1 (ents [e])) => show Calls Try.prog 16 #[.slice (some ⟨V.heap.size, 0, none⟩) 1 1, .slice A2 RC cK] X (RetRow X 41 12 GL.length (ents GL)) by
          rw [← hGL]
          exact chosen28_any _ _ [e] KS X hs (by have := (KU.out.below VB.out).below hX; rw [HKR.out]; exact this) (by simp) (by rw [HKR.out]; omega))
        clear he hbV hoA hoE hbel hGL hav
        go_upto_region 14 with (fail)
        rw [← hV]
        try simp only [hN7]
        clear hV hN7 c0 c1 c2 c3 c4 c5 c6 c7 c8 c9 c10 c11 hpe hplt
        have bb := VE.out
        have x0 := bb.cell 0
        have x1 := bb.cell 1
        have x2 := bb.cell 2
        have x3 := bb.cell 3
        have x4 := bb.cell 4
        have x5 := bb.cell 5
        have x6 := bb.cell 6
        have x7 := bb.cell 7
        have x8 := bb.cell 8
        have x9 := bb.cell 9
        have x10 := bb.cell 10
        have x11 := bb.cell 11
        simp only [List.getElem?_toArray, List.getElem?_cons_zero, List.getElem?_cons_succ] at x0 x1 x2 x3 x4 x5 x6 x7 x8 x9 x10 x11
        clear bb
        go_wp2_with fail
        with_reducible refine (HCE.out _ (abel _ _) (ents_one (Blk.new _ _ _))).mono ?_
        rintro _ w8 ⟨v8, rfl, hb8, ho8⟩
        obtain ⟨A8, c8, rfl, _, _⟩ := (Sl.of_own ho8).form
        have hb8' := bst (abel V (.cells #[.int .i64 e.id, .int .i64 e.rows, .int .i64 e.live, .bool e.lo.null, .int .i64 e.lo.n, .string e.lo.s, .int .i64 e.lo.seq, .bool e.hi.null, .int .i64 e.hi.n, .string e.hi.s, .int .i64 e.hi.seq, .int .i64 e.del] 41)) hb8
        have VB8 := Lib.hid (bst VB.out hb8')
        have VE8 := Lib.hid (VE.out.below hb8' VE.out.lt)
        have VA8 := Lib.hid (own_below VA.out hb8')
        have VO8 := Lib.hid (own_below VO.out hb8')
        clear hb8 hb8' ho8 HCE
        clear x0 x1 x2 x3 x4 x5 x6 x7 x8 x9 x10 x11
        by_cases hg0 : GL.length = 0
        · have qg : ((GL.length : Int) == 0) = true := by simp [hg0]
          have qg' : (GL.length == 0) = true := by simp [hg0]
          have HNY := Lib.hid (show leftE l KS (m + 1) = leftE l KS m ++ [e] by rw [HNX.out, if_pos (by rw [List.isEmpty_iff]; exact List.eq_nil_of_length_eq_zero hg0)])
          have HRO := Lib.hid (fun X => rangeOf_any e X)
          clear hg0
          have bb := VE8.out
          have x0 := bb.cell 0
          have x1 := bb.cell 1
          have x2 := bb.cell 2
          have x3 := bb.cell 3
          have x4 := bb.cell 4
          have x5 := bb.cell 5
          have x6 := bb.cell 6
          have x7 := bb.cell 7
          have x8 := bb.cell 8
          have x9 := bb.cell 9
          have x10 := bb.cell 10
          have x11 := bb.cell 11
          simp only [List.getElem?_toArray, List.getElem?_cons_zero, List.getElem?_cons_succ] at x0 x1 x2 x3 x4 x5 x6 x7 x8 x9 x10 x11
          clear bb
          go_wp2_with fail
          refine (HRO.out _).mono ?_
          rintro _ w9 ⟨rfl, hb9⟩
          have VB9 := Lib.hid (bst VB8.out hb9)
          have VE9 := Lib.hid (VE8.out.below hb9 VE8.out.lt)
          obtain ⟨R1, hR1⟩ : ∃ q, rs.length = q := ⟨_, rfl⟩
          obtain ⟨R2, hR2⟩ : ∃ q, es.length = q := ⟨_, rfl⟩
          have hA9 := own_below VA8.out hb9
          have hE9 := own_below VO8.out hb9
          have hB9 := VB9.out
          have hsz := hB9.size
          rw [hR1] at hA9 hrl
          rw [hR2] at hE9 hel
          have HR1 := Lib.hid hR1
          have HR2 := Lib.hid hR2
          simp only [hR1, hR2]
          simp only [show rgOf e = ⟨e.lo, e.hi⟩ from rfl]
          clear hb9 hR1 hR2
          clear x0 x1 x2 x3 x4 x5 x6 x7 x8 x9 x10 x11
          go_wp2_with (at_builtin; go_must (refine app1 _ _ hA9 hB9 (Nat.le_refl _) hsz under_range info_range rfl (by decide) rfl (one8 _ _ _ _ _ _ _ _) (by omega) (by omega) rfl rfl rfl rfl ?_))
          intro g9 cap9 w10 hA10 hB10 hgr10 _
          have VE10 := Lib.hid (VE9.out.grown hgr10 (own_blk_ne hA9 VE9.out (by decide)))
          have hE10 := own_grown hE9 hgr10 (own_ne hE9 hA9 (by decide))
          have hsz10 := hB10.size
          have HA10 := Lib.hid hA10
          have HB10 := Lib.hid hB10
          clear hA9 hE9 hB9 hsz hgr10 hA10 hB10
          have bb := VE10.out
          have x0 := bb.cell 0
          have x1 := bb.cell 1
          have x2 := bb.cell 2
          have x3 := bb.cell 3
          have x4 := bb.cell 4
          have x5 := bb.cell 5
          have x6 := bb.cell 6
          have x7 := bb.cell 7
          have x8 := bb.cell 8
          have x9 := bb.cell 9
          have x10 := bb.cell 10
          have x11 := bb.cell 11
          simp only [List.getElem?_toArray, List.getElem?_cons_zero, List.getElem?_cons_succ] at x0 x1 x2 x3 x4 x5 x6 x7 x8 x9 x10 x11
          clear bb
          go_wp2_with (at_builtin; go_must (refine app2 _ _ hE10 HB10.out (Nat.le_refl _) hsz10 under_rank info_rank rfl (by decide) rfl (two4 _ _ _ _ _ _ _ _) (by omega) (by omega) rfl rfl rfl rfl ?_))
          intro g11 cap11 w11 hE11 hB11 hgr11 _
          have HA11 := Lib.hid (own_rg1 (r := rgOf e) HR1.out (own_grown HA10.out hgr11 (own_ne HA10.out hE10 (by decide))))
          have HE11 := Lib.hid (own_rk2 (e := e) HR2.out hE11)
          have HB11 := Lib.hid hB11
          have HRS1 := Lib.hid (show rs ++ [rgOf e] = (leftE l KS (m + 1)).map rgOf by rw [HNY.out, List.map_append, hrs.out]; rfl)
          have HES1 := Lib.hid (show es ++ [e.lo, e.hi] = endsE (leftE l KS (m + 1)) by rw [HNY.out, endsE_snoc, hes.out])
          have HRL := Lib.hid (show (rs ++ [rgOf e]).length ≤ m + 1 by rw [List.length_append, HR1.out]; simp; omega)
          have HEL := Lib.hid (show (es ++ [e.lo, e.hi]).length ≤ 2 * (m + 1) by rw [List.length_append, HR2.out]; simp; omega)
          clear hE10 hE11 hB11 hgr11 hsz10
          clear x0 x1 x2 x3 x4 x5 x6 x7 x8 x9 x10 x11
          go_wp2
          go_roundw
          case rel => exact ⟨m + 1, rs ++ [rgOf e], es ++ [e.lo, e.hi], HLT.out, by go_num, HRL.out, HEL.out, HRS1, HES1, by have := HA11.out; simpa only [List.length_append, List.length_cons, List.length_nil, HR1.out] using this, by have := HE11.out; simpa only [List.length_append, List.length_cons, List.length_nil, HR2.out] using this, HB11.out⟩
          case measure => have := HLT.out; simp [intOf]; omega
        · have qg : ((GL.length : Int) == 0) = false := by rw [beq_eq_false_iff_ne]; omega
          have qg' : (GL.length == 0) = false := by simpa using hg0
          have HNY := Lib.hid (show leftE l KS (m + 1) = leftE l KS m by rw [HNX.out, if_neg (by rw [List.isEmpty_iff]; intro h; rw [h] at hg0; exact hg0 rfl), List.append_nil])
          have HRS1 := Lib.hid (show rs = (leftE l KS (m + 1)).map rgOf by rw [HNY.out]; exact hrs.out)
          have HES1 := Lib.hid (show es = endsE (leftE l KS (m + 1)) by rw [HNY.out]; exact hes.out)
          clear hg0
          go_wp2
          go_roundw
          case rel => exact ⟨m + 1, rs, es, HLT.out, by go_num, by omega, by omega, HRS1, HES1, VA8.out, VO8.out, VB8.out⟩
          case measure => have := HLT.out; simp [intOf]; omega
      · have hml : m = l.length := by omega
        have HRS0 := Lib.hid (show rs = (leftE l KS l.length).map rgOf by rw [hrs.out, hml])
        have HES0 := Lib.hid (show es = endsE (leftE l KS l.length) by rw [hes.out, hml])
        have hrl7 : rs.length ≤ 7 := by omega
        have hel7 : es.length ≤ 14 := by omega
        have qm : decide (m < l.length) = false := by simpa using hlt
        clear hrs hes hml hlt hm hrl hel
        obtain ⟨R1, hR1⟩ : ∃ q, rs.length = q := ⟨_, rfl⟩
        obtain ⟨R2, hR2⟩ : ∃ q, es.length = q := ⟨_, rfl⟩
        rw [hR1] at hoA hrl7
        rw [hR2] at hoE hel7
        have HR1 := Lib.hid hR1
        have HR2 := Lib.hid hR2
        try simp only [hR1, hR2]
        clear hR1 hR2
        go_wp2_with fail
        refine (pick_any a4 12 _ (by omega) (by omega)).mono ?_
        rintro _ _ ⟨rfl, rfl⟩
        have z0 := pick_lo a4 12 (by omega)
        have z1 := pick_hi a4 12 (by omega)
        obtain ⟨z, hz⟩ : ∃ z, pick a4 12 = z := ⟨_, rfl⟩
        rw [hz] at z0 z1 ⊢
        clear hz
        obtain ⟨N9, hN9⟩ : ∃ N, wr.heap.size = N := ⟨_, rfl⟩
        obtain ⟨Y, hY⟩ : ∃ Y, Y = wr.alloc (.cells #[.bool false, .int .i64 z, .string { data := #[] }, .int .i64 1] 37) := ⟨_, rfl⟩
        have hbY : Below wr.heap.size wr Y := by rw [hY]; exact abel _ _
        have YK := Lib.hid (show Blk Y N9 37 #[.bool false, .int .i64 z, .string { data := #[] }, .int .i64 1] by rw [hY, ← hN9]; exact Blk.new _ _ _)
        have YB := Lib.hid (show Below U.heap.size U Y by rw [hY]; exact hbel.alloc hbel.size _)
        have YA := Lib.hid (own_below hoA hbY)
        have YE := Lib.hid (own_below hoE hbY)
        have YH := Lib.hid (UH.out.below YB.out UH.out.lt)
        have hNN : N9 ≠ N := by have := UH.out.lt; have := hbel.size; omega
        obtain ⟨ca, hca⟩ : ∃ q, cmpR 1 H.lo (rk0 z 1) = q := ⟨_, rfl⟩
        obtain ⟨cb, hcb⟩ : ∃ q, cmpR 1 (rk0 z 1) H.hi = q := ⟨_, rfl⟩
        have HCA := Lib.hid (fun X => show Calls Try.prog 25 #[.int .i64 1, .agg #[.bool H.lo.null, .int .i64 H.lo.n, .string H.lo.s, .int .i64 H.lo.seq], .agg #[.bool false, .int .i64 z, .string { data := #[] }, .int .i64 1]] X (RetN X ca) by rw [← hca]; exact rcmpRank_any 1 H.lo (rk0 z 1) X)
        have HCB := Lib.hid (fun X => show Calls Try.prog 25 #[.int .i64 1, .agg #[.bool false, .int .i64 z, .string { data := #[] }, .int .i64 1], .agg #[.bool H.hi.null, .int .i64 H.hi.n, .string H.hi.s, .int .i64 H.hi.seq]] X (RetN X cb) by rw [← hcb]; exact rcmpRank_any 1 (rk0 z 1) H.hi X)
        have HCU := Lib.hid (show cutB H z = (decide (ca ≤ 0) && decide (cb < 0)) by unfold cutB; rw [hca, hcb])
        have HAF := Lib.hid (show afterR l KS H z = rs ++ newR H z by unfold afterR; rw [HRS0.out])
        have HRZ := Lib.hid (fun q hq => HRS.out z q hq)
        rw [← HES0.out] at HRZ
        have HLN := Lib.hid (afterR_len l KS H z)
        clear hbY hoA hoE hbel hca hcb HRS HRS0 HES0
        go_upto_region 19 with (fail)
        rw [← hY]
        try simp only [hN9]
        clear hY hN9
        have bb := YK.out
        have k0 := bb.cell 0
        have k1 := bb.cell 1
        have k2 := bb.cell 2
        have k3 := bb.cell 3
        simp only [List.getElem?_toArray, List.getElem?_cons_zero, List.getElem?_cons_succ] at k0 k1 k2 k3
        clear bb
        have bb := YH.out
        have h0 := bb.cell 0
        have h1 := bb.cell 1
        have h2 := bb.cell 2
        have h3 := bb.cell 3
        have h4 := bb.cell 4
        have h5 := bb.cell 5
        have h6 := bb.cell 6
        have h7 := bb.cell 7
        simp only [List.getElem?_toArray, List.getElem?_cons_zero, List.getElem?_cons_succ] at h0 h1 h2 h3 h4 h5 h6 h7
        clear bb
        go_wp2_with fail
        refine (HCA.out _).mono ?_
        rintro _ w10 ⟨rfl, hb⟩
        have YK1 := Lib.hid (YK.out.below hb YK.out.lt)
        have YH1 := Lib.hid (YH.out.below hb YH.out.lt)
        have YA1 := Lib.hid (own_below YA.out hb)
        have YE1 := Lib.hid (own_below YE.out hb)
        have YB1 := Lib.hid (bst YB.out hb)
        clear hb
        clear k0 k1 k2 k3
        clear h0 h1 h2 h3 h4 h5 h6 h7
        have bb := YK1.out
        have k0 := bb.cell 0
        have k1 := bb.cell 1
        have k2 := bb.cell 2
        have k3 := bb.cell 3
        simp only [List.getElem?_toArray, List.getElem?_cons_zero, List.getElem?_cons_succ] at k0 k1 k2 k3
        clear bb
        have bb := YH1.out
        have h0 := bb.cell 0
        have h1 := bb.cell 1
        have h2 := bb.cell 2
        have h3 := bb.cell 3
        have h4 := bb.cell 4
        have h5 := bb.cell 5
        have h6 := bb.cell 6
        have h7 := bb.cell 7
        simp only [List.getElem?_toArray, List.getElem?_cons_zero, List.getElem?_cons_succ] at h0 h1 h2 h3 h4 h5 h6 h7
        clear bb
        by_cases hq : ca ≤ 0
        · have q8 : decide (ca ≤ 0) = true := by simpa using hq
          clear hq
          go_wp2_with fail
          refine (HCB.out _).mono ?_
          rintro _ w11 ⟨rfl, hb⟩
          have YK2 := Lib.hid (YK1.out.below hb YK1.out.lt)
          have YH2 := Lib.hid (YH1.out.below hb YH1.out.lt)
          have YA2 := Lib.hid (own_below YA1.out hb)
          have YE2 := Lib.hid (own_below YE1.out hb)
          have YB2 := Lib.hid (bst YB1.out hb)
          clear hb
          clear k0 k1 k2 k3
          clear h0 h1 h2 h3 h4 h5 h6 h7
          have bb := YK2.out
          have k0 := bb.cell 0
          have k1 := bb.cell 1
          have k2 := bb.cell 2
          have k3 := bb.cell 3
          simp only [List.getElem?_toArray, List.getElem?_cons_zero, List.getElem?_cons_succ] at k0 k1 k2 k3
          clear bb
          have bb := YH2.out
          have h0 := bb.cell 0
          have h1 := bb.cell 1
          have h2 := bb.cell 2
          have h3 := bb.cell 3
          have h4 := bb.cell 4
          have h5 := bb.cell 5
          have h6 := bb.cell 6
          have h7 := bb.cell 7
          simp only [List.getElem?_toArray, List.getElem?_cons_zero, List.getElem?_cons_succ] at h0 h1 h2 h3 h4 h5 h6 h7
          clear bb
          by_cases hq : cb < 0
          · have q9 : decide (cb < 0) = true := by simpa using hq
            have HQ := Lib.hid (show cutB H z = true by rw [HCU.out, q8, q9]; rfl)
            clear hq
            have HNW := Lib.hid (show afterR l KS H z = rs ++ [⟨H.lo, rk0 z 1⟩, ⟨rk0 z 2, H.hi⟩] by rw [HAF.out]; unfold newR; rw [if_pos HQ.out])
            have hA := YA2.out
            have hB := YB2.out
            have hsz := hB.size
            go_wp2_with (at_builtin; go_must (refine app2 _ _ hA hB (Nat.le_refl _) hsz under_range info_range rfl (by decide) rfl (two8 _ _ _ _ _ _ _ _ _ _ _ _ _ _ _ _) (by omega) (by omega) rfl rfl rfl rfl ?_))
            intro g12 cap12 w12 hA12 hB12 hgr12 _
            have HA12 := Lib.hid (own_rg2 (r := ⟨H.lo, rk0 z 1⟩) (s := ⟨rk0 z 2, H.hi⟩) HR1.out hA12)
            obtain ⟨NL, hNL⟩ : ∃ q, R1 + 2 = q := ⟨_, rfl⟩
            have HNL := Lib.hid (show (rs ++ [(⟨H.lo, rk0 z 1⟩ : Rg), ⟨rk0 z 2, H.hi⟩]).length = NL by rw [List.length_append, HR1.out, ← hNL]; rfl)
            rw [hNL] at HA12
            simp only [hNL]
            have HE12 := Lib.hid (own_grown YE2.out hgr12 (own_ne YE2.out hA (by decide)))
            have HB12 := Lib.hid hB12
            clear hA hB hsz hA12 hB12 hgr12
            clear k0 k1 k2 k3
            clear h0 h1 h2 h3 h4 h5 h6 h7
            rw [← HNW.out] at HA12 HNL
            obtain ⟨AF, hAF⟩ : ∃ q, afterR l KS H z = q := ⟨_, rfl⟩
            rw [hAF] at HA12 HNL HRZ HLN
            clear hAF hNL HNW HAF HCU HQ
            have HSA := Lib.hid (show Sl w12 8 (.slice (some ⟨g12, 0, none⟩) NL cap12) NL (rngs AF) by have := Sl.of_own HA12.out; rw [HNL.out] at this; exact this)
            have hNL9 : NL ≤ 9 := by have := HLN.out; rw [HNL.out] at this; omega
            have HCK := Lib.hid (show Calls Try.prog 26 #[.int .i64 1, .slice (some ⟨g12, 0, none⟩) NL cap12] w12 (RetBe w12 (chkRs 1 AF)) from rchkRs_any 1 _ AF w12 (by rw [HNL.out]; exact HSA.out) (by rw [HNL.out]; omega))
            cases hck : chkRs 1 AF with
            | false =>
              rw [hck] at HCK
              clear hck
              go_wp2_with fail
              refine HCK.out.mono ?_
              rintro _ w13 ⟨rfl, hb13⟩
              have B13 := Lib.hid (bst BU.out (bst HB12.out hb13))
              clear hb13
              go_wp2_with fail
              refine (awake28_any _).mono ?_
              rintro _ w14 ⟨rfl, hb14⟩
              have B14 := Lib.hid (bst B13.out hb14)
              clear hb14
              go_wp2
              go_ret
              exact ⟨rfl, B14.out⟩
            | true =>
              rw [hck] at HCK
              have HST := Lib.hid (fun q (hq : q ∈ es) => show stabR 1 AF q ≤ stabR 1 (l.map rgOf) q by
                unfold stabR
                rw [if_pos hck, if_pos HM.out.chkR]
                exact HRZ.out q hq)
              clear hck HRZ
              go_wp2_with fail
              refine HCK.out.mono ?_
              rintro _ w13 ⟨rfl, hb13⟩
              have B13 := Lib.hid (bst BU.out (bst HB12.out hb13))
              have SA13 := Lib.hid (HSA.out.below hb13)
              have SE13 := Lib.hid (show Sl w13 4 _ R2 (rks es) from (Sl.of_own HE12.out).below hb13)
              have SL13 := Lib.hid (SU.out.below (bst HB12.out hb13))
              obtain ⟨AE, cE, e17, hcE1, hcE2⟩ := SE13.out.form
              subst e17
              obtain ⟨LR, hLR⟩ : ∃ q, l.map rgOf = q := ⟨_, rfl⟩
              have hLRl : LR.length ≤ 7 := by rw [← hLR, List.length_map]; omega
              have HRG := Lib.hid (fun X (hX : Below w13.heap.size w13 X) => show Calls Try.prog 14 #[.slice A1 l.length cL] X (RetRow X 44 8 LR.length (rngs LR)) by rw [← hLR]; exact rranges_any _ l X (SL13.out.below hX) (by omega))
              rw [hLR] at HST
              clear hb13 HCK hLR
              go_wp2
              go_loopw [121] (fun i wi => ∃ n : Nat, n ≤ R2 ∧ i = .int .i64 n ∧ Below w13.heap.size w13 wi) (fun i _ => R2 - (intOf i).toNat)
              case atStart => exact ⟨0, by omega, rfl, Below.refl _ _⟩
              case round =>
                obtain ⟨n, hn, rfl, hbel⟩ := hrel
                by_cases hlt : n < R2
                · obtain ⟨ad2, q, pq, rfl, hqe, hpq, hQ⟩ := (SE13.out.below hbel).rk_load HR2.out.symm hlt
                  obtain ⟨hplt, c0, c1, c2, c3⟩ := hQ
                  have HLT := Lib.hid hlt
                  have qn : decide (n < R2) = true := by simpa using hlt
                  have hle := HST.out q (List.mem_of_getElem? hqe)
                  obtain ⟨N5, hN5⟩ : ∃ N, wr.heap.size = N := ⟨_, rfl⟩
                  obtain ⟨V, hV⟩ : ∃ V, V = wr.alloc (.cells #[.bool q.null, .int .i64 q.n, .string q.s, .int .i64 q.seq] 37) := ⟨_, rfl⟩
                  have VB := Lib.hid (show Below w13.heap.size w13 V by rw [hV]; exact hbel.alloc hbel.size _)
                  have VQ := Lib.hid (show Blk V N5 37 #[.bool q.null, .int .i64 q.n, .string q.s, .int .i64 q.seq] by rw [hV, ← hN5]; exact Blk.new _ _ _)
                  have HS1 := Lib.hid (fun X (hX : Below V.heap.size V X) => show Calls Try.prog 27 #[.int .i64 1, .slice (some ⟨g12, 0, none⟩) NL cap12, .agg #[.bool q.null, .int .i64 q.n, .string q.s, .int .i64 q.seq]] X (RetN X (stabR 1 AF q : Int)) from rstab_any 1 _ AF q X (by rw [HNL.out]; exact (SA13.out.below VB.out).below hX) (by rw [HNL.out]; omega))
                  have HS2 := Lib.hid (fun X v (hv : Sl X 8 v LR.length (rngs LR)) => show Calls Try.prog 27 #[.int .i64 1, v, .agg #[.bool q.null, .int .i64 q.n, .string q.s, .int .i64 q.seq]] X (RetN X (stabR 1 LR q : Int)) from rstab_any 1 v LR q X hv (by omega))
                  have HRX := Lib.hid (fun X (hX : Below V.heap.size V X) => HRG.out X (bst VB.out hX))
                  obtain ⟨s1, hs1⟩ : ∃ s, stabR 1 AF q = s := ⟨_, rfl⟩
                  obtain ⟨s2, hs2⟩ : ∃ s, stabR 1 LR q = s := ⟨_, rfl⟩
                  rw [hs1] at HS1 hle
                  rw [hs2] at HS2 hle
                  have qs : decide (s2 < s1) = false := by simp; omega
                  have qs' : decide ((s2 : Int) < (s1 : Int)) = false := by simp; omega
                  clear hqe hbel hs1 hs2
                  go_upto_region 27 with (fail)
                  rw [← hV]
                  try simp only [hN5]
                  clear hV hN5 c0 c1 c2 c3 hpq hplt
                  go_cut [132] from 125 to 131 (fun r wx => r = .bool false ∧ Below V.heap.size V wx)
                  case first =>
                    refine wp_region_inv (by kernel_rfl) (by kernel_rfl) (fun L a w' => ∃ u125 u126 u127 u128 u129 u130 u131 u132 : Value, a = ⟨#[.slice A0 zs.length c0, .int .i64 a1, .int .i64 a2, .int .i64 a3, .int .i64 a4, undef, undef, undef, undef, undef, u10, .slice A1 l.length cL, .slice A2 RC cK, .slice A3 RC cC, .pointer (some ⟨N, 0, none⟩), .bool true, .slice (some ⟨g12, 0, none⟩) NL cap12, .slice (some ad2) R2 cE, undef, u19, .pointer (some ⟨N9, 0, none⟩), undef, .pointer (some ⟨N5, 0, none⟩), .slice A0 zs.length c0, .slice A1 l.length cL, .slice A1 l.length cL, .int .i64 a1, .int .i64 x, .int .i64 d, .int .i64 a2, .int .i64 y, .int .i64 u, .int .i64 a3, .int .i64 rr, .slice A2 RC cK, .slice A2 RC cK, .int .i64 RC, .bool false, undef, .slice A1 l.length cL, .slice A2 RC cK, .slice A3 RC cC, .tuple #[.agg #[.bool H.lo.null, .int .i64 H.lo.n, .string H.lo.s, .int .i64 H.lo.seq, .bool H.hi.null, .int .i64 H.hi.n, .string H.hi.s, .int .i64 H.hi.seq], .bool true], .slice A3 RC cC, .slice A4 RC c4, .tuple #[.agg #[.bool H.lo.null, .int .i64 H.lo.n, .string H.lo.s, .int .i64 H.lo.seq, .bool H.hi.null, .int .i64 H.hi.n, .string H.hi.s, .int .i64 H.hi.seq], .bool true], .agg #[.bool H.lo.null, .int .i64 H.lo.n, .string H.lo.s, .int .i64 H.lo.seq, .bool H.hi.null, .int .i64 H.hi.n, .string H.hi.s, .int .i64 H.hi.seq], .bool true, .bool true, .bool false, .bool false, .slice A3 RC cC, .int .i64 RC, .slice A2 RC cK, .int .i64 RC, .bool false, .bool false, .slice A1 l.length cL, .int .i64 l.length, .int .i64 m, .bool false, u61, u62, u63, u64, u65, u66, u67, u68, u69, u70, u71, u72, u73, u74, u75, u76, u77, u78, u79, u80, u81, .int .i64 a4, .int .i64 z, .agg #[.bool false, .int .i64 z, .string { data := #[] }], .agg #[.bool false, .int .i64 z, .string { data := #[] }, .int .i64 1], .pointer (some ⟨N, 0, none⟩), .agg #[.bool H.lo.null, .int .i64 H.lo.n, .string H.lo.s, .int .i64 H.lo.seq], .agg #[.bool false, .int .i64 z, .string { data := #[] }, .int .i64 1], .int .i64 ca, .bool true, .bool true, .agg #[.bool false, .int .i64 z, .string { data := #[] }, .int .i64 1], .pointer (some ⟨N, 4, none⟩), .agg #[.bool H.hi.null, .int .i64 H.hi.n, .string H.hi.s, .int .i64 H.hi.seq], .int .i64 cb, .bool true, .bool true, u16, .pointer (some ⟨N, 0, none⟩), .agg #[.bool H.lo.null, .int .i64 H.lo.n, .string H.lo.s, .int .i64 H.lo.seq], .agg #[.bool false, .int .i64 z, .string { data := #[] }, .int .i64 1], .agg #[.bool H.lo.null, .int .i64 H.lo.n, .string H.lo.s, .int .i64 H.lo.seq, .bool false, .int .i64 z, .string { data := #[] }, .int .i64 1], .pointer (some ⟨N9, 0, none⟩), .agg #[.bool false, .int .i64 z, .string { data := #[] }], .agg #[.bool false, .int .i64 z, .string { data := #[] }, .int .i64 2], .pointer (some ⟨N, 4, none⟩), .agg #[.bool H.hi.null, .int .i64 H.hi.n, .string H.hi.s, .int .i64 H.hi.seq], .agg #[.bool false, .int .i64 z, .string { data := #[] }, .int .i64 2, .bool H.hi.null, .int .i64 H.hi.n, .string H.hi.s, .int .i64 H.hi.seq], .slice (some ⟨w11.heap.size, 0, none⟩) 2 2, .slice (some ⟨g12, 0, none⟩) NL cap12, undef, undef, undef, undef, .slice (some ⟨g12, 0, none⟩) NL cap12, .bool true, .bool false, undef, .slice (some ad2) R2 cE, .int .i64 R2, .int .i64 n, .bool true, .pointer (some pq), .agg #[.bool q.null, .int .i64 q.n, .string q.s, .int .i64 q.seq], u125, u126, u127, u128, u129, u130, u131, u132, u133, undef], []⟩ ∧
                        Below V.heap.size V w' ∧ Got (L 0) u125 (.slice (some ⟨g12, 0, none⟩) NL cap12) ∧ Got (L 1) u126 (.agg #[.bool q.null, .int .i64 q.n, .string q.s, .int .i64 q.seq]) ∧ Got (L 2) u127 (.int .i64 (s1 : Int)) ∧ Got (L 3) u128 (.slice A1 l.length cL) ∧ (L 4 = true → ∃ A c, u129 = .slice A LR.length c ∧ Sl w' 8 (.slice A LR.length c) LR.length (rngs LR)) ∧ Got (L 5) u130 (.agg #[.bool q.null, .int .i64 q.n, .string q.s, .int .i64 q.seq]) ∧ Got (L 6) u131 (.int .i64 (s2 : Int)) ∧ Got (L 7) u132 (.bool false))
                      ?_ ?_ ?_
                    · exact ⟨_, _, _, _, _, _, _, _, rfl, (Below.refl _ _).drew, nofun, nofun, nofun, nofun, nofun, nofun, nofun, nofun⟩
                    · refine ⟨?_, ?_, ?_, ?_, ?_, ?_, ?_, ?_, trivial⟩
                      · intro L a w' hI hl hd K hK
                        refine hI.elim fun u125 hI => hI.elim fun u126 hI => hI.elim fun u127 hI => hI.elim fun u128 hI => hI.elim fun u129 hI => hI.elim fun u130 hI => hI.elim fun u131 hI => hI.elim fun u132 hI => ?_
                        have ha := hI.1
                        subst ha
                        have hb := hI.2.1
                        have g0 := hI.2.2.1
                        have g1 := hI.2.2.2.1
                        have g2 := hI.2.2.2.2.1
                        have g3 := hI.2.2.2.2.2.1
                        have g4 := hI.2.2.2.2.2.2.1
                        have g5 := hI.2.2.2.2.2.2.2.1
                        have g6 := hI.2.2.2.2.2.2.2.2.1
                        have g7 := hI.2.2.2.2.2.2.2.2.2
                        clear hI
                        dsimp only at hK ⊢
                        go_simp
                        exact hK _ _ ⟨_, _, _, _, _, _, _, _, rfl, hb, fun _ => rfl, g1, g2, g3, g4, g5, g6, g7⟩
                      · intro L a w' hI hl hd K hK
                        refine hI.elim fun u125 hI => hI.elim fun u126 hI => hI.elim fun u127 hI => hI.elim fun u128 hI => hI.elim fun u129 hI => hI.elim fun u130 hI => hI.elim fun u131 hI => hI.elim fun u132 hI => ?_
                        have ha := hI.1
                        subst ha
                        have hb := hI.2.1
                        have g0 := hI.2.2.1
                        have g1 := hI.2.2.2.1
                        have g2 := hI.2.2.2.2.1
                        have g3 := hI.2.2.2.2.2.1
                        have g4 := hI.2.2.2.2.2.2.1
                        have g5 := hI.2.2.2.2.2.2.2.1
                        have g6 := hI.2.2.2.2.2.2.2.2.1
                        have g7 := hI.2.2.2.2.2.2.2.2.2
                        clear hI
                        dsimp only at hK ⊢
                        have bb := VQ.out.below hb VQ.out.lt
                        have c0 := bb.cell 0
                        have c1 := bb.cell 1
                        have c2 := bb.cell 2
                        have c3 := bb.cell 3
                        simp only [List.getElem?_toArray, List.getElem?_cons_zero, List.getElem?_cons_succ] at c0 c1 c2 c3
                        clear bb
                        go_simp
                        exact hK _ _ ⟨_, _, _, _, _, _, _, _, rfl, hb, g0, fun _ => rfl, g2, g3, g4, g5, g6, g7⟩
                      · intro L a w' hI hl hd K hK
                        refine hI.elim fun u125 hI => hI.elim fun u126 hI => hI.elim fun u127 hI => hI.elim fun u128 hI => hI.elim fun u129 hI => hI.elim fun u130 hI => hI.elim fun u131 hI => hI.elim fun u132 hI => ?_
                        have ha := hI.1
                        subst ha
                        have hb := hI.2.1
                        have g0 := hI.2.2.1
                        have g1 := hI.2.2.2.1
                        have g2 := hI.2.2.2.2.1
                        have g3 := hI.2.2.2.2.2.1
                        have g4 := hI.2.2.2.2.2.2.1
                        have g5 := hI.2.2.2.2.2.2.2.1
                        have g6 := hI.2.2.2.2.2.2.2.2.1
                        have g7 := hI.2.2.2.2.2.2.2.2.2
                        clear hI
                        simp [Region.binds] at hd
                        dsimp only at hK ⊢
                        have e0 := g0 (by simp [hd])
                        subst e0
                        have e1 := g1 (by simp [hd])
                        subst e1
                        go_wp2_with fail
                        with_reducible refine (HS1.out w' hb).mono ?_
                        rintro _ w4 ⟨rfl, hb4⟩
                        exact hK _ _ ⟨_, _, _, _, _, _, _, _, rfl, bst hb hb4, g0, g1, fun _ => rfl, g3, (fun h => by obtain ⟨A, c, e, hs⟩ := g4 h; exact ⟨A, c, e, hs.below hb4⟩), g5, g6, g7⟩
                      · intro L a w' hI hl hd K hK
                        refine hI.elim fun u125 hI => hI.elim fun u126 hI => hI.elim fun u127 hI => hI.elim fun u128 hI => hI.elim fun u129 hI => hI.elim fun u130 hI => hI.elim fun u131 hI => hI.elim fun u132 hI => ?_
                        have ha := hI.1
                        subst ha
                        have hb := hI.2.1
                        have g0 := hI.2.2.1
                        have g1 := hI.2.2.2.1
                        have g2 := hI.2.2.2.2.1
                        have g3 := hI.2.2.2.2.2.1
                        have g4 := hI.2.2.2.2.2.2.1
                        have g5 := hI.2.2.2.2.2.2.2.1
                        have g6 := hI.2.2.2.2.2.2.2.2.1
                        have g7 := hI.2.2.2.2.2.2.2.2.2
                        clear hI
                        dsimp only at hK ⊢
                        go_simp
                        exact hK _ _ ⟨_, _, _, _, _, _, _, _, rfl, hb, g0, g1, g2, fun _ => rfl, g4, g5, g6, g7⟩
                      · intro L a w' hI hl hd K hK
                        refine hI.elim fun u125 hI => hI.elim fun u126 hI => hI.elim fun u127 hI => hI.elim fun u128 hI => hI.elim fun u129 hI => hI.elim fun u130 hI => hI.elim fun u131 hI => hI.elim fun u132 hI => ?_
                        have ha := hI.1
                        subst ha
                        have hb := hI.2.1
                        have g0 := hI.2.2.1
                        have g1 := hI.2.2.2.1
                        have g2 := hI.2.2.2.2.1
                        have g3 := hI.2.2.2.2.2.1
                        have g4 := hI.2.2.2.2.2.2.1
                        have g5 := hI.2.2.2.2.2.2.2.1
                        have g6 := hI.2.2.2.2.2.2.2.2.1
                        have g7 := hI.2.2.2.2.2.2.2.2.2
                        clear hI
                        simp [Region.binds] at hd
                        dsimp only at hK ⊢
                        have e3 := g3 (by simp [hd])
                        subst e3
                        go_wp2_with fail
                        with_reducible refine (HRX.out w' hb).mono ?_
                        rintro _ w4 ⟨v4, rfl, hb4, ho4⟩
                        obtain ⟨A4, c4, e4, _, _⟩ := (Sl.of_own ho4).form
                        subst e4
                        exact hK _ _ ⟨_, _, _, _, _, _, _, _, rfl, bst hb hb4, g0, g1, g2, g3, fun _ => ⟨A4, c4, rfl, Sl.of_own ho4⟩, g5, g6, g7⟩
                      · intro L a w' hI hl hd K hK
                        refine hI.elim fun u125 hI => hI.elim fun u126 hI => hI.elim fun u127 hI => hI.elim fun u128 hI => hI.elim fun u129 hI => hI.elim fun u130 hI => hI.elim fun u131 hI => hI.elim fun u132 hI => ?_
                        have ha := hI.1
                        subst ha
                        have hb := hI.2.1
                        have g0 := hI.2.2.1
                        have g1 := hI.2.2.2.1
                        have g2 := hI.2.2.2.2.1
                        have g3 := hI.2.2.2.2.2.1
                        have g4 := hI.2.2.2.2.2.2.1
                        have g5 := hI.2.2.2.2.2.2.2.1
                        have g6 := hI.2.2.2.2.2.2.2.2.1
                        have g7 := hI.2.2.2.2.2.2.2.2.2
                        clear hI
                        dsimp only at hK ⊢
                        have bb := VQ.out.below hb VQ.out.lt
                        have c0 := bb.cell 0
                        have c1 := bb.cell 1
                        have c2 := bb.cell 2
                        have c3 := bb.cell 3
                        simp only [List.getElem?_toArray, List.getElem?_cons_zero, List.getElem?_cons_succ] at c0 c1 c2 c3
                        clear bb
                        go_simp
                        exact hK _ _ ⟨_, _, _, _, _, _, _, _, rfl, hb, g0, g1, g2, g3, g4, fun _ => rfl, g6, g7⟩
                      · intro L a w' hI hl hd K hK
                        refine hI.elim fun u125 hI => hI.elim fun u126 hI => hI.elim fun u127 hI => hI.elim fun u128 hI => hI.elim fun u129 hI => hI.elim fun u130 hI => hI.elim fun u131 hI => hI.elim fun u132 hI => ?_
                        have ha := hI.1
                        subst ha
                        have hb := hI.2.1
                        have g0 := hI.2.2.1
                        have g1 := hI.2.2.2.1
                        have g2 := hI.2.2.2.2.1
                        have g3 := hI.2.2.2.2.2.1
                        have g4 := hI.2.2.2.2.2.2.1
                        have g5 := hI.2.2.2.2.2.2.2.1
                        have g6 := hI.2.2.2.2.2.2.2.2.1
                        have g7 := hI.2.2.2.2.2.2.2.2.2
                        clear hI
                        simp [Region.binds] at hd
                        dsimp only at hK ⊢
                        have e5 := g5 (by simp [hd])
                        subst e5
                        obtain ⟨A4, c4, e4, hs4⟩ := g4 (by simp [hd])
                        subst e4
                        go_wp2_with fail
                        with_reducible refine (HS2.out w' _ hs4).mono ?_
                        rintro _ w4 ⟨rfl, hb4⟩
                        exact hK _ _ ⟨_, _, _, _, _, _, _, _, rfl, bst hb hb4, g0, g1, g2, g3, (fun _ => ⟨A4, c4, rfl, hs4.below hb4⟩), g5, fun _ => rfl, g7⟩
                      · intro L a w' hI hl hd K hK
                        refine hI.elim fun u125 hI => hI.elim fun u126 hI => hI.elim fun u127 hI => hI.elim fun u128 hI => hI.elim fun u129 hI => hI.elim fun u130 hI => hI.elim fun u131 hI => hI.elim fun u132 hI => ?_
                        have ha := hI.1
                        subst ha
                        have hb := hI.2.1
                        have g0 := hI.2.2.1
                        have g1 := hI.2.2.2.1
                        have g2 := hI.2.2.2.2.1
                        have g3 := hI.2.2.2.2.2.1
                        have g4 := hI.2.2.2.2.2.2.1
                        have g5 := hI.2.2.2.2.2.2.2.1
                        have g6 := hI.2.2.2.2.2.2.2.2.1
                        have g7 := hI.2.2.2.2.2.2.2.2.2
                        clear hI
                        simp [Region.binds] at hd
                        dsimp only at hK ⊢
                        have e2 := g2 (by simp [hd])
                        subst e2
                        have e6 := g6 (by simp [hd])
                        subst e6
                        go_simp
                        exact hK _ _ ⟨_, _, _, _, _, _, _, _, rfl, hb, g0, g1, g2, g3, g4, g5, g6, fun _ => rfl⟩
                    intro a w3 hI
                    refine hI.elim fun u125 hI => hI.elim fun u126 hI => hI.elim fun u127 hI => hI.elim fun u128 hI => hI.elim fun u129 hI => hI.elim fun u130 hI => hI.elim fun u131 hI => hI.elim fun u132 hI => ?_
                    have ha := hI.1
                    subst ha
                    have hb := hI.2.1
                    have g0 := hI.2.2.1
                    have g1 := hI.2.2.2.1
                    have g2 := hI.2.2.2.2.1
                    have g3 := hI.2.2.2.2.2.1
                    have g4 := hI.2.2.2.2.2.2.1
                    have g5 := hI.2.2.2.2.2.2.2.1
                    have g6 := hI.2.2.2.2.2.2.2.2.1
                    have g7 := hI.2.2.2.2.2.2.2.2.2
                    clear hI
                    have e7 := g7 rfl
                    subst e7
                    have HX := Lib.hid hb
                    clear g0 g1 g2 g3 g4 g5 g6 g7 hb
                    go_wp2
                    go_meet
                    exact ⟨rfl, HX.out⟩
                  case rest =>
                    obtain ⟨rfl, hbc⟩ := hcut
                    have VB2 := Lib.hid (bst VB.out hbc)
                    clear hbc
                    go_wp2
                    go_roundw
                    case rel => exact ⟨n + 1, HLT.out, by go_num, VB2.out⟩
                    case measure => have := HLT.out; simp [intOf]; omega
                · have B14 := Lib.hid (bst B13.out hbel)
                  have qn : decide (n < R2) = false := by simpa using hlt
                  clear hbel
                  go_wp2_with fail
                  refine (awake28_any _).mono ?_
                  rintro _ w15 ⟨rfl, hb15⟩
                  have B15 := Lib.hid (bst B14.out hb15)
                  clear hb15
                  go_wp2
                  go_ret
                  exact ⟨rfl, B15.out⟩
          · have q9 : decide (cb < 0) = false := by simpa using hq
            have HQ := Lib.hid (show cutB H z = false by rw [HCU.out, q8, q9]; rfl)
            clear hq
            have HNW := Lib.hid (show afterR l KS H z = rs ++ [H] by rw [HAF.out]; unfold newR; rw [if_neg (by rw [HQ.out]; simp)])
            have hA := YA2.out
            have hB := YB2.out
            have hsz := hB.size
            go_wp2_with (at_builtin; go_must (refine app1 _ _ hA hB (Nat.le_refl _) hsz under_range info_range rfl (by decide) rfl (one8 _ _ _ _ _ _ _ _) (by omega) (by omega) rfl rfl rfl rfl ?_))
            intro g12 cap12 w12 hA12 hB12 hgr12 _
            have HA12 := Lib.hid (own_rg1 (r := H) HR1.out hA12)
            obtain ⟨NL, hNL⟩ : ∃ q, R1 + 1 = q := ⟨_, rfl⟩
            have HNL := Lib.hid (show (rs ++ [H]).length = NL by rw [List.length_append, HR1.out, ← hNL]; rfl)
            rw [hNL] at HA12
            simp only [hNL]
            have HE12 := Lib.hid (own_grown YE2.out hgr12 (own_ne YE2.out hA (by decide)))
            have HB12 := Lib.hid hB12
            clear hA hB hsz hA12 hB12 hgr12
            clear k0 k1 k2 k3
            clear h0 h1 h2 h3 h4 h5 h6 h7
            rw [← HNW.out] at HA12 HNL
            obtain ⟨AF, hAF⟩ : ∃ q, afterR l KS H z = q := ⟨_, rfl⟩
            rw [hAF] at HA12 HNL HRZ HLN
            clear hAF hNL HNW HAF HCU HQ
            have HSA := Lib.hid (show Sl w12 8 (.slice (some ⟨g12, 0, none⟩) NL cap12) NL (rngs AF) by have := Sl.of_own HA12.out; rw [HNL.out] at this; exact this)
            have hNL9 : NL ≤ 9 := by have := HLN.out; rw [HNL.out] at this; omega
            have HCK := Lib.hid (show Calls Try.prog 26 #[.int .i64 1, .slice (some ⟨g12, 0, none⟩) NL cap12] w12 (RetBe w12 (chkRs 1 AF)) from rchkRs_any 1 _ AF w12 (by rw [HNL.out]; exact HSA.out) (by rw [HNL.out]; omega))
            cases hck : chkRs 1 AF with
            | false =>
              rw [hck] at HCK
              clear hck
              go_wp2_with fail
              refine HCK.out.mono ?_
              rintro _ w13 ⟨rfl, hb13⟩
              have B13 := Lib.hid (bst BU.out (bst HB12.out hb13))
              clear hb13
              go_wp2_with fail
              refine (awake28_any _).mono ?_
              rintro _ w14 ⟨rfl, hb14⟩
              have B14 := Lib.hid (bst B13.out hb14)
              clear hb14
              go_wp2
              go_ret
              exact ⟨rfl, B14.out⟩
            | true =>
              rw [hck] at HCK
              have HST := Lib.hid (fun q (hq : q ∈ es) => show stabR 1 AF q ≤ stabR 1 (l.map rgOf) q by
                unfold stabR
                rw [if_pos hck, if_pos HM.out.chkR]
                exact HRZ.out q hq)
              clear hck HRZ
              go_wp2_with fail
              refine HCK.out.mono ?_
              rintro _ w13 ⟨rfl, hb13⟩
              have B13 := Lib.hid (bst BU.out (bst HB12.out hb13))
              have SA13 := Lib.hid (HSA.out.below hb13)
              have SE13 := Lib.hid (show Sl w13 4 _ R2 (rks es) from (Sl.of_own HE12.out).below hb13)
              have SL13 := Lib.hid (SU.out.below (bst HB12.out hb13))
              obtain ⟨AE, cE, e17, hcE1, hcE2⟩ := SE13.out.form
              subst e17
              obtain ⟨LR, hLR⟩ : ∃ q, l.map rgOf = q := ⟨_, rfl⟩
              have hLRl : LR.length ≤ 7 := by rw [← hLR, List.length_map]; omega
              have HRG := Lib.hid (fun X (hX : Below w13.heap.size w13 X) => show Calls Try.prog 14 #[.slice A1 l.length cL] X (RetRow X 44 8 LR.length (rngs LR)) by rw [← hLR]; exact rranges_any _ l X (SL13.out.below hX) (by omega))
              rw [hLR] at HST
              clear hb13 HCK hLR
              go_wp2
              go_loopw [121] (fun i wi => ∃ n : Nat, n ≤ R2 ∧ i = .int .i64 n ∧ Below w13.heap.size w13 wi) (fun i _ => R2 - (intOf i).toNat)
              case atStart => exact ⟨0, by omega, rfl, Below.refl _ _⟩
              case round =>
                obtain ⟨n, hn, rfl, hbel⟩ := hrel
                by_cases hlt : n < R2
                · obtain ⟨ad2, q, pq, rfl, hqe, hpq, hQ⟩ := (SE13.out.below hbel).rk_load HR2.out.symm hlt
                  obtain ⟨hplt, c0, c1, c2, c3⟩ := hQ
                  have HLT := Lib.hid hlt
                  have qn : decide (n < R2) = true := by simpa using hlt
                  have hle := HST.out q (List.mem_of_getElem? hqe)
                  obtain ⟨N5, hN5⟩ : ∃ N, wr.heap.size = N := ⟨_, rfl⟩
                  obtain ⟨V, hV⟩ : ∃ V, V = wr.alloc (.cells #[.bool q.null, .int .i64 q.n, .string q.s, .int .i64 q.seq] 37) := ⟨_, rfl⟩
                  have VB := Lib.hid (show Below w13.heap.size w13 V by rw [hV]; exact hbel.alloc hbel.size _)
                  have VQ := Lib.hid (show Blk V N5 37 #[.bool q.null, .int .i64 q.n, .string q.s, .int .i64 q.seq] by rw [hV, ← hN5]; exact Blk.new _ _ _)
                  have HS1 := Lib.hid (fun X (hX : Below V.heap.size V X) => show Calls Try.prog 27 #[.int .i64 1, .slice (some ⟨g12, 0, none⟩) NL cap12, .agg #[.bool q.null, .int .i64 q.n, .string q.s, .int .i64 q.seq]] X (RetN X (stabR 1 AF q : Int)) from rstab_any 1 _ AF q X (by rw [HNL.out]; exact (SA13.out.below VB.out).below hX) (by rw [HNL.out]; omega))
                  have HS2 := Lib.hid (fun X v (hv : Sl X 8 v LR.length (rngs LR)) => show Calls Try.prog 27 #[.int .i64 1, v, .agg #[.bool q.null, .int .i64 q.n, .string q.s, .int .i64 q.seq]] X (RetN X (stabR 1 LR q : Int)) from rstab_any 1 v LR q X hv (by omega))
                  have HRX := Lib.hid (fun X (hX : Below V.heap.size V X) => HRG.out X (bst VB.out hX))
                  obtain ⟨s1, hs1⟩ : ∃ s, stabR 1 AF q = s := ⟨_, rfl⟩
                  obtain ⟨s2, hs2⟩ : ∃ s, stabR 1 LR q = s := ⟨_, rfl⟩
                  rw [hs1] at HS1 hle
                  rw [hs2] at HS2 hle
                  have qs : decide (s2 < s1) = false := by simp; omega
                  have qs' : decide ((s2 : Int) < (s1 : Int)) = false := by simp; omega
                  clear hqe hbel hs1 hs2
                  go_upto_region 27 with (fail)
                  rw [← hV]
                  try simp only [hN5]
                  clear hV hN5 c0 c1 c2 c3 hpq hplt
                  go_cut [132] from 125 to 131 (fun r wx => r = .bool false ∧ Below V.heap.size V wx)
                  case first =>
                    refine wp_region_inv (by kernel_rfl) (by kernel_rfl) (fun L a w' => ∃ u125 u126 u127 u128 u129 u130 u131 u132 : Value, a = ⟨#[.slice A0 zs.length c0, .int .i64 a1, .int .i64 a2, .int .i64 a3, .int .i64 a4, undef, undef, undef, undef, undef, u10, .slice A1 l.length cL, .slice A2 RC cK, .slice A3 RC cC, .pointer (some ⟨N, 0, none⟩), .bool true, .slice (some ⟨g12, 0, none⟩) NL cap12, .slice (some ad2) R2 cE, undef, u19, .pointer (some ⟨N9, 0, none⟩), undef, .pointer (some ⟨N5, 0, none⟩), .slice A0 zs.length c0, .slice A1 l.length cL, .slice A1 l.length cL, .int .i64 a1, .int .i64 x, .int .i64 d, .int .i64 a2, .int .i64 y, .int .i64 u, .int .i64 a3, .int .i64 rr, .slice A2 RC cK, .slice A2 RC cK, .int .i64 RC, .bool false, undef, .slice A1 l.length cL, .slice A2 RC cK, .slice A3 RC cC, .tuple #[.agg #[.bool H.lo.null, .int .i64 H.lo.n, .string H.lo.s, .int .i64 H.lo.seq, .bool H.hi.null, .int .i64 H.hi.n, .string H.hi.s, .int .i64 H.hi.seq], .bool true], .slice A3 RC cC, .slice A4 RC c4, .tuple #[.agg #[.bool H.lo.null, .int .i64 H.lo.n, .string H.lo.s, .int .i64 H.lo.seq, .bool H.hi.null, .int .i64 H.hi.n, .string H.hi.s, .int .i64 H.hi.seq], .bool true], .agg #[.bool H.lo.null, .int .i64 H.lo.n, .string H.lo.s, .int .i64 H.lo.seq, .bool H.hi.null, .int .i64 H.hi.n, .string H.hi.s, .int .i64 H.hi.seq], .bool true, .bool true, .bool false, .bool false, .slice A3 RC cC, .int .i64 RC, .slice A2 RC cK, .int .i64 RC, .bool false, .bool false, .slice A1 l.length cL, .int .i64 l.length, .int .i64 m, .bool false, u61, u62, u63, u64, u65, u66, u67, u68, u69, u70, u71, u72, u73, u74, u75, u76, u77, u78, u79, u80, u81, .int .i64 a4, .int .i64 z, .agg #[.bool false, .int .i64 z, .string { data := #[] }], .agg #[.bool false, .int .i64 z, .string { data := #[] }, .int .i64 1], .pointer (some ⟨N, 0, none⟩), .agg #[.bool H.lo.null, .int .i64 H.lo.n, .string H.lo.s, .int .i64 H.lo.seq], .agg #[.bool false, .int .i64 z, .string { data := #[] }, .int .i64 1], .int .i64 ca, .bool true, .bool true, .agg #[.bool false, .int .i64 z, .string { data := #[] }, .int .i64 1], .pointer (some ⟨N, 4, none⟩), .agg #[.bool H.hi.null, .int .i64 H.hi.n, .string H.hi.s, .int .i64 H.hi.seq], .int .i64 cb, .bool false, .bool false, undef, undef, undef, undef, undef, undef, undef, undef, undef, undef, undef, undef, undef, u16, .agg #[.bool H.lo.null, .int .i64 H.lo.n, .string H.lo.s, .int .i64 H.lo.seq, .bool H.hi.null, .int .i64 H.hi.n, .string H.hi.s, .int .i64 H.hi.seq], .slice (some ⟨w11.heap.size, 0, none⟩) 1 1, .slice (some ⟨g12, 0, none⟩) NL cap12, .slice (some ⟨g12, 0, none⟩) NL cap12, .bool true, .bool false, undef, .slice (some ad2) R2 cE, .int .i64 R2, .int .i64 n, .bool true, .pointer (some pq), .agg #[.bool q.null, .int .i64 q.n, .string q.s, .int .i64 q.seq], u125, u126, u127, u128, u129, u130, u131, u132, u133, undef], []⟩ ∧
                        Below V.heap.size V w' ∧ Got (L 0) u125 (.slice (some ⟨g12, 0, none⟩) NL cap12) ∧ Got (L 1) u126 (.agg #[.bool q.null, .int .i64 q.n, .string q.s, .int .i64 q.seq]) ∧ Got (L 2) u127 (.int .i64 (s1 : Int)) ∧ Got (L 3) u128 (.slice A1 l.length cL) ∧ (L 4 = true → ∃ A c, u129 = .slice A LR.length c ∧ Sl w' 8 (.slice A LR.length c) LR.length (rngs LR)) ∧ Got (L 5) u130 (.agg #[.bool q.null, .int .i64 q.n, .string q.s, .int .i64 q.seq]) ∧ Got (L 6) u131 (.int .i64 (s2 : Int)) ∧ Got (L 7) u132 (.bool false))
                      ?_ ?_ ?_
                    · exact ⟨_, _, _, _, _, _, _, _, rfl, (Below.refl _ _).drew, nofun, nofun, nofun, nofun, nofun, nofun, nofun, nofun⟩
                    · refine ⟨?_, ?_, ?_, ?_, ?_, ?_, ?_, ?_, trivial⟩
                      · intro L a w' hI hl hd K hK
                        refine hI.elim fun u125 hI => hI.elim fun u126 hI => hI.elim fun u127 hI => hI.elim fun u128 hI => hI.elim fun u129 hI => hI.elim fun u130 hI => hI.elim fun u131 hI => hI.elim fun u132 hI => ?_
                        have ha := hI.1
                        subst ha
                        have hb := hI.2.1
                        have g0 := hI.2.2.1
                        have g1 := hI.2.2.2.1
                        have g2 := hI.2.2.2.2.1
                        have g3 := hI.2.2.2.2.2.1
                        have g4 := hI.2.2.2.2.2.2.1
                        have g5 := hI.2.2.2.2.2.2.2.1
                        have g6 := hI.2.2.2.2.2.2.2.2.1
                        have g7 := hI.2.2.2.2.2.2.2.2.2
                        clear hI
                        dsimp only at hK ⊢
                        go_simp
                        exact hK _ _ ⟨_, _, _, _, _, _, _, _, rfl, hb, fun _ => rfl, g1, g2, g3, g4, g5, g6, g7⟩
                      · intro L a w' hI hl hd K hK
                        refine hI.elim fun u125 hI => hI.elim fun u126 hI => hI.elim fun u127 hI => hI.elim fun u128 hI => hI.elim fun u129 hI => hI.elim fun u130 hI => hI.elim fun u131 hI => hI.elim fun u132 hI => ?_
                        have ha := hI.1
                        subst ha
                        have hb := hI.2.1
                        have g0 := hI.2.2.1
                        have g1 := hI.2.2.2.1
                        have g2 := hI.2.2.2.2.1
                        have g3 := hI.2.2.2.2.2.1
                        have g4 := hI.2.2.2.2.2.2.1
                        have g5 := hI.2.2.2.2.2.2.2.1
                        have g6 := hI.2.2.2.2.2.2.2.2.1
                        have g7 := hI.2.2.2.2.2.2.2.2.2
                        clear hI
                        dsimp only at hK ⊢
                        have bb := VQ.out.below hb VQ.out.lt
                        have c0 := bb.cell 0
                        have c1 := bb.cell 1
                        have c2 := bb.cell 2
                        have c3 := bb.cell 3
                        simp only [List.getElem?_toArray, List.getElem?_cons_zero, List.getElem?_cons_succ] at c0 c1 c2 c3
                        clear bb
                        go_simp
                        exact hK _ _ ⟨_, _, _, _, _, _, _, _, rfl, hb, g0, fun _ => rfl, g2, g3, g4, g5, g6, g7⟩
                      · intro L a w' hI hl hd K hK
                        refine hI.elim fun u125 hI => hI.elim fun u126 hI => hI.elim fun u127 hI => hI.elim fun u128 hI => hI.elim fun u129 hI => hI.elim fun u130 hI => hI.elim fun u131 hI => hI.elim fun u132 hI => ?_
                        have ha := hI.1
                        subst ha
                        have hb := hI.2.1
                        have g0 := hI.2.2.1
                        have g1 := hI.2.2.2.1
                        have g2 := hI.2.2.2.2.1
                        have g3 := hI.2.2.2.2.2.1
                        have g4 := hI.2.2.2.2.2.2.1
                        have g5 := hI.2.2.2.2.2.2.2.1
                        have g6 := hI.2.2.2.2.2.2.2.2.1
                        have g7 := hI.2.2.2.2.2.2.2.2.2
                        clear hI
                        simp [Region.binds] at hd
                        dsimp only at hK ⊢
                        have e0 := g0 (by simp [hd])
                        subst e0
                        have e1 := g1 (by simp [hd])
                        subst e1
                        go_wp2_with fail
                        with_reducible refine (HS1.out w' hb).mono ?_
                        rintro _ w4 ⟨rfl, hb4⟩
                        exact hK _ _ ⟨_, _, _, _, _, _, _, _, rfl, bst hb hb4, g0, g1, fun _ => rfl, g3, (fun h => by obtain ⟨A, c, e, hs⟩ := g4 h; exact ⟨A, c, e, hs.below hb4⟩), g5, g6, g7⟩
                      · intro L a w' hI hl hd K hK
                        refine hI.elim fun u125 hI => hI.elim fun u126 hI => hI.elim fun u127 hI => hI.elim fun u128 hI => hI.elim fun u129 hI => hI.elim fun u130 hI => hI.elim fun u131 hI => hI.elim fun u132 hI => ?_
                        have ha := hI.1
                        subst ha
                        have hb := hI.2.1
                        have g0 := hI.2.2.1
                        have g1 := hI.2.2.2.1
                        have g2 := hI.2.2.2.2.1
                        have g3 := hI.2.2.2.2.2.1
                        have g4 := hI.2.2.2.2.2.2.1
                        have g5 := hI.2.2.2.2.2.2.2.1
                        have g6 := hI.2.2.2.2.2.2.2.2.1
                        have g7 := hI.2.2.2.2.2.2.2.2.2
                        clear hI
                        dsimp only at hK ⊢
                        go_simp
                        exact hK _ _ ⟨_, _, _, _, _, _, _, _, rfl, hb, g0, g1, g2, fun _ => rfl, g4, g5, g6, g7⟩
                      · intro L a w' hI hl hd K hK
                        refine hI.elim fun u125 hI => hI.elim fun u126 hI => hI.elim fun u127 hI => hI.elim fun u128 hI => hI.elim fun u129 hI => hI.elim fun u130 hI => hI.elim fun u131 hI => hI.elim fun u132 hI => ?_
                        have ha := hI.1
                        subst ha
                        have hb := hI.2.1
                        have g0 := hI.2.2.1
                        have g1 := hI.2.2.2.1
                        have g2 := hI.2.2.2.2.1
                        have g3 := hI.2.2.2.2.2.1
                        have g4 := hI.2.2.2.2.2.2.1
                        have g5 := hI.2.2.2.2.2.2.2.1
                        have g6 := hI.2.2.2.2.2.2.2.2.1
                        have g7 := hI.2.2.2.2.2.2.2.2.2
                        clear hI
                        simp [Region.binds] at hd
                        dsimp only at hK ⊢
                        have e3 := g3 (by simp [hd])
                        subst e3
                        go_wp2_with fail
                        with_reducible refine (HRX.out w' hb).mono ?_
                        rintro _ w4 ⟨v4, rfl, hb4, ho4⟩
                        obtain ⟨A4, c4, e4, _, _⟩ := (Sl.of_own ho4).form
                        subst e4
                        exact hK _ _ ⟨_, _, _, _, _, _, _, _, rfl, bst hb hb4, g0, g1, g2, g3, fun _ => ⟨A4, c4, rfl, Sl.of_own ho4⟩, g5, g6, g7⟩
                      · intro L a w' hI hl hd K hK
                        refine hI.elim fun u125 hI => hI.elim fun u126 hI => hI.elim fun u127 hI => hI.elim fun u128 hI => hI.elim fun u129 hI => hI.elim fun u130 hI => hI.elim fun u131 hI => hI.elim fun u132 hI => ?_
                        have ha := hI.1
                        subst ha
                        have hb := hI.2.1
                        have g0 := hI.2.2.1
                        have g1 := hI.2.2.2.1
                        have g2 := hI.2.2.2.2.1
                        have g3 := hI.2.2.2.2.2.1
                        have g4 := hI.2.2.2.2.2.2.1
                        have g5 := hI.2.2.2.2.2.2.2.1
                        have g6 := hI.2.2.2.2.2.2.2.2.1
                        have g7 := hI.2.2.2.2.2.2.2.2.2
                        clear hI
                        dsimp only at hK ⊢
                        have bb := VQ.out.below hb VQ.out.lt
                        have c0 := bb.cell 0
                        have c1 := bb.cell 1
                        have c2 := bb.cell 2
                        have c3 := bb.cell 3
                        simp only [List.getElem?_toArray, List.getElem?_cons_zero, List.getElem?_cons_succ] at c0 c1 c2 c3
                        clear bb
                        go_simp
                        exact hK _ _ ⟨_, _, _, _, _, _, _, _, rfl, hb, g0, g1, g2, g3, g4, fun _ => rfl, g6, g7⟩
                      · intro L a w' hI hl hd K hK
                        refine hI.elim fun u125 hI => hI.elim fun u126 hI => hI.elim fun u127 hI => hI.elim fun u128 hI => hI.elim fun u129 hI => hI.elim fun u130 hI => hI.elim fun u131 hI => hI.elim fun u132 hI => ?_
                        have ha := hI.1
                        subst ha
                        have hb := hI.2.1
                        have g0 := hI.2.2.1
                        have g1 := hI.2.2.2.1
                        have g2 := hI.2.2.2.2.1
                        have g3 := hI.2.2.2.2.2.1
                        have g4 := hI.2.2.2.2.2.2.1
                        have g5 := hI.2.2.2.2.2.2.2.1
                        have g6 := hI.2.2.2.2.2.2.2.2.1
                        have g7 := hI.2.2.2.2.2.2.2.2.2
                        clear hI
                        simp [Region.binds] at hd
                        dsimp only at hK ⊢
                        have e5 := g5 (by simp [hd])
                        subst e5
                        obtain ⟨A4, c4, e4, hs4⟩ := g4 (by simp [hd])
                        subst e4
                        go_wp2_with fail
                        with_reducible refine (HS2.out w' _ hs4).mono ?_
                        rintro _ w4 ⟨rfl, hb4⟩
                        exact hK _ _ ⟨_, _, _, _, _, _, _, _, rfl, bst hb hb4, g0, g1, g2, g3, (fun _ => ⟨A4, c4, rfl, hs4.below hb4⟩), g5, fun _ => rfl, g7⟩
                      · intro L a w' hI hl hd K hK
                        refine hI.elim fun u125 hI => hI.elim fun u126 hI => hI.elim fun u127 hI => hI.elim fun u128 hI => hI.elim fun u129 hI => hI.elim fun u130 hI => hI.elim fun u131 hI => hI.elim fun u132 hI => ?_
                        have ha := hI.1
                        subst ha
                        have hb := hI.2.1
                        have g0 := hI.2.2.1
                        have g1 := hI.2.2.2.1
                        have g2 := hI.2.2.2.2.1
                        have g3 := hI.2.2.2.2.2.1
                        have g4 := hI.2.2.2.2.2.2.1
                        have g5 := hI.2.2.2.2.2.2.2.1
                        have g6 := hI.2.2.2.2.2.2.2.2.1
                        have g7 := hI.2.2.2.2.2.2.2.2.2
                        clear hI
                        simp [Region.binds] at hd
                        dsimp only at hK ⊢
                        have e2 := g2 (by simp [hd])
                        subst e2
                        have e6 := g6 (by simp [hd])
                        subst e6
                        go_simp
                        exact hK _ _ ⟨_, _, _, _, _, _, _, _, rfl, hb, g0, g1, g2, g3, g4, g5, g6, fun _ => rfl⟩
                    intro a w3 hI
                    refine hI.elim fun u125 hI => hI.elim fun u126 hI => hI.elim fun u127 hI => hI.elim fun u128 hI => hI.elim fun u129 hI => hI.elim fun u130 hI => hI.elim fun u131 hI => hI.elim fun u132 hI => ?_
                    have ha := hI.1
                    subst ha
                    have hb := hI.2.1
                    have g0 := hI.2.2.1
                    have g1 := hI.2.2.2.1
                    have g2 := hI.2.2.2.2.1
                    have g3 := hI.2.2.2.2.2.1
                    have g4 := hI.2.2.2.2.2.2.1
                    have g5 := hI.2.2.2.2.2.2.2.1
                    have g6 := hI.2.2.2.2.2.2.2.2.1
                    have g7 := hI.2.2.2.2.2.2.2.2.2
                    clear hI
                    have e7 := g7 rfl
                    subst e7
                    have HX := Lib.hid hb
                    clear g0 g1 g2 g3 g4 g5 g6 g7 hb
                    go_wp2
                    go_meet
                    exact ⟨rfl, HX.out⟩
                  case rest =>
                    obtain ⟨rfl, hbc⟩ := hcut
                    have VB2 := Lib.hid (bst VB.out hbc)
                    clear hbc
                    go_wp2
                    go_roundw
                    case rel => exact ⟨n + 1, HLT.out, by go_num, VB2.out⟩
                    case measure => have := HLT.out; simp [intOf]; omega
                · have B14 := Lib.hid (bst B13.out hbel)
                  have qn : decide (n < R2) = false := by simpa using hlt
                  clear hbel
                  go_wp2_with fail
                  refine (awake28_any _).mono ?_
                  rintro _ w15 ⟨rfl, hb15⟩
                  have B15 := Lib.hid (bst B14.out hb15)
                  clear hb15
                  go_wp2
                  go_ret
                  exact ⟨rfl, B15.out⟩
        · have q8 : decide (ca ≤ 0) = false := by simpa using hq
          have HQ := Lib.hid (show cutB H z = false by rw [HCU.out, q8]; rfl)
          clear hq
          have HNW := Lib.hid (show afterR l KS H z = rs ++ [H] by rw [HAF.out]; unfold newR; rw [if_neg (by rw [HQ.out]; simp)])
          have hA := YA1.out
          have hB := YB1.out
          have hsz := hB.size
          go_wp2_with (at_builtin; go_must (refine app1 _ _ hA hB (Nat.le_refl _) hsz under_range info_range rfl (by decide) rfl (one8 _ _ _ _ _ _ _ _) (by omega) (by omega) rfl rfl rfl rfl ?_))
          intro g12 cap12 w12 hA12 hB12 hgr12 _
          have HA12 := Lib.hid (own_rg1 (r := H) HR1.out hA12)
          obtain ⟨NL, hNL⟩ : ∃ q, R1 + 1 = q := ⟨_, rfl⟩
          have HNL := Lib.hid (show (rs ++ [H]).length = NL by rw [List.length_append, HR1.out, ← hNL]; rfl)
          rw [hNL] at HA12
          simp only [hNL]
          have HE12 := Lib.hid (own_grown YE1.out hgr12 (own_ne YE1.out hA (by decide)))
          have HB12 := Lib.hid hB12
          clear hA hB hsz hA12 hB12 hgr12
          clear k0 k1 k2 k3
          clear h0 h1 h2 h3 h4 h5 h6 h7
          rw [← HNW.out] at HA12 HNL
          obtain ⟨AF, hAF⟩ : ∃ q, afterR l KS H z = q := ⟨_, rfl⟩
          rw [hAF] at HA12 HNL HRZ HLN
          clear hAF hNL HNW HAF HCU HQ
          have HSA := Lib.hid (show Sl w12 8 (.slice (some ⟨g12, 0, none⟩) NL cap12) NL (rngs AF) by have := Sl.of_own HA12.out; rw [HNL.out] at this; exact this)
          have hNL9 : NL ≤ 9 := by have := HLN.out; rw [HNL.out] at this; omega
          have HCK := Lib.hid (show Calls Try.prog 26 #[.int .i64 1, .slice (some ⟨g12, 0, none⟩) NL cap12] w12 (RetBe w12 (chkRs 1 AF)) from rchkRs_any 1 _ AF w12 (by rw [HNL.out]; exact HSA.out) (by rw [HNL.out]; omega))
          cases hck : chkRs 1 AF with
          | false =>
            rw [hck] at HCK
            clear hck
            go_wp2_with fail
            refine HCK.out.mono ?_
            rintro _ w13 ⟨rfl, hb13⟩
            have B13 := Lib.hid (bst BU.out (bst HB12.out hb13))
            clear hb13
            go_wp2_with fail
            refine (awake28_any _).mono ?_
            rintro _ w14 ⟨rfl, hb14⟩
            have B14 := Lib.hid (bst B13.out hb14)
            clear hb14
            go_wp2
            go_ret
            exact ⟨rfl, B14.out⟩
          | true =>
            rw [hck] at HCK
            have HST := Lib.hid (fun q (hq : q ∈ es) => show stabR 1 AF q ≤ stabR 1 (l.map rgOf) q by
              unfold stabR
              rw [if_pos hck, if_pos HM.out.chkR]
              exact HRZ.out q hq)
            clear hck HRZ
            go_wp2_with fail
            refine HCK.out.mono ?_
            rintro _ w13 ⟨rfl, hb13⟩
            have B13 := Lib.hid (bst BU.out (bst HB12.out hb13))
            have SA13 := Lib.hid (HSA.out.below hb13)
            have SE13 := Lib.hid (show Sl w13 4 _ R2 (rks es) from (Sl.of_own HE12.out).below hb13)
            have SL13 := Lib.hid (SU.out.below (bst HB12.out hb13))
            obtain ⟨AE, cE, e17, hcE1, hcE2⟩ := SE13.out.form
            subst e17
            obtain ⟨LR, hLR⟩ : ∃ q, l.map rgOf = q := ⟨_, rfl⟩
            have hLRl : LR.length ≤ 7 := by rw [← hLR, List.length_map]; omega
            have HRG := Lib.hid (fun X (hX : Below w13.heap.size w13 X) => show Calls Try.prog 14 #[.slice A1 l.length cL] X (RetRow X 44 8 LR.length (rngs LR)) by rw [← hLR]; exact rranges_any _ l X (SL13.out.below hX) (by omega))
            rw [hLR] at HST
            clear hb13 HCK hLR
            go_wp2
            go_loopw [121] (fun i wi => ∃ n : Nat, n ≤ R2 ∧ i = .int .i64 n ∧ Below w13.heap.size w13 wi) (fun i _ => R2 - (intOf i).toNat)
            case atStart => exact ⟨0, by omega, rfl, Below.refl _ _⟩
            case round =>
              obtain ⟨n, hn, rfl, hbel⟩ := hrel
              by_cases hlt : n < R2
              · obtain ⟨ad2, q, pq, rfl, hqe, hpq, hQ⟩ := (SE13.out.below hbel).rk_load HR2.out.symm hlt
                obtain ⟨hplt, c0, c1, c2, c3⟩ := hQ
                have HLT := Lib.hid hlt
                have qn : decide (n < R2) = true := by simpa using hlt
                have hle := HST.out q (List.mem_of_getElem? hqe)
                obtain ⟨N5, hN5⟩ : ∃ N, wr.heap.size = N := ⟨_, rfl⟩
                obtain ⟨V, hV⟩ : ∃ V, V = wr.alloc (.cells #[.bool q.null, .int .i64 q.n, .string q.s, .int .i64 q.seq] 37) := ⟨_, rfl⟩
                have VB := Lib.hid (show Below w13.heap.size w13 V by rw [hV]; exact hbel.alloc hbel.size _)
                have VQ := Lib.hid (show Blk V N5 37 #[.bool q.null, .int .i64 q.n, .string q.s, .int .i64 q.seq] by rw [hV, ← hN5]; exact Blk.new _ _ _)
                have HS1 := Lib.hid (fun X (hX : Below V.heap.size V X) => show Calls Try.prog 27 #[.int .i64 1, .slice (some ⟨g12, 0, none⟩) NL cap12, .agg #[.bool q.null, .int .i64 q.n, .string q.s, .int .i64 q.seq]] X (RetN X (stabR 1 AF q : Int)) from rstab_any 1 _ AF q X (by rw [HNL.out]; exact (SA13.out.below VB.out).below hX) (by rw [HNL.out]; omega))
                have HS2 := Lib.hid (fun X v (hv : Sl X 8 v LR.length (rngs LR)) => show Calls Try.prog 27 #[.int .i64 1, v, .agg #[.bool q.null, .int .i64 q.n, .string q.s, .int .i64 q.seq]] X (RetN X (stabR 1 LR q : Int)) from rstab_any 1 v LR q X hv (by omega))
                have HRX := Lib.hid (fun X (hX : Below V.heap.size V X) => HRG.out X (bst VB.out hX))
                obtain ⟨s1, hs1⟩ : ∃ s, stabR 1 AF q = s := ⟨_, rfl⟩
                obtain ⟨s2, hs2⟩ : ∃ s, stabR 1 LR q = s := ⟨_, rfl⟩
                rw [hs1] at HS1 hle
                rw [hs2] at HS2 hle
                have qs : decide (s2 < s1) = false := by simp; omega
                have qs' : decide ((s2 : Int) < (s1 : Int)) = false := by simp; omega
                clear hqe hbel hs1 hs2
                go_upto_region 27 with (fail)
                rw [← hV]
                try simp only [hN5]
                clear hV hN5 c0 c1 c2 c3 hpq hplt
                go_cut [132] from 125 to 131 (fun r wx => r = .bool false ∧ Below V.heap.size V wx)
                case first =>
                  refine wp_region_inv (by kernel_rfl) (by kernel_rfl) (fun L a w' => ∃ u125 u126 u127 u128 u129 u130 u131 u132 : Value, a = ⟨#[.slice A0 zs.length c0, .int .i64 a1, .int .i64 a2, .int .i64 a3, .int .i64 a4, undef, undef, undef, undef, undef, u10, .slice A1 l.length cL, .slice A2 RC cK, .slice A3 RC cC, .pointer (some ⟨N, 0, none⟩), .bool true, .slice (some ⟨g12, 0, none⟩) NL cap12, .slice (some ad2) R2 cE, undef, u19, .pointer (some ⟨N9, 0, none⟩), undef, .pointer (some ⟨N5, 0, none⟩), .slice A0 zs.length c0, .slice A1 l.length cL, .slice A1 l.length cL, .int .i64 a1, .int .i64 x, .int .i64 d, .int .i64 a2, .int .i64 y, .int .i64 u, .int .i64 a3, .int .i64 rr, .slice A2 RC cK, .slice A2 RC cK, .int .i64 RC, .bool false, undef, .slice A1 l.length cL, .slice A2 RC cK, .slice A3 RC cC, .tuple #[.agg #[.bool H.lo.null, .int .i64 H.lo.n, .string H.lo.s, .int .i64 H.lo.seq, .bool H.hi.null, .int .i64 H.hi.n, .string H.hi.s, .int .i64 H.hi.seq], .bool true], .slice A3 RC cC, .slice A4 RC c4, .tuple #[.agg #[.bool H.lo.null, .int .i64 H.lo.n, .string H.lo.s, .int .i64 H.lo.seq, .bool H.hi.null, .int .i64 H.hi.n, .string H.hi.s, .int .i64 H.hi.seq], .bool true], .agg #[.bool H.lo.null, .int .i64 H.lo.n, .string H.lo.s, .int .i64 H.lo.seq, .bool H.hi.null, .int .i64 H.hi.n, .string H.hi.s, .int .i64 H.hi.seq], .bool true, .bool true, .bool false, .bool false, .slice A3 RC cC, .int .i64 RC, .slice A2 RC cK, .int .i64 RC, .bool false, .bool false, .slice A1 l.length cL, .int .i64 l.length, .int .i64 m, .bool false, u61, u62, u63, u64, u65, u66, u67, u68, u69, u70, u71, u72, u73, u74, u75, u76, u77, u78, u79, u80, u81, .int .i64 a4, .int .i64 z, .agg #[.bool false, .int .i64 z, .string { data := #[] }], .agg #[.bool false, .int .i64 z, .string { data := #[] }, .int .i64 1], .pointer (some ⟨N, 0, none⟩), .agg #[.bool H.lo.null, .int .i64 H.lo.n, .string H.lo.s, .int .i64 H.lo.seq], .agg #[.bool false, .int .i64 z, .string { data := #[] }, .int .i64 1], .int .i64 ca, .bool false, .bool false, undef, undef, undef, undef, undef, .bool false, undef, undef, undef, undef, undef, undef, undef, undef, undef, undef, undef, undef, undef, u16, .agg #[.bool H.lo.null, .int .i64 H.lo.n, .string H.lo.s, .int .i64 H.lo.seq, .bool H.hi.null, .int .i64 H.hi.n, .string H.hi.s, .int .i64 H.hi.seq], .slice (some ⟨w10.heap.size, 0, none⟩) 1 1, .slice (some ⟨g12, 0, none⟩) NL cap12, .slice (some ⟨g12, 0, none⟩) NL cap12, .bool true, .bool false, undef, .slice (some ad2) R2 cE, .int .i64 R2, .int .i64 n, .bool true, .pointer (some pq), .agg #[.bool q.null, .int .i64 q.n, .string q.s, .int .i64 q.seq], u125, u126, u127, u128, u129, u130, u131, u132, u133, undef], []⟩ ∧
                      Below V.heap.size V w' ∧ Got (L 0) u125 (.slice (some ⟨g12, 0, none⟩) NL cap12) ∧ Got (L 1) u126 (.agg #[.bool q.null, .int .i64 q.n, .string q.s, .int .i64 q.seq]) ∧ Got (L 2) u127 (.int .i64 (s1 : Int)) ∧ Got (L 3) u128 (.slice A1 l.length cL) ∧ (L 4 = true → ∃ A c, u129 = .slice A LR.length c ∧ Sl w' 8 (.slice A LR.length c) LR.length (rngs LR)) ∧ Got (L 5) u130 (.agg #[.bool q.null, .int .i64 q.n, .string q.s, .int .i64 q.seq]) ∧ Got (L 6) u131 (.int .i64 (s2 : Int)) ∧ Got (L 7) u132 (.bool false))
                    ?_ ?_ ?_
                  · exact ⟨_, _, _, _, _, _, _, _, rfl, (Below.refl _ _).drew, nofun, nofun, nofun, nofun, nofun, nofun, nofun, nofun⟩
                  · refine ⟨?_, ?_, ?_, ?_, ?_, ?_, ?_, ?_, trivial⟩
                    · intro L a w' hI hl hd K hK
                      refine hI.elim fun u125 hI => hI.elim fun u126 hI => hI.elim fun u127 hI => hI.elim fun u128 hI => hI.elim fun u129 hI => hI.elim fun u130 hI => hI.elim fun u131 hI => hI.elim fun u132 hI => ?_
                      have ha := hI.1
                      subst ha
                      have hb := hI.2.1
                      have g0 := hI.2.2.1
                      have g1 := hI.2.2.2.1
                      have g2 := hI.2.2.2.2.1
                      have g3 := hI.2.2.2.2.2.1
                      have g4 := hI.2.2.2.2.2.2.1
                      have g5 := hI.2.2.2.2.2.2.2.1
                      have g6 := hI.2.2.2.2.2.2.2.2.1
                      have g7 := hI.2.2.2.2.2.2.2.2.2
                      clear hI
                      dsimp only at hK ⊢
                      go_simp
                      exact hK _ _ ⟨_, _, _, _, _, _, _, _, rfl, hb, fun _ => rfl, g1, g2, g3, g4, g5, g6, g7⟩
                    · intro L a w' hI hl hd K hK
                      refine hI.elim fun u125 hI => hI.elim fun u126 hI => hI.elim fun u127 hI => hI.elim fun u128 hI => hI.elim fun u129 hI => hI.elim fun u130 hI => hI.elim fun u131 hI => hI.elim fun u132 hI => ?_
                      have ha := hI.1
                      subst ha
                      have hb := hI.2.1
                      have g0 := hI.2.2.1
                      have g1 := hI.2.2.2.1
                      have g2 := hI.2.2.2.2.1
                      have g3 := hI.2.2.2.2.2.1
                      have g4 := hI.2.2.2.2.2.2.1
                      have g5 := hI.2.2.2.2.2.2.2.1
                      have g6 := hI.2.2.2.2.2.2.2.2.1
                      have g7 := hI.2.2.2.2.2.2.2.2.2
                      clear hI
                      dsimp only at hK ⊢
                      have bb := VQ.out.below hb VQ.out.lt
                      have c0 := bb.cell 0
                      have c1 := bb.cell 1
                      have c2 := bb.cell 2
                      have c3 := bb.cell 3
                      simp only [List.getElem?_toArray, List.getElem?_cons_zero, List.getElem?_cons_succ] at c0 c1 c2 c3
                      clear bb
                      go_simp
                      exact hK _ _ ⟨_, _, _, _, _, _, _, _, rfl, hb, g0, fun _ => rfl, g2, g3, g4, g5, g6, g7⟩
                    · intro L a w' hI hl hd K hK
                      refine hI.elim fun u125 hI => hI.elim fun u126 hI => hI.elim fun u127 hI => hI.elim fun u128 hI => hI.elim fun u129 hI => hI.elim fun u130 hI => hI.elim fun u131 hI => hI.elim fun u132 hI => ?_
                      have ha := hI.1
                      subst ha
                      have hb := hI.2.1
                      have g0 := hI.2.2.1
                      have g1 := hI.2.2.2.1
                      have g2 := hI.2.2.2.2.1
                      have g3 := hI.2.2.2.2.2.1
                      have g4 := hI.2.2.2.2.2.2.1
                      have g5 := hI.2.2.2.2.2.2.2.1
                      have g6 := hI.2.2.2.2.2.2.2.2.1
                      have g7 := hI.2.2.2.2.2.2.2.2.2
                      clear hI
                      simp [Region.binds] at hd
                      dsimp only at hK ⊢
                      have e0 := g0 (by simp [hd])
                      subst e0
                      have e1 := g1 (by simp [hd])
                      subst e1
                      go_wp2_with fail
                      with_reducible refine (HS1.out w' hb).mono ?_
                      rintro _ w4 ⟨rfl, hb4⟩
                      exact hK _ _ ⟨_, _, _, _, _, _, _, _, rfl, bst hb hb4, g0, g1, fun _ => rfl, g3, (fun h => by obtain ⟨A, c, e, hs⟩ := g4 h; exact ⟨A, c, e, hs.below hb4⟩), g5, g6, g7⟩
                    · intro L a w' hI hl hd K hK
                      refine hI.elim fun u125 hI => hI.elim fun u126 hI => hI.elim fun u127 hI => hI.elim fun u128 hI => hI.elim fun u129 hI => hI.elim fun u130 hI => hI.elim fun u131 hI => hI.elim fun u132 hI => ?_
                      have ha := hI.1
                      subst ha
                      have hb := hI.2.1
                      have g0 := hI.2.2.1
                      have g1 := hI.2.2.2.1
                      have g2 := hI.2.2.2.2.1
                      have g3 := hI.2.2.2.2.2.1
                      have g4 := hI.2.2.2.2.2.2.1
                      have g5 := hI.2.2.2.2.2.2.2.1
                      have g6 := hI.2.2.2.2.2.2.2.2.1
                      have g7 := hI.2.2.2.2.2.2.2.2.2
                      clear hI
                      dsimp only at hK ⊢
                      go_simp
                      exact hK _ _ ⟨_, _, _, _, _, _, _, _, rfl, hb, g0, g1, g2, fun _ => rfl, g4, g5, g6, g7⟩
                    · intro L a w' hI hl hd K hK
                      refine hI.elim fun u125 hI => hI.elim fun u126 hI => hI.elim fun u127 hI => hI.elim fun u128 hI => hI.elim fun u129 hI => hI.elim fun u130 hI => hI.elim fun u131 hI => hI.elim fun u132 hI => ?_
                      have ha := hI.1
                      subst ha
                      have hb := hI.2.1
                      have g0 := hI.2.2.1
                      have g1 := hI.2.2.2.1
                      have g2 := hI.2.2.2.2.1
                      have g3 := hI.2.2.2.2.2.1
                      have g4 := hI.2.2.2.2.2.2.1
                      have g5 := hI.2.2.2.2.2.2.2.1
                      have g6 := hI.2.2.2.2.2.2.2.2.1
                      have g7 := hI.2.2.2.2.2.2.2.2.2
                      clear hI
                      simp [Region.binds] at hd
                      dsimp only at hK ⊢
                      have e3 := g3 (by simp [hd])
                      subst e3
                      go_wp2_with fail
                      with_reducible refine (HRX.out w' hb).mono ?_
                      rintro _ w4 ⟨v4, rfl, hb4, ho4⟩
                      obtain ⟨A4, c4, e4, _, _⟩ := (Sl.of_own ho4).form
                      subst e4
                      exact hK _ _ ⟨_, _, _, _, _, _, _, _, rfl, bst hb hb4, g0, g1, g2, g3, fun _ => ⟨A4, c4, rfl, Sl.of_own ho4⟩, g5, g6, g7⟩
                    · intro L a w' hI hl hd K hK
                      refine hI.elim fun u125 hI => hI.elim fun u126 hI => hI.elim fun u127 hI => hI.elim fun u128 hI => hI.elim fun u129 hI => hI.elim fun u130 hI => hI.elim fun u131 hI => hI.elim fun u132 hI => ?_
                      have ha := hI.1
                      subst ha
                      have hb := hI.2.1
                      have g0 := hI.2.2.1
                      have g1 := hI.2.2.2.1
                      have g2 := hI.2.2.2.2.1
                      have g3 := hI.2.2.2.2.2.1
                      have g4 := hI.2.2.2.2.2.2.1
                      have g5 := hI.2.2.2.2.2.2.2.1
                      have g6 := hI.2.2.2.2.2.2.2.2.1
                      have g7 := hI.2.2.2.2.2.2.2.2.2
                      clear hI
                      dsimp only at hK ⊢
                      have bb := VQ.out.below hb VQ.out.lt
                      have c0 := bb.cell 0
                      have c1 := bb.cell 1
                      have c2 := bb.cell 2
                      have c3 := bb.cell 3
                      simp only [List.getElem?_toArray, List.getElem?_cons_zero, List.getElem?_cons_succ] at c0 c1 c2 c3
                      clear bb
                      go_simp
                      exact hK _ _ ⟨_, _, _, _, _, _, _, _, rfl, hb, g0, g1, g2, g3, g4, fun _ => rfl, g6, g7⟩
                    · intro L a w' hI hl hd K hK
                      refine hI.elim fun u125 hI => hI.elim fun u126 hI => hI.elim fun u127 hI => hI.elim fun u128 hI => hI.elim fun u129 hI => hI.elim fun u130 hI => hI.elim fun u131 hI => hI.elim fun u132 hI => ?_
                      have ha := hI.1
                      subst ha
                      have hb := hI.2.1
                      have g0 := hI.2.2.1
                      have g1 := hI.2.2.2.1
                      have g2 := hI.2.2.2.2.1
                      have g3 := hI.2.2.2.2.2.1
                      have g4 := hI.2.2.2.2.2.2.1
                      have g5 := hI.2.2.2.2.2.2.2.1
                      have g6 := hI.2.2.2.2.2.2.2.2.1
                      have g7 := hI.2.2.2.2.2.2.2.2.2
                      clear hI
                      simp [Region.binds] at hd
                      dsimp only at hK ⊢
                      have e5 := g5 (by simp [hd])
                      subst e5
                      obtain ⟨A4, c4, e4, hs4⟩ := g4 (by simp [hd])
                      subst e4
                      go_wp2_with fail
                      with_reducible refine (HS2.out w' _ hs4).mono ?_
                      rintro _ w4 ⟨rfl, hb4⟩
                      exact hK _ _ ⟨_, _, _, _, _, _, _, _, rfl, bst hb hb4, g0, g1, g2, g3, (fun _ => ⟨A4, c4, rfl, hs4.below hb4⟩), g5, fun _ => rfl, g7⟩
                    · intro L a w' hI hl hd K hK
                      refine hI.elim fun u125 hI => hI.elim fun u126 hI => hI.elim fun u127 hI => hI.elim fun u128 hI => hI.elim fun u129 hI => hI.elim fun u130 hI => hI.elim fun u131 hI => hI.elim fun u132 hI => ?_
                      have ha := hI.1
                      subst ha
                      have hb := hI.2.1
                      have g0 := hI.2.2.1
                      have g1 := hI.2.2.2.1
                      have g2 := hI.2.2.2.2.1
                      have g3 := hI.2.2.2.2.2.1
                      have g4 := hI.2.2.2.2.2.2.1
                      have g5 := hI.2.2.2.2.2.2.2.1
                      have g6 := hI.2.2.2.2.2.2.2.2.1
                      have g7 := hI.2.2.2.2.2.2.2.2.2
                      clear hI
                      simp [Region.binds] at hd
                      dsimp only at hK ⊢
                      have e2 := g2 (by simp [hd])
                      subst e2
                      have e6 := g6 (by simp [hd])
                      subst e6
                      go_simp
                      exact hK _ _ ⟨_, _, _, _, _, _, _, _, rfl, hb, g0, g1, g2, g3, g4, g5, g6, fun _ => rfl⟩
                  intro a w3 hI
                  refine hI.elim fun u125 hI => hI.elim fun u126 hI => hI.elim fun u127 hI => hI.elim fun u128 hI => hI.elim fun u129 hI => hI.elim fun u130 hI => hI.elim fun u131 hI => hI.elim fun u132 hI => ?_
                  have ha := hI.1
                  subst ha
                  have hb := hI.2.1
                  have g0 := hI.2.2.1
                  have g1 := hI.2.2.2.1
                  have g2 := hI.2.2.2.2.1
                  have g3 := hI.2.2.2.2.2.1
                  have g4 := hI.2.2.2.2.2.2.1
                  have g5 := hI.2.2.2.2.2.2.2.1
                  have g6 := hI.2.2.2.2.2.2.2.2.1
                  have g7 := hI.2.2.2.2.2.2.2.2.2
                  clear hI
                  have e7 := g7 rfl
                  subst e7
                  have HX := Lib.hid hb
                  clear g0 g1 g2 g3 g4 g5 g6 g7 hb
                  go_wp2
                  go_meet
                  exact ⟨rfl, HX.out⟩
                case rest =>
                  obtain ⟨rfl, hbc⟩ := hcut
                  have VB2 := Lib.hid (bst VB.out hbc)
                  clear hbc
                  go_wp2
                  go_roundw
                  case rel => exact ⟨n + 1, HLT.out, by go_num, VB2.out⟩
                  case measure => have := HLT.out; simp [intOf]; omega
              · have B14 := Lib.hid (bst B13.out hbel)
                have qn : decide (n < R2) = false := by simpa using hlt
                clear hbel
                go_wp2_with fail
                refine (awake28_any _).mono ?_
                rintro _ w15 ⟨rfl, hb15⟩
                have B15 := Lib.hid (bst B14.out hb15)
                clear hb15
                go_wp2
                go_ret
                exact ⟨rfl, B15.out⟩
end Go.Proofs.Ytcjekbncllccbaa
