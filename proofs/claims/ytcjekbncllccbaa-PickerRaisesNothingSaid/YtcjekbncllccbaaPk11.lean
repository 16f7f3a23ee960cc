/-
  The contract of ref27.Hull.
-/
import Derived.Test.YtcjekbncllccbaaRk4
import Derived.Test.YtcjekbncllccbaaPk3
namespace Go.Proofs.Ytcjekbncllccbaa
open Go.RowKit Go.Sort

def oRg (o : Option Rg) : Rg := o.getD rg00
def RetHull (w : World) (o : Option Rg) (e : Ending) (w' : World) : Prop := e = .returned (.tuple #[.agg #[.bool (oRg o).lo.null, .int .i64 (oRg o).lo.n, .string (oRg o).lo.s, .int .i64 (oRg o).lo.seq, .bool (oRg o).hi.null, .int .i64 (oRg o).hi.n, .string (oRg o).hi.s, .int .i64 (oRg o).hi.seq], .bool o.isSome]) ∧ Below w.heap.size w w'
set_option maxRecDepth 100000 in
set_option maxHeartbeats 8000000 in
theorem rhull_any (t : Int) (v : Value) (l : List Rg) (w : World) (hs : Sl w 8 v l.length (rngs l)) (hl : l.length ≤ 1000000) :
    Calls Try.prog 24 #[.int .i64 t, v] w (RetHull w (hullR t l)) := by
  obtain ⟨A, c, rfl, hc1, hc2⟩ := hs.form
  obtain ⟨W, hW⟩ : ∃ W, W = w.alloc (.cells #[.bool false, .int .i64 0, .string { data := #[] }, .int .i64 0, .bool false, .int .i64 0, .string { data := #[] }, .int .i64 0] 44) := ⟨_, rfl⟩
  have hb0 : Below w.heap.size w W := by rw [hW]; exact abel _ _
  have BZ := Lib.hid (show Blk W w.heap.size 44 #[.bool false, .int .i64 0, .string { data := #[] }, .int .i64 0, .bool false, .int .i64 0, .string { data := #[] }, .int .i64 0] by rw [hW]; exact Blk.new _ _ _)
  have HC := Lib.hid (rchkRs_any t (.slice A l.length c) l W (hs.below hb0) hl)
  have HS0 := Lib.hid (hs.below hb0)
  have HB0 := Lib.hid hb0
  have hws : w.heap.size < W.heap.size := BZ.out.lt
  clear hs hb0
  by_cases h0 : l.length = 0
  · have HF := Lib.hid (show hullR t l = none by unfold hullR; rw [if_pos (.inl h0)])
    have hle := List.eq_nil_of_length_eq_zero h0
    subst hle
    clear HC h0
    go_enter Try.func24, Try.ntmps24
    go_upto_region 1 with (fail)
    rw [← hW]
    clear hW
    have bb := BZ.out
    have zz0 := bb.cell 0
    have zz1 := bb.cell 1
    have zz2 := bb.cell 2
    have zz3 := bb.cell 3
    have zz4 := bb.cell 4
    have zz5 := bb.cell 5
    have zz6 := bb.cell 6
    have zz7 := bb.cell 7
    simp only [List.getElem?_toArray, List.getElem?_cons_zero, List.getElem?_cons_succ] at zz0 zz1 zz2 zz3 zz4 zz5 zz6 zz7
    clear bb
    have fz0 := (BZ.out).frozen 0
    have fz1 := (BZ.out).frozen 1
    have fz2 := (BZ.out).frozen 2
    have fz3 := (BZ.out).frozen 3
    have fz4 := (BZ.out).frozen 4
    have fz5 := (BZ.out).frozen 5
    have fz6 := (BZ.out).frozen 6
    have fz7 := (BZ.out).frozen 7
    have hltz := BZ.out.lt
    go_wp2
    have kg := grown8 W w.heap.size (.bool false) (.int .i64 0) (.string { data := #[] }) (.int .i64 0) (.bool false) (.int .i64 0) (.string { data := #[] }) (.int .i64 0)
    have kb := blk8 (.bool false) (.int .i64 0) (.string { data := #[] }) (.int .i64 0) (.bool false) (.int .i64 0) (.string { data := #[] }) (.int .i64 0) BZ.out
    have kw := below_row HB0.out kg (Nat.le_refl _) HB0.out.size
    obtain ⟨V, hV⟩ : ∃ V, V = (((((((W.setCell ⟨w.heap.size, 0, none⟩ (.bool false)).setCell ⟨w.heap.size, 1, none⟩ (.int .i64 0)).setCell ⟨w.heap.size, 2, none⟩ (.string { data := #[] })).setCell ⟨w.heap.size, 3, none⟩ (.int .i64 0)).setCell ⟨w.heap.size, 4, none⟩ (.bool false)).setCell ⟨w.heap.size, 5, none⟩ (.int .i64 0)).setCell ⟨w.heap.size, 6, none⟩ (.string { data := #[] })).setCell ⟨w.heap.size, 7, none⟩ (.int .i64 0) := ⟨_, rfl⟩
    rw [← hV] at kb kw ⊢
    have bb := kb
    have d0 := bb.cell 0
    have d1 := bb.cell 1
    have d2 := bb.cell 2
    have d3 := bb.cell 3
    have d4 := bb.cell 4
    have d5 := bb.cell 5
    have d6 := bb.cell 6
    have d7 := bb.cell 7
    simp only [List.getElem?_toArray, List.getElem?_cons_zero, List.getElem?_cons_succ] at d0 d1 d2 d3 d4 d5 d6 d7
    clear bb
    exact bodyPost_ret (v := .tuple #[.agg #[.bool false, .int .i64 0, .string { data := #[] }, .int .i64 0, .bool false, .int .i64 0, .string { data := #[] }, .int .i64 0], .bool false]) (by simp [results, Try.results24, go_sem, d0, d1, d2, d3, d4, d5, d6, d7]) rfl ⟨by rw [HF.out]; rfl, kw⟩
  have q0 : decide (0 < l.length) = true := by simp; omega
  have q0' : ((l.length : Int) == 0) = false := by rw [beq_eq_false_iff_ne]; omega
  cases hck : chkRs t l with
  | false =>
    have HF := Lib.hid (show hullR t l = none by unfold hullR; rw [if_pos (.inr hck)])
    rw [hck] at HC
    clear hck
    go_enter Try.func24, Try.ntmps24
    go_upto_region 1 with (fail)
    rw [← hW]
    clear hW
    go_wp2_with fail
    refine HC.out.mono ?_
    rintro _ w2 ⟨rfl, hb2⟩
    have BZ2 := Lib.hid (BZ.out.below hb2 BZ.out.lt)
    have HB2 := Lib.hid (bst HB0.out hb2)
    clear hb2
    have bb := BZ2.out
    have zz0 := bb.cell 0
    have zz1 := bb.cell 1
    have zz2 := bb.cell 2
    have zz3 := bb.cell 3
    have zz4 := bb.cell 4
    have zz5 := bb.cell 5
    have zz6 := bb.cell 6
    have zz7 := bb.cell 7
    simp only [List.getElem?_toArray, List.getElem?_cons_zero, List.getElem?_cons_succ] at zz0 zz1 zz2 zz3 zz4 zz5 zz6 zz7
    clear bb
    have fz0 := (BZ2.out).frozen 0
    have fz1 := (BZ2.out).frozen 1
    have fz2 := (BZ2.out).frozen 2
    have fz3 := (BZ2.out).frozen 3
    have fz4 := (BZ2.out).frozen 4
    have fz5 := (BZ2.out).frozen 5
    have fz6 := (BZ2.out).frozen 6
    have fz7 := (BZ2.out).frozen 7
    have hltz := BZ2.out.lt
    go_wp2
    have kg := grown8 w2 w.heap.size (.bool false) (.int .i64 0) (.string { data := #[] }) (.int .i64 0) (.bool false) (.int .i64 0) (.string { data := #[] }) (.int .i64 0)
    have kb := blk8 (.bool false) (.int .i64 0) (.string { data := #[] }) (.int .i64 0) (.bool false) (.int .i64 0) (.string { data := #[] }) (.int .i64 0) BZ2.out
    have kw := below_row HB2.out kg (Nat.le_refl _) HB2.out.size
    obtain ⟨V, hV⟩ : ∃ V, V = (((((((w2.setCell ⟨w.heap.size, 0, none⟩ (.bool false)).setCell ⟨w.heap.size, 1, none⟩ (.int .i64 0)).setCell ⟨w.heap.size, 2, none⟩ (.string { data := #[] })).setCell ⟨w.heap.size, 3, none⟩ (.int .i64 0)).setCell ⟨w.heap.size, 4, none⟩ (.bool false)).setCell ⟨w.heap.size, 5, none⟩ (.int .i64 0)).setCell ⟨w.heap.size, 6, none⟩ (.string { data := #[] })).setCell ⟨w.heap.size, 7, none⟩ (.int .i64 0) := ⟨_, rfl⟩
    rw [← hV] at kb kw ⊢
    have bb := kb
    have d0 := bb.cell 0
    have d1 := bb.cell 1
    have d2 := bb.cell 2
    have d3 := bb.cell 3
    have d4 := bb.cell 4
    have d5 := bb.cell 5
    have d6 := bb.cell 6
    have d7 := bb.cell 7
    simp only [List.getElem?_toArray, List.getElem?_cons_zero, List.getElem?_cons_succ] at d0 d1 d2 d3 d4 d5 d6 d7
    clear bb
    exact bodyPost_ret (v := .tuple #[.agg #[.bool false, .int .i64 0, .string { data := #[] }, .int .i64 0, .bool false, .int .i64 0, .string { data := #[] }, .int .i64 0], .bool false]) (by simp [results, Try.results24, go_sem, d0, d1, d2, d3, d4, d5, d6, d7]) rfl ⟨by rw [HF.out]; rfl, kw⟩
  | true =>
    obtain ⟨ad, r0, p0, hA, he0, hp0, hE0⟩ := HS0.out.rg_load (k := 0) rfl (by omega)
    subst hA
    rw [show ad.add (0 * 8) = ad by unfold Addr.add; simp] at hp0
    subst hp0
    have HF := Lib.hid (show hullR t l = some (hullTo t l r0 l.length) by
      unfold hullR
      rw [if_neg (by simp [hck]; exact fun e => h0 (by rw [e]; rfl))]
      congr 2
      cases l with
      | nil => simp at h0
      | cons a r => simp at he0; rw [← he0]; rfl)
    rw [hck] at HC
    clear hck
    go_enter Try.func24, Try.ntmps24
    go_upto_region 1 with (fail)
    rw [← hW]
    clear hW
    go_wp2_with fail
    refine HC.out.mono ?_
    rintro _ w2 ⟨rfl, hb2⟩
    have BZ2 := Lib.hid (BZ.out.below hb2 BZ.out.lt)
    have HS2 := Lib.hid (HS0.out.below hb2)
    have HB2 := Lib.hid (bst HB0.out hb2)
    have hE2 := hE0.below hb2
    obtain ⟨hplt, c0, c1, c2, c3, c4, c5, c6, c7⟩ := hE2
    obtain ⟨N, hN⟩ : ∃ N, w2.heap.size = N := ⟨_, rfl⟩
    obtain ⟨W3, hW3⟩ : ∃ W3, W3 = w2.alloc (.cells #[.bool r0.lo.null, .int .i64 r0.lo.n, .string r0.lo.s, .int .i64 r0.lo.seq, .bool r0.hi.null, .int .i64 r0.hi.n, .string r0.hi.s, .int .i64 r0.hi.seq] 44) := ⟨_, rfl⟩
    have hb3 : Below W.heap.size W W3 := by rw [hW3]; exact hb2.alloc hb2.size _
    have BN := Lib.hid (show Blk W3 N 44 #[.bool r0.lo.null, .int .i64 r0.lo.n, .string r0.lo.s, .int .i64 r0.lo.seq, .bool r0.hi.null, .int .i64 r0.hi.n, .string r0.hi.s, .int .i64 r0.hi.seq] by rw [hW3, ← hN]; exact Blk.new _ _ _)
    have BZ3 := Lib.hid (BZ.out.below hb3 BZ.out.lt)
    have HB3 := Lib.hid hb3
    have hNW : W.heap.size ≤ N := by rw [← hN]; exact hb2.size
    have hNz : N ≠ w.heap.size := by omega
    have HLEN := Lib.hid (show 0 < l.length by omega)
    clear hb2 hb3 hE0 he0
    go_upto_region 4 with (fail)
    rw [← hW3]
    try simp only [hN]
    clear hW3 hN c0 c1 c2 c3 c4 c5 c6 c7 hplt
    go_wp2
    go_loopw [24] (fun i wr => ∃ (k : Nat) (h : Rg), k ≤ l.length ∧ i = .int .i64 k ∧ Hid (hullTo t l r0 k = h) ∧ Blk wr N 44 #[.bool h.lo.null, .int .i64 h.lo.n, .string h.lo.s, .int .i64 h.lo.seq, .bool h.hi.null, .int .i64 h.hi.n, .string h.hi.s, .int .i64 h.hi.seq] ∧ Blk wr w.heap.size 44 #[.bool false, .int .i64 0, .string { data := #[] }, .int .i64 0, .bool false, .int .i64 0, .string { data := #[] }, .int .i64 0] ∧ Below W.heap.size W wr) (fun i _ => l.length - (intOf i).toNat)
    case atStart => exact ⟨0, r0, by omega, rfl, Lib.hid rfl, BN.out, BZ3.out, HB3.out⟩
    case round =>
      obtain ⟨k, h, hk, rfl, ho, bN, bZ, hbel⟩ := hrel
      have hNlt := bN.lt
      by_cases hlt : k < l.length
      · obtain ⟨ad2, r, p, e0, he, hp, hE⟩ := (HS0.out.below hbel).rg_load rfl hlt
        injection e0 with e0
        subst e0
        obtain ⟨hplt, c0, c1, c2, c3, c4, c5, c6, c7⟩ := hE
        have hNX := hullTo_next (t := t) (r0 := r0) he
        rw [ho.out] at hNX
        have HLT := Lib.hid hlt
        clear he
        obtain ⟨M, hM⟩ : ∃ M, wr.heap.size = M := ⟨_, rfl⟩
        obtain ⟨U, hU⟩ : ∃ U, U = wr.alloc (.cells #[.bool r.lo.null, .int .i64 r.lo.n, .string r.lo.s, .int .i64 r.lo.seq, .bool r.hi.null, .int .i64 r.hi.n, .string r.hi.s, .int .i64 r.hi.seq] 44) := ⟨_, rfl⟩
        have hbU : Below W.heap.size W U := by rw [hU]; exact hbel.alloc hbel.size _
        have BR1 := Lib.hid (show Blk U M 44 #[.bool r.lo.null, .int .i64 r.lo.n, .string r.lo.s, .int .i64 r.lo.seq, .bool r.hi.null, .int .i64 r.hi.n, .string r.hi.s, .int .i64 r.hi.seq] by rw [hU, ← hM]; exact Blk.new _ _ _)
        have BN1 := Lib.hid (show Blk U N 44 #[.bool h.lo.null, .int .i64 h.lo.n, .string h.lo.s, .int .i64 h.lo.seq, .bool h.hi.null, .int .i64 h.hi.n, .string h.hi.s, .int .i64 h.hi.seq] by rw [hU]; exact bN.alloc _)
        have BZ1 := Lib.hid (show Blk U w.heap.size 44 #[.bool false, .int .i64 0, .string { data := #[] }, .int .i64 0, .bool false, .int .i64 0, .string { data := #[] }, .int .i64 0] by rw [hU]; exact bZ.alloc _)
        have hNM : N < M := by rw [← hM]; exact hNlt
        have hMN : M ≠ N := by omega
        have HB1 := Lib.hid hbU
        obtain ⟨ca, hca⟩ : ∃ q, cmpR t r.lo h.lo = q := ⟨_, rfl⟩
        obtain ⟨cb, hcb⟩ : ∃ q, cmpR t r.hi h.hi = q := ⟨_, rfl⟩
        have HCA := Lib.hid (fun X => show Calls Try.prog 25 #[.int .i64 t, .agg #[.bool r.lo.null, .int .i64 r.lo.n, .string r.lo.s, .int .i64 r.lo.seq], .agg #[.bool h.lo.null, .int .i64 h.lo.n, .string h.lo.s, .int .i64 h.lo.seq]] X (RetN X ca) by rw [← hca]; exact rcmpRank_any t r.lo h.lo X)
        have HCB := Lib.hid (fun X => show Calls Try.prog 25 #[.int .i64 t, .agg #[.bool r.hi.null, .int .i64 r.hi.n, .string r.hi.s, .int .i64 r.hi.seq], .agg #[.bool h.hi.null, .int .i64 h.hi.n, .string h.hi.s, .int .i64 h.hi.seq]] X (RetN X cb) by rw [← hcb]; exact rcmpRank_any t r.hi h.hi X)
        unfold hullStep at hNX
        rw [hca, hcb] at hNX
        clear bN bZ hbel hbU hca hcb
        have bb := BR1.out
        have d0 := bb.cell 0
        have d1 := bb.cell 1
        have d2 := bb.cell 2
        have d3 := bb.cell 3
        have d4 := bb.cell 4
        have d5 := bb.cell 5
        have d6 := bb.cell 6
        have d7 := bb.cell 7
        simp only [List.getElem?_toArray, List.getElem?_cons_zero, List.getElem?_cons_succ] at d0 d1 d2 d3 d4 d5 d6 d7
        clear bb
        have bb := BN1.out
        have e0 := bb.cell 0
        have e1 := bb.cell 1
        have e2 := bb.cell 2
        have e3 := bb.cell 3
        have e4 := bb.cell 4
        have e5 := bb.cell 5
        have e6 := bb.cell 6
        have e7 := bb.cell 7
        simp only [List.getElem?_toArray, List.getElem?_cons_zero, List.getElem?_cons_succ] at e0 e1 e2 e3 e4 e5 e6 e7
        clear bb
        go_upto_region 7 with (fail)
        rw [← hU]
        try simp only [hM]
        clear hU c0 c1 c2 c3 c4 c5 c6 c7 hplt hM
        go_wp2_with fail
        refine (HCA.out _).mono ?_
        rintro _ w4 ⟨rfl, hb4⟩
        have BR4 := Lib.hid (BR1.out.below hb4 BR1.out.lt)
        have BN4 := Lib.hid (BN1.out.below hb4 BN1.out.lt)
        have BZ4 := Lib.hid (BZ1.out.below hb4 BZ1.out.lt)
        have HB4 := Lib.hid (HB1.out.trans (hb4.mono HB1.out.size))
        clear hb4
        clear d0 d1 d2 d3 d4 d5 d6 d7
        clear e0 e1 e2 e3 e4 e5 e6 e7
        have bb := BR4.out
        have d0 := bb.cell 0
        have d1 := bb.cell 1
        have d2 := bb.cell 2
        have d3 := bb.cell 3
        have d4 := bb.cell 4
        have d5 := bb.cell 5
        have d6 := bb.cell 6
        have d7 := bb.cell 7
        simp only [List.getElem?_toArray, List.getElem?_cons_zero, List.getElem?_cons_succ] at d0 d1 d2 d3 d4 d5 d6 d7
        clear bb
        have bb := BN4.out
        have e0 := bb.cell 0
        have e1 := bb.cell 1
        have e2 := bb.cell 2
        have e3 := bb.cell 3
        have e4 := bb.cell 4
        have e5 := bb.cell 5
        have e6 := bb.cell 6
        have e7 := bb.cell 7
        simp only [List.getElem?_toArray, List.getElem?_cons_zero, List.getElem?_cons_succ] at e0 e1 e2 e3 e4 e5 e6 e7
        clear bb
        by_cases hq1 : ca < 0
        · have q1 : decide (ca < 0) = true := by simpa using hq1
          rw [if_pos hq1] at hNX
          clear hq1
          have fz0 := (BN4.out).frozen 0
          have fz1 := (BN4.out).frozen 1
          have fz2 := (BN4.out).frozen 2
          have fz3 := (BN4.out).frozen 3
          have hlN := BN4.out.lt
          go_upto_region 9 with (fail)
          have kg := grown4 w4 N (.bool r.lo.null) (.int .i64 r.lo.n) (.string r.lo.s) (.int .i64 r.lo.seq)
          have kb := Blk.lo8 (.bool r.lo.null) (.int .i64 r.lo.n) (.string r.lo.s) (.int .i64 r.lo.seq) BN4.out
          have kz := BZ4.out.row kg (by omega)
          have kr := BR4.out.row kg (by omega)
          have kw := below_row HB4.out kg hNW HB4.out.size
          obtain ⟨X, hX⟩ : ∃ X, X = (((w4.setCell ⟨N, 0, none⟩ (.bool r.lo.null)).setCell ⟨N, 1, none⟩ (.int .i64 r.lo.n)).setCell ⟨N, 2, none⟩ (.string r.lo.s)).setCell ⟨N, 3, none⟩ (.int .i64 r.lo.seq) := ⟨_, rfl⟩
          rw [← hX] at kb kz kr kw ⊢
          clear hX kg
          have BN5 := Lib.hid kb
          have BZ5 := Lib.hid kz
          have BR5 := Lib.hid kr
          have HB5 := Lib.hid kw
          clear kb kz kr kw fz0 fz1 fz2 fz3 hlN
          clear d0 d1 d2 d3 d4 d5 d6 d7
          clear e0 e1 e2 e3 e4 e5 e6 e7
          have bb := BR5.out
          have d0 := bb.cell 0
          have d1 := bb.cell 1
          have d2 := bb.cell 2
          have d3 := bb.cell 3
          have d4 := bb.cell 4
          have d5 := bb.cell 5
          have d6 := bb.cell 6
          have d7 := bb.cell 7
          simp only [List.getElem?_toArray, List.getElem?_cons_zero, List.getElem?_cons_succ] at d0 d1 d2 d3 d4 d5 d6 d7
          clear bb
          have bb := BN5.out
          have e0 := bb.cell 0
          have e1 := bb.cell 1
          have e2 := bb.cell 2
          have e3 := bb.cell 3
          have e4 := bb.cell 4
          have e5 := bb.cell 5
          have e6 := bb.cell 6
          have e7 := bb.cell 7
          simp only [List.getElem?_toArray, List.getElem?_cons_zero, List.getElem?_cons_succ] at e0 e1 e2 e3 e4 e5 e6 e7
          clear bb
          go_wp2_with fail
          refine (HCB.out _).mono ?_
          rintro _ w6 ⟨rfl, hb4⟩
          have BR6 := Lib.hid (BR5.out.below hb4 BR5.out.lt)
          have BN6 := Lib.hid (BN5.out.below hb4 BN5.out.lt)
          have BZ6 := Lib.hid (BZ5.out.below hb4 BZ5.out.lt)
          have HB6 := Lib.hid (HB5.out.trans (hb4.mono HB5.out.size))
          clear hb4
          clear d0 d1 d2 d3 d4 d5 d6 d7
          clear e0 e1 e2 e3 e4 e5 e6 e7
          have bb := BR6.out
          have d0 := bb.cell 0
          have d1 := bb.cell 1
          have d2 := bb.cell 2
          have d3 := bb.cell 3
          have d4 := bb.cell 4
          have d5 := bb.cell 5
          have d6 := bb.cell 6
          have d7 := bb.cell 7
          simp only [List.getElem?_toArray, List.getElem?_cons_zero, List.getElem?_cons_succ] at d0 d1 d2 d3 d4 d5 d6 d7
          clear bb
          have bb := BN6.out
          have e0 := bb.cell 0
          have e1 := bb.cell 1
          have e2 := bb.cell 2
          have e3 := bb.cell 3
          have e4 := bb.cell 4
          have e5 := bb.cell 5
          have e6 := bb.cell 6
          have e7 := bb.cell 7
          simp only [List.getElem?_toArray, List.getElem?_cons_zero, List.getElem?_cons_succ] at e0 e1 e2 e3 e4 e5 e6 e7
          clear bb
          by_cases hq2 : 0 < cb
          · have q2 : decide (0 < cb) = true := by simpa using hq2
            have HNX := Lib.hid (show hullTo t l r0 (k + 1) = ⟨r.lo, r.hi⟩ by rw [hNX, if_pos hq2])
            clear hq2 hNX
            have fz0 := (BN6.out).frozen 4
            have fz1 := (BN6.out).frozen 5
            have fz2 := (BN6.out).frozen 6
            have fz3 := (BN6.out).frozen 7
            have hlN := BN6.out.lt
            go_wp2
            have kg := grown4h w6 N (.bool r.hi.null) (.int .i64 r.hi.n) (.string r.hi.s) (.int .i64 r.hi.seq)
            have kb := Blk.hi8 (.bool r.hi.null) (.int .i64 r.hi.n) (.string r.hi.s) (.int .i64 r.hi.seq) BN6.out
            have kz := BZ6.out.row kg (by omega)
            have kr := BR6.out.row kg (by omega)
            have kw := below_row HB6.out kg hNW HB6.out.size
            obtain ⟨X, hX⟩ : ∃ X, X = (((w6.setCell ⟨N, 4, none⟩ (.bool r.hi.null)).setCell ⟨N, 5, none⟩ (.int .i64 r.hi.n)).setCell ⟨N, 6, none⟩ (.string r.hi.s)).setCell ⟨N, 7, none⟩ (.int .i64 r.hi.seq) := ⟨_, rfl⟩
            rw [← hX] at kb kz kr kw ⊢
            clear hX kg
            have BN7 := Lib.hid kb
            have BZ7 := Lib.hid kz
            have BR7 := Lib.hid kr
            have HB7 := Lib.hid kw
            clear kb kz kr kw fz0 fz1 fz2 fz3 hlN
            clear d0 d1 d2 d3 d4 d5 d6 d7
            clear e0 e1 e2 e3 e4 e5 e6 e7
            go_roundw
            case rel => exact ⟨k + 1, ⟨r.lo, r.hi⟩, HLT.out, by go_num, HNX, BN7.out, BZ7.out, HB7.out⟩
            case measure => have := HLT.out; simp [intOf]; omega
          · have q2 : decide (0 < cb) = false := by simpa using hq2
            have HNX := Lib.hid (show hullTo t l r0 (k + 1) = ⟨r.lo, h.hi⟩ by rw [hNX, if_neg hq2])
            clear hq2 hNX
            go_wp2
            go_roundw
            case rel => exact ⟨k + 1, ⟨r.lo, h.hi⟩, HLT.out, by go_num, HNX, BN6.out, BZ6.out, HB6.out⟩
            case measure => have := HLT.out; simp [intOf]; omega
        · have q1 : decide (ca < 0) = false := by simpa using hq1
          rw [if_neg hq1] at hNX
          clear hq1
          go_wp2_with fail
          refine (HCB.out _).mono ?_
          rintro _ w6 ⟨rfl, hb4⟩
          have BR6 := Lib.hid (BR4.out.below hb4 BR4.out.lt)
          have BN6 := Lib.hid (BN4.out.below hb4 BN4.out.lt)
          have BZ6 := Lib.hid (BZ4.out.below hb4 BZ4.out.lt)
          have HB6 := Lib.hid (HB4.out.trans (hb4.mono HB4.out.size))
          clear hb4
          clear d0 d1 d2 d3 d4 d5 d6 d7
          clear e0 e1 e2 e3 e4 e5 e6 e7
          have bb := BR6.out
          have d0 := bb.cell 0
          have d1 := bb.cell 1
          have d2 := bb.cell 2
          have d3 := bb.cell 3
          have d4 := bb.cell 4
          have d5 := bb.cell 5
          have d6 := bb.cell 6
          have d7 := bb.cell 7
          simp only [List.getElem?_toArray, List.getElem?_cons_zero, List.getElem?_cons_succ] at d0 d1 d2 d3 d4 d5 d6 d7
          clear bb
          have bb := BN6.out
          have e0 := bb.cell 0
          have e1 := bb.cell 1
          have e2 := bb.cell 2
          have e3 := bb.cell 3
          have e4 := bb.cell 4
          have e5 := bb.cell 5
          have e6 := bb.cell 6
          have e7 := bb.cell 7
          simp only [List.getElem?_toArray, List.getElem?_cons_zero, List.getElem?_cons_succ] at e0 e1 e2 e3 e4 e5 e6 e7
          clear bb
          by_cases hq2 : 0 < cb
          · have q2 : decide (0 < cb) = true := by simpa using hq2
            have HNX := Lib.hid (show hullTo t l r0 (k + 1) = ⟨h.lo, r.hi⟩ by rw [hNX, if_pos hq2])
            clear hq2 hNX
            have fz0 := (BN6.out).frozen 4
            have fz1 := (BN6.out).frozen 5
            have fz2 := (BN6.out).frozen 6
            have fz3 := (BN6.out).frozen 7
            have hlN := BN6.out.lt
            go_wp2
            have kg := grown4h w6 N (.bool r.hi.null) (.int .i64 r.hi.n) (.string r.hi.s) (.int .i64 r.hi.seq)
            have kb := Blk.hi8 (.bool r.hi.null) (.int .i64 r.hi.n) (.string r.hi.s) (.int .i64 r.hi.seq) BN6.out
            have kz := BZ6.out.row kg (by omega)
            have kr := BR6.out.row kg (by omega)
            have kw := below_row HB6.out kg hNW HB6.out.size
            obtain ⟨X, hX⟩ : ∃ X, X = (((w6.setCell ⟨N, 4, none⟩ (.bool r.hi.null)).setCell ⟨N, 5, none⟩ (.int .i64 r.hi.n)).setCell ⟨N, 6, none⟩ (.string r.hi.s)).setCell ⟨N, 7, none⟩ (.int .i64 r.hi.seq) := ⟨_, rfl⟩
            rw [← hX] at kb kz kr kw ⊢
            clear hX kg
            have BN7 := Lib.hid kb
            have BZ7 := Lib.hid kz
            have BR7 := Lib.hid kr
            have HB7 := Lib.hid kw
            clear kb kz kr kw fz0 fz1 fz2 fz3 hlN
            clear d0 d1 d2 d3 d4 d5 d6 d7
            clear e0 e1 e2 e3 e4 e5 e6 e7
            go_roundw
            case rel => exact ⟨k + 1, ⟨h.lo, r.hi⟩, HLT.out, by go_num, HNX, BN7.out, BZ7.out, HB7.out⟩
            case measure => have := HLT.out; simp [intOf]; omega
          · have q2 : decide (0 < cb) = false := by simpa using hq2
            have HNX := Lib.hid (show hullTo t l r0 (k + 1) = ⟨h.lo, h.hi⟩ by rw [hNX, if_neg hq2])
            clear hq2 hNX
            go_wp2
            go_roundw
            case rel => exact ⟨k + 1, ⟨h.lo, h.hi⟩, HLT.out, by go_num, HNX, BN6.out, BZ6.out, HB6.out⟩
            case measure => have := HLT.out; simp [intOf]; omega
      · have HG := Lib.hid (show hullR t l = some h by rw [HF.out, show l.length = k by omega]; exact congrArg some ho.out)
        have BNr := Lib.hid bN
        have BZr := Lib.hid bZ
        have HBr := Lib.hid (HB0.out.trans (hbel.mono HB0.out.size))
        clear bN bZ hbel
        have bb := BNr.out
        have e0 := bb.cell 0
        have e1 := bb.cell 1
        have e2 := bb.cell 2
        have e3 := bb.cell 3
        have e4 := bb.cell 4
        have e5 := bb.cell 5
        have e6 := bb.cell 6
        have e7 := bb.cell 7
        simp only [List.getElem?_toArray, List.getElem?_cons_zero, List.getElem?_cons_succ] at e0 e1 e2 e3 e4 e5 e6 e7
        clear bb
        have bb := BZr.out
        have zz0 := bb.cell 0
        have zz1 := bb.cell 1
        have zz2 := bb.cell 2
        have zz3 := bb.cell 3
        have zz4 := bb.cell 4
        have zz5 := bb.cell 5
        have zz6 := bb.cell 6
        have zz7 := bb.cell 7
        simp only [List.getElem?_toArray, List.getElem?_cons_zero, List.getElem?_cons_succ] at zz0 zz1 zz2 zz3 zz4 zz5 zz6 zz7
        clear bb
        have fz0 := (BZr.out).frozen 0
        have fz1 := (BZr.out).frozen 1
        have fz2 := (BZr.out).frozen 2
        have fz3 := (BZr.out).frozen 3
        have fz4 := (BZr.out).frozen 4
        have fz5 := (BZr.out).frozen 5
        have fz6 := (BZr.out).frozen 6
        have fz7 := (BZr.out).frozen 7
        have hltz := BZr.out.lt
        go_wp2
        have kg := grown8 wr w.heap.size (.bool h.lo.null) (.int .i64 h.lo.n) (.string h.lo.s) (.int .i64 h.lo.seq) (.bool h.hi.null) (.int .i64 h.hi.n) (.string h.hi.s) (.int .i64 h.hi.seq)
        have kb := blk8 (.bool h.lo.null) (.int .i64 h.lo.n) (.string h.lo.s) (.int .i64 h.lo.seq) (.bool h.hi.null) (.int .i64 h.hi.n) (.string h.hi.s) (.int .i64 h.hi.seq) BZr.out
        have kw := below_row HBr.out kg (Nat.le_refl _) HBr.out.size
        obtain ⟨V, hV⟩ : ∃ V, V = (((((((wr.setCell ⟨w.heap.size, 0, none⟩ (.bool h.lo.null)).setCell ⟨w.heap.size, 1, none⟩ (.int .i64 h.lo.n)).setCell ⟨w.heap.size, 2, none⟩ (.string h.lo.s)).setCell ⟨w.heap.size, 3, none⟩ (.int .i64 h.lo.seq)).setCell ⟨w.heap.size, 4, none⟩ (.bool h.hi.null)).setCell ⟨w.heap.size, 5, none⟩ (.int .i64 h.hi.n)).setCell ⟨w.heap.size, 6, none⟩ (.string h.hi.s)).setCell ⟨w.heap.size, 7, none⟩ (.int .i64 h.hi.seq) := ⟨_, rfl⟩
        rw [← hV] at kb kw ⊢
        have bb := kb
        have d0 := bb.cell 0
        have d1 := bb.cell 1
        have d2 := bb.cell 2
        have d3 := bb.cell 3
        have d4 := bb.cell 4
        have d5 := bb.cell 5
        have d6 := bb.cell 6
        have d7 := bb.cell 7
        simp only [List.getElem?_toArray, List.getElem?_cons_zero, List.getElem?_cons_succ] at d0 d1 d2 d3 d4 d5 d6 d7
        clear bb
        exact bodyPost_ret (v := .tuple #[.agg #[.bool h.lo.null, .int .i64 h.lo.n, .string h.lo.s, .int .i64 h.lo.seq, .bool h.hi.null, .int .i64 h.hi.n, .string h.hi.s, .int .i64 h.hi.seq], .bool true]) (by simp [results, Try.results24, go_sem, d0, d1, d2, d3, d4, d5, d6, d7]) rfl ⟨by rw [HG.out]; rfl, kw⟩
end Go.Proofs.Ytcjekbncllccbaa
