/-
  The contracts of ref27.Stab, Depth, PeakOf, find and before.
-/
import Derived.Test.YtcjekbncllccbaaPk1
namespace Go.Proofs.Ytcjekbncllccbaa
open Go.RowKit Go.Sort

def stabR (t : Int) (l : List Rg) (q : Rk) : Nat := if chkRs t l = true then stabN t l q else 0
set_option maxRecDepth 100000 in
set_option maxHeartbeats 8000000 in
theorem rstab_any (t : Int) (v : Value) (l : List Rg) (q : Rk) (w : World) (hs : Sl w 8 v l.length (rngs l)) (hl : l.length ≤ 1000000) :
    Calls Try.prog 27 #[.int .i64 t, v, .agg #[.bool q.null, .int .i64 q.n, .string q.s, .int .i64 q.seq]] w (RetN w (stabR t l q : Int)) := by
  obtain ⟨A, c, rfl, hc1, hc2⟩ := hs.form
  obtain ⟨W, hW⟩ : ∃ W, W = w.alloc (.cells #[.bool q.null, .int .i64 q.n, .string q.s, .int .i64 q.seq] 37) := ⟨_, rfl⟩
  have hb0 : Below w.heap.size w W := by rw [hW]; exact abel _ _
  have BQ0 := Lib.hid (show Blk W w.heap.size 37 #[.bool q.null, .int .i64 q.n, .string q.s, .int .i64 q.seq] by rw [hW]; exact Blk.new _ _ _)
  have HC := Lib.hid (rchkRs_any t (.slice A l.length c) l W (hs.below hb0) hl)
  have HS0 := Lib.hid (hs.below hb0)
  have HB0 := Lib.hid hb0
  clear hs hb0
  go_enter Try.func27, Try.ntmps27
  go_upto_region 1 with (fail)
  rw [← hW]
  clear hW
  go_wp2_with fail
  refine HC.out.mono ?_
  cases hck : chkRs t l with
  | false =>
    have HF := Lib.hid (show stabR t l q = 0 by unfold stabR; rw [if_neg (by simp [hck])])
    clear hck HC
    rintro _ w2 ⟨rfl, hb2⟩
    have HX := Lib.hid (bst HB0.out hb2)
    clear hb2
    go_wp2
    go_ret
    exact RetN.mk_ (by rw [HF.out]; rfl) HX.out
  | true =>
    have HF := Lib.hid (show stabR t l q = stabN t l q by unfold stabR; rw [if_pos hck])
    clear hck HC
    rintro _ w2 ⟨rfl, hb2⟩
    have HS := Lib.hid (HS0.out.below hb2)
    have BQ := Lib.hid (BQ0.out.below hb2 BQ0.out.lt)
    have HB2 := Lib.hid (bst HB0.out hb2)
    clear hb2
    go_wp2
    go_loopw [7, 16] (fun n i wr => ∃ k : Nat, k ≤ l.length ∧ i = .int .i64 k ∧ n = .int .i64 (stabN t (l.take k) q : Int) ∧ Below w2.heap.size w2 wr) (fun _ i _ => l.length - (intOf i).toNat)
    case atStart => exact ⟨0, by omega, rfl, by simp [stabN], Below.refl _ _⟩
    case round =>
      obtain ⟨k, hk, rfl, rfl, hbel⟩ := hrel
      by_cases hlt : k < l.length
      · obtain ⟨ad, r, p, rfl, he, hp, hE⟩ := (HS.out.below hbel).rg_load rfl hlt
        obtain ⟨hplt, c0, c1, c2, c3, c4, c5, c6, c7⟩ := hE
        have hN := stabN_next (t := t) (q := q) he
        have hle := stabN_le t l q k
        clear he
        obtain ⟨U, hU⟩ : ∃ U, U = wr.alloc (.cells #[.bool r.lo.null, .int .i64 r.lo.n, .string r.lo.s, .int .i64 r.lo.seq, .bool r.hi.null, .int .i64 r.hi.n, .string r.hi.s, .int .i64 r.hi.seq] 44) := ⟨_, rfl⟩
        have BU := Lib.hid (show Below w2.heap.size w2 U by rw [hU]; exact hbel.alloc hbel.size _)
        have BR := Lib.hid (show Blk U wr.heap.size 44 #[.bool r.lo.null, .int .i64 r.lo.n, .string r.lo.s, .int .i64 r.lo.seq, .bool r.hi.null, .int .i64 r.hi.n, .string r.hi.s, .int .i64 r.hi.seq] by rw [hU]; exact Blk.new _ _ _)
        obtain ⟨N, hN2⟩ : ∃ N, stabN t (l.take k) q = N := ⟨_, rfl⟩
        obtain ⟨M, hM⟩ : ∃ M, stabN t (l.take (k + 1)) q = M := ⟨_, rfl⟩
        rw [hN2] at hle
        rw [hN2, hM] at hN
        have HM := Lib.hid hM
        simp only [hN2]
        clear hN2 hM
        have bb := BR.out
        have d0 := bb.cell 0
        have d1 := bb.cell 1
        have d2 := bb.cell 2
        have d3 := bb.cell 3
        have d4 := bb.cell 4
        have d5 := bb.cell 5
        have d6 := bb.cell 6
        have d7 := bb.cell 7
        simp only [List.getElem?_toArray, List.getElem?_cons_zero, List.getElem?_cons_succ] at d0 d1 d2 d3 d4 d5 d6 d7
        clear bb
        have bb := (BQ.out.below BU.out BQ.out.lt)
        have e0 := bb.cell 0
        have e1 := bb.cell 1
        have e2 := bb.cell 2
        have e3 := bb.cell 3
        simp only [List.getElem?_toArray, List.getElem?_cons_zero, List.getElem?_cons_succ] at e0 e1 e2 e3
        clear bb
        go_upto_region 7 with (fail)
        rw [← hU]
        clear hU
        cases hn : contR t r q with
        | true =>
          have HC := Lib.hid (rcont_any t r q U hn)
          rw [hn, if_pos rfl] at hN
          clear hn
          go_wp2_with fail
          refine HC.out.mono ?_
          rintro _ w4 ⟨rfl, hb4⟩
          have HX := Lib.hid (BU.out.trans (hb4.mono BU.out.size))
          clear hb4
          go_wp2
          go_roundw
          case rel => exact ⟨k + 1, by omega, by go_num, by rw [HM.out, hN]; go_num, HX.out⟩
          case measure => simp [intOf]; omega
        | false =>
          have HC := Lib.hid (rcont_any t r q U hn)
          rw [hn, if_neg (by simp), Nat.add_zero] at hN
          clear hn
          go_wp2_with fail
          refine HC.out.mono ?_
          rintro _ w4 ⟨rfl, hb4⟩
          have HX := Lib.hid (BU.out.trans (hb4.mono BU.out.size))
          clear hb4
          go_wp2
          go_roundw
          case rel => exact ⟨k + 1, by omega, by go_num, by rw [HM.out, hN], HX.out⟩
          case measure => simp [intOf]; omega
      · have hkl : k = l.length := by omega
        have HG := Lib.hid (show stabN t (l.take k) q = stabR t l q by rw [HF.out, hkl, List.take_length])
        have HX := Lib.hid (bst HB2.out hbel)
        clear hbel hkl
        obtain ⟨N, hN2⟩ : ∃ N, stabN t (l.take k) q = N := ⟨_, rfl⟩
        rw [hN2] at HG
        simp only [hN2]
        clear hN2
        go_wp2
        go_ret
        exact RetN.mk_ (by rw [← HG.out]) HX.out
theorem depthTo_le (t : Int) (l : List Rg) (k : Nat) : depthTo t l k ≤ l.length := by
  unfold depthTo
  have : ∀ (m : List Rg) (d : Nat), d ≤ l.length → m.foldl (fun d r => max d (stabN t l r.lo)) d ≤ l.length := by
    intro m
    induction m with
    | nil => intro d hd; exact hd
    | cons a m ih =>
      intro d hd
      have h2 : stabN t l a.lo ≤ l.length := List.countP_le_length
      exact ih _ (Nat.max_le.2 ⟨hd, h2⟩)
  exact this _ _ (Nat.zero_le _)
set_option maxRecDepth 100000 in
set_option maxHeartbeats 8000000 in
theorem rdepth_any (t : Int) (v : Value) (l : List Rg) (w : World) (hs : Sl w 8 v l.length (rngs l)) (hl : l.length ≤ 1000000) :
    Calls Try.prog 13 #[.int .i64 t, v] w (RetN w (depthR t l : Int)) := by
  obtain ⟨A, c, rfl, hc1, hc2⟩ := hs.form
  have HC := Lib.hid (rchkRs_any t (.slice A l.length c) l w hs hl)
  have HS0 := Lib.hid hs
  clear hs
  go_enter Try.func13, Try.ntmps13
  go_wp2_with fail
  refine HC.out.mono ?_
  cases hck : chkRs t l with
  | false =>
    have HF := Lib.hid (show depthR t l = 0 by unfold depthR; rw [if_neg (by simp [hck])])
    clear hck HC
    rintro _ w2 ⟨rfl, hb2⟩
    have HX := Lib.hid hb2
    clear hb2
    go_wp2
    go_ret
    exact RetN.mk_ (by rw [HF.out]; rfl) HX.out
  | true =>
    have HF := Lib.hid (show depthR t l = depthTo t l l.length by unfold depthR; rw [if_pos hck])
    have HK := Lib.hid (fun q => show stabR t l q = stabN t l q by unfold stabR; rw [if_pos hck])
    clear hck HC
    rintro _ w2 ⟨rfl, hb2⟩
    have HS := Lib.hid (HS0.out.below hb2)
    have HB2 := Lib.hid hb2
    clear hb2
    go_wp2
    go_loopw [5, 14] (fun n i wr => ∃ (k d : Nat), k ≤ l.length ∧ i = .int .i64 k ∧ n = .int .i64 (d : Int) ∧ Hid (depthTo t l k = d) ∧ Below w2.heap.size w2 wr) (fun _ i _ => l.length - (intOf i).toNat)
    case atStart => exact ⟨0, 0, by omega, rfl, rfl, Lib.hid rfl, Below.refl _ _⟩
    case round =>
      obtain ⟨k, d, hk, rfl, rfl, hd, hbel⟩ := hrel
      by_cases hlt : k < l.length
      · obtain ⟨ad, r, p, rfl, he, hp, hE⟩ := (HS.out.below hbel).rg_load rfl hlt
        obtain ⟨hplt, c0, c1, c2, c3, c4, c5, c6, c7⟩ := hE
        have hN := depthTo_next (t := t) he
        have hle : stabN t l r.lo ≤ l.length := List.countP_le_length
        clear he
        obtain ⟨U, hU⟩ : ∃ U, U = wr.alloc (.cells #[.bool r.lo.null, .int .i64 r.lo.n, .string r.lo.s, .int .i64 r.lo.seq, .bool r.hi.null, .int .i64 r.hi.n, .string r.hi.s, .int .i64 r.hi.seq] 44) := ⟨_, rfl⟩
        have hbU : Below w2.heap.size w2 U := by rw [hU]; exact hbel.alloc hbel.size _
        have BR := Lib.hid (show Blk U wr.heap.size 44 #[.bool r.lo.null, .int .i64 r.lo.n, .string r.lo.s, .int .i64 r.lo.seq, .bool r.hi.null, .int .i64 r.hi.n, .string r.hi.s, .int .i64 r.hi.seq] by rw [hU]; exact Blk.new _ _ _)
        have HC := Lib.hid (rstab_any t (.slice (some ad) l.length c) l r.lo U (HS.out.below hbU) hl)
        rw [HK.out] at HC
        have BU := Lib.hid hbU
        obtain ⟨n, hn⟩ : ∃ n, stabN t l r.lo = n := ⟨_, rfl⟩
        rw [hn] at hN HC hle
        have HN := Lib.hid (show depthTo t l (k + 1) = max d n by rw [hN, hd.out])
        clear hn hN hbU hbel
        have bb := BR.out
        have d0 := bb.cell 0
        have d1 := bb.cell 1
        have d2 := bb.cell 2
        have d3 := bb.cell 3
        have d4 := bb.cell 4
        have d5 := bb.cell 5
        have d6 := bb.cell 6
        have d7 := bb.cell 7
        simp only [List.getElem?_toArray, List.getElem?_cons_zero, List.getElem?_cons_succ] at d0 d1 d2 d3 d4 d5 d6 d7
        clear bb
        go_upto_region 7 with (fail)
        rw [← hU]
        clear hU
        go_wp2_with fail
        refine HC.out.mono ?_
        rintro _ w4 ⟨rfl, hb4⟩
        have HX := Lib.hid (BU.out.trans (hb4.mono BU.out.size))
        clear hb4
        go_wp2
        go_roundw
        case rel => exact ⟨k + 1, max d n, by omega, by go_num, by first | rfl | (congr 1; omega), HN, HX.out⟩
        case measure => simp [intOf]; omega
      · have HG := Lib.hid (show depthR t l = d by rw [HF.out, show l.length = k by omega]; exact hd.out)
        have HX := Lib.hid (bst HB2.out hbel)
        clear hbel
        go_wp2
        go_ret
        exact RetN.mk_ (by rw [HG.out]) HX.out
def peakOf (t : Int) (l : List Rg) : Option Rk := peakTo t l (depthR t l) l.length
def oRk (o : Option Rk) : Rk := o.getD rk00
def RetPk (w : World) (o : Option Rk) (e : Ending) (w' : World) : Prop := e = .returned (.tuple #[.agg #[.bool (oRk o).null, .int .i64 (oRk o).n, .string (oRk o).s, .int .i64 (oRk o).seq], .bool o.isSome]) ∧ Below w.heap.size w w'
set_option maxRecDepth 100000 in
set_option maxHeartbeats 8000000 in
theorem rpeakOf_any (t : Int) (v : Value) (l : List Rg) (w : World) (hs : Sl w 8 v l.length (rngs l)) (hl : l.length ≤ 1000000) :
    Calls Try.prog 17 #[.int .i64 t, v] w (RetPk w (peakOf t l)) := by
  obtain ⟨A, c, rfl, hc1, hc2⟩ := hs.form
  obtain ⟨W, hW⟩ : ∃ W, W = w.alloc (.cells #[.bool false, .int .i64 0, .string { data := #[] }, .int .i64 0] 37) := ⟨_, rfl⟩
  have hb0 : Below w.heap.size w W := by rw [hW]; exact abel _ _
  have BZ := Lib.hid (show Blk W w.heap.size 37 #[.bool false, .int .i64 0, .string { data := #[] }, .int .i64 0] by rw [hW]; exact Blk.new _ _ _)
  have HC := Lib.hid (rdepth_any t (.slice A l.length c) l W (hs.below hb0) hl)
  have HS0 := Lib.hid (hs.below hb0)
  have HB0 := Lib.hid hb0
  have hws : w.heap.size < W.heap.size := BZ.out.lt
  have hdl : depthR t l ≤ l.length := by unfold depthR; split; exact depthTo_le _ _ _; exact Nat.zero_le _
  have HK := Lib.hid (fun (h : 0 < depthR t l) q => show stabR t l q = stabN t l q by
    unfold stabR
    rw [if_pos]
    rw [← Bool.not_eq_false]
    intro hf
    unfold depthR at h
    rw [if_neg (by simp [hf])] at h
    omega)
  have HPO := Lib.hid (show peakOf t l = peakTo t l (depthR t l) l.length from rfl)
  obtain ⟨D, hD⟩ : ∃ D, depthR t l = D := ⟨_, rfl⟩
  rw [hD] at HC hdl HK HPO
  clear hs hb0 hD
  go_enter Try.func17, Try.ntmps17
  go_upto_region 1 with (fail)
  rw [← hW]
  clear hW
  go_wp2_with fail
  refine HC.out.mono ?_
  rintro _ w2 ⟨rfl, hb2⟩
  obtain ⟨N, hN⟩ : ∃ N, w2.heap.size = N := ⟨_, rfl⟩
  obtain ⟨W3, hW3⟩ : ∃ W3, W3 = w2.alloc (.cells #[.bool false, .int .i64 0, .string { data := #[] }, .int .i64 0] 37) := ⟨_, rfl⟩
  have hb3 : Below W.heap.size W W3 := by rw [hW3]; exact hb2.alloc hb2.size _
  have BN := Lib.hid (show Blk W3 N 37 #[.bool false, .int .i64 0, .string { data := #[] }, .int .i64 0] by rw [hW3, ← hN]; exact Blk.new _ _ _)
  have BZ3 := Lib.hid (BZ.out.below hb3 BZ.out.lt)
  have HB3 := Lib.hid hb3
  have hNW : W.heap.size ≤ N := by rw [← hN]; exact hb2.size
  have hNz : N ≠ w.heap.size := by omega
  clear hb2 hb3
  go_upto_region 4 with (fail)
  rw [← hW3]
  try simp only [hN]
  clear hW3 hN
  go_wp2
  go_loopw [8, 16] (fun f i wr => ∃ (k : Nat) (o : Option Rk), k ≤ l.length ∧ i = .int .i64 k ∧ f = .bool o.isSome ∧ Hid (peakTo t l D k = o) ∧ Blk wr N 37 #[.bool (oRk o).null, .int .i64 (oRk o).n, .string (oRk o).s, .int .i64 (oRk o).seq] ∧ Blk wr w.heap.size 37 #[.bool false, .int .i64 0, .string { data := #[] }, .int .i64 0] ∧ Below W.heap.size W wr) (fun _ i _ => l.length - (intOf i).toNat)
  case atStart => exact ⟨0, none, by omega, rfl, rfl, Lib.hid rfl, BN.out, BZ3.out, HB3.out⟩
  case round =>
    obtain ⟨k, o, hk, rfl, rfl, ho, bN, bZ, hbel⟩ := hrel
    have hNlt := bN.lt
    by_cases hlt : k < l.length
    · obtain ⟨ad, r, p, rfl, he, hp, hE⟩ := (HS0.out.below hbel).rg_load rfl hlt
      obtain ⟨hplt, c0, c1, c2, c3, c4, c5, c6, c7⟩ := hE
      have hN := peakTo_next (t := t) (d := D) he
      rw [ho.out] at hN
      unfold peakStep at hN
      have HLT := Lib.hid hlt
      have hle : stabN t l r.lo ≤ l.length := List.countP_le_length
      clear he hlt
      obtain ⟨U, hU⟩ : ∃ U, U = wr.alloc (.cells #[.bool r.lo.null, .int .i64 r.lo.n, .string r.lo.s, .int .i64 r.lo.seq, .bool r.hi.null, .int .i64 r.hi.n, .string r.hi.s, .int .i64 r.hi.seq] 44) := ⟨_, rfl⟩
      have hbU : Below W.heap.size W U := by rw [hU]; exact hbel.alloc hbel.size _
      have BR := Lib.hid (show Blk U wr.heap.size 44 #[.bool r.lo.null, .int .i64 r.lo.n, .string r.lo.s, .int .i64 r.lo.seq, .bool r.hi.null, .int .i64 r.hi.n, .string r.hi.s, .int .i64 r.hi.seq] by rw [hU]; exact Blk.new _ _ _)
      have BN1 := Lib.hid (show Blk U N 37 #[.bool (oRk o).null, .int .i64 (oRk o).n, .string (oRk o).s, .int .i64 (oRk o).seq] by rw [hU]; exact bN.alloc _)
      have BZ1 := Lib.hid (show Blk U w.heap.size 37 #[.bool false, .int .i64 0, .string { data := #[] }, .int .i64 0] by rw [hU]; exact bZ.alloc _)
      have HC := Lib.hid (rstab_any t (.slice (some ad) l.length c) l r.lo U (HS0.out.below hbU) hl)
      have BU := Lib.hid hbU
      obtain ⟨n, hn⟩ : ∃ n, stabN t l r.lo = n := ⟨_, rfl⟩
      rw [hn] at hN hle
      clear bN bZ hbel hbU
      have bb := BR.out
      have d0 := bb.cell 0
      have d1 := bb.cell 1
      have d2 := bb.cell 2
      have d3 := bb.cell 3
      have d4 := bb.cell 4
      have d5 := bb.cell 5
      have d6 := bb.cell 6
      have d7 := bb.cell 7
      simp only [List.getElem?_toArray, List.getElem?_cons_zero, List.getElem?_cons_succ] at d0 d1 d2 d3 d4 d5 d6 d7
      clear bb
      go_upto_region 7 with (fail)
      rw [← hU]
      clear hU
      by_cases hD : 0 < D
      · have q1 : decide (0 < D) = true := by simpa using hD
        rw [HK.out hD, hn] at HC
        go_wp2_with fail
        refine HC.out.mono ?_
        rintro _ w4 ⟨rfl, hb4⟩
        have BR4 := Lib.hid (BR.out.below hb4 BR.out.lt)
        have BN4 := Lib.hid (BN1.out.below hb4 BN1.out.lt)
        have BZ4 := Lib.hid (BZ1.out.below hb4 BZ1.out.lt)
        have HB4 := Lib.hid (BU.out.trans (hb4.mono BU.out.size))
        clear hb4 hn
        clear d0 d1 d2 d3 d4 d5 d6 d7
        have bb := BR4.out
        have d0 := bb.cell 0
        have d1 := bb.cell 1
        have d2 := bb.cell 2
        have d3 := bb.cell 3
        have d4 := bb.cell 4
        have d5 := bb.cell 5
        have d6 := bb.cell 6
        have d7 := bb.cell 7
        simp only [List.getElem?_toArray, List.getElem?_cons_zero, List.getElem?_cons_succ] at d0 d1 d2 d3 d4 d5 d6 d7
        clear bb
        have bb := BN4.out
        have e0 := bb.cell 0
        have e1 := bb.cell 1
        have e2 := bb.cell 2
        have e3 := bb.cell 3
        simp only [List.getElem?_toArray, List.getElem?_cons_zero, List.getElem?_cons_succ] at e0 e1 e2 e3
        clear bb
        by_cases h1 : n = D
        · have q2 : ((n : Int) == (D : Int)) = true := by simp [h1]
          have q2' : (n == D) = true := by simp [h1]
          cases o with
          | none =>
            have HN := Lib.hid (show peakTo t l D (k + 1) = some r.lo by rw [hN, if_pos ⟨hD, h1, rfl⟩])
            simp only [Option.isSome_none]
            clear hN h1 HC
            have fz0 := (BN4.out).frozen 0
            have fz1 := (BN4.out).frozen 1
            have fz2 := (BN4.out).frozen 2
            have fz3 := (BN4.out).frozen 3
            have hlN := BN4.out.lt
            go_wp2
            have kg := grown4 w4 N (.bool r.lo.null) (.int .i64 r.lo.n) (.string r.lo.s) (.int .i64 r.lo.seq)
            have kb := Blk.set4 (.bool r.lo.null) (.int .i64 r.lo.n) (.string r.lo.s) (.int .i64 r.lo.seq) BN4.out
            have kz := BZ4.out.row kg (by omega)
            have kw := below_row HB4.out kg hNW HB4.out.size
            have KB := Lib.hid kb
            have KZ := Lib.hid kz
            have KW := Lib.hid kw
            clear kg kb kz kw
            go_roundw
            case rel => exact ⟨k + 1, some r.lo, HLT.out, by go_num, rfl, HN, KB.out, KZ.out, KW.out⟩
            case measure => have := HLT.out; simp [intOf]; omega
          | some b =>
            obtain ⟨ck, hck⟩ : ∃ ck, cmpR t r.lo b = ck := ⟨_, rfl⟩
            have HCC := Lib.hid (fun X => show Calls Try.prog 25 #[.int .i64 t, .agg #[.bool r.lo.null, .int .i64 r.lo.n, .string r.lo.s, .int .i64 r.lo.seq], .agg #[.bool b.null, .int .i64 b.n, .string b.s, .int .i64 b.seq]] X (RetN X ck) by rw [← hck]; exact rcmpRank_any t r.lo b X)
            have hN2 : lessO t r.lo (some b) = decide (ck < 0) := by show decide (cmpR t r.lo b < 0) = _; rw [hck]
            rw [hN2] at hN
            simp only [Option.isSome_some]
            simp only [show oRk (some b) = b from rfl] at e0 e1 e2 e3
            clear hck HC hN2
            by_cases h3 : ck < 0
            · have HN := Lib.hid (show peakTo t l D (k + 1) = some r.lo by rw [hN, if_pos ⟨hD, h1, decide_eq_true h3⟩])
              have q3 : decide (ck < 0) = true := by simpa using h3
              clear hN h1 h3
              go_wp2_with fail
              refine (HCC.out _).mono ?_
              rintro _ w5 ⟨rfl, hb5⟩
              have BR5 := Lib.hid (BR4.out.below hb5 BR4.out.lt)
              have BN5 := Lib.hid (BN4.out.below hb5 BN4.out.lt)
              have BZ5 := Lib.hid (BZ4.out.below hb5 BZ4.out.lt)
              have HB5 := Lib.hid (HB4.out.trans (hb5.mono HB4.out.size))
              clear hb5
              clear d0 d1 d2 d3 d4 d5 d6 d7
              clear e0 e1 e2 e3
              have bb := BR5.out
              have d0 := bb.cell 0
              have d1 := bb.cell 1
              have d2 := bb.cell 2
              have d3 := bb.cell 3
              have d4 := bb.cell 4
              have d5 := bb.cell 5
              have d6 := bb.cell 6
              have d7 := bb.cell 7
              simp only [List.getElem?_toArray, List.getElem?_cons_zero, List.getElem?_cons_succ] at d0 d1 d2 d3 d4 d5 d6 d7
              clear bb
              have bb := BN5.out
              have e0 := bb.cell 0
              have e1 := bb.cell 1
              have e2 := bb.cell 2
              have e3 := bb.cell 3
              simp only [List.getElem?_toArray, List.getElem?_cons_zero, List.getElem?_cons_succ] at e0 e1 e2 e3
              clear bb
              have fz0 := (BN5.out).frozen 0
              have fz1 := (BN5.out).frozen 1
              have fz2 := (BN5.out).frozen 2
              have fz3 := (BN5.out).frozen 3
              have hlN := BN5.out.lt
              go_wp2
              have kg := grown4 w5 N (.bool r.lo.null) (.int .i64 r.lo.n) (.string r.lo.s) (.int .i64 r.lo.seq)
              have kb := Blk.set4 (.bool r.lo.null) (.int .i64 r.lo.n) (.string r.lo.s) (.int .i64 r.lo.seq) BN5.out
              have kz := BZ5.out.row kg (by omega)
              have kw := below_row HB5.out kg hNW HB5.out.size
              have KB := Lib.hid kb
              have KZ := Lib.hid kz
              have KW := Lib.hid kw
              clear kg kb kz kw
              go_roundw
              case rel => exact ⟨k + 1, some r.lo, HLT.out, by go_num, rfl, HN, KB.out, KZ.out, KW.out⟩
              case measure => have := HLT.out; simp [intOf]; omega
            · have HN := Lib.hid (show peakTo t l D (k + 1) = some b by rw [hN, if_neg (fun h => h3 (of_decide_eq_true h.2.2))])
              have q3 : decide (ck < 0) = false := by simpa using h3
              clear hN h1 h3
              go_wp2_with fail
              refine (HCC.out _).mono ?_
              rintro _ w5 ⟨rfl, hb5⟩
              have BN5 := Lib.hid (BN4.out.below hb5 BN4.out.lt)
              have BZ5 := Lib.hid (BZ4.out.below hb5 BZ4.out.lt)
              have HB5 := Lib.hid (HB4.out.trans (hb5.mono HB4.out.size))
              clear hb5
              go_wp2
              go_roundw
              case rel => exact ⟨k + 1, some b, HLT.out, by go_num, rfl, HN, BN5.out, BZ5.out, HB5.out⟩
              case measure => have := HLT.out; simp [intOf]; omega
        · have HN := Lib.hid (show peakTo t l D (k + 1) = o by rw [hN, if_neg (fun h => h1 h.2.1)])
          have q2 : ((n : Int) == (D : Int)) = false := by simp; omega
          have q2' : (n == D) = false := by simpa using h1
          clear hN h1 HC
          go_wp2
          go_roundw
          case rel => exact ⟨k + 1, o, HLT.out, by go_num, rfl, HN, BN4.out, BZ4.out, HB4.out⟩
          case measure => have := HLT.out; simp [intOf]; omega
      · have HN := Lib.hid (show peakTo t l D (k + 1) = o by rw [hN, if_neg (fun h => hD h.1)])
        have q1 : decide (0 < D) = false := by simpa using hD
        have HB1 := BU
        clear hN HC hn
        go_wp2
        go_roundw
        case rel => exact ⟨k + 1, o, HLT.out, by go_num, rfl, HN, BN1.out, BZ1.out, HB1.out⟩
        case measure => have := HLT.out; simp [intOf]; omega
    · have HF := Lib.hid (show peakOf t l = o by rw [HPO.out, show l.length = k by omega]; exact ho.out)
      have BNr := Lib.hid bN
      have BZr := Lib.hid bZ
      have HBr := Lib.hid (HB0.out.trans (hbel.mono HB0.out.size))
      clear bN bZ hbel
      have bb := BNr.out
      have e0 := bb.cell 0
      have e1 := bb.cell 1
      have e2 := bb.cell 2
      have e3 := bb.cell 3
      simp only [List.getElem?_toArray, List.getElem?_cons_zero, List.getElem?_cons_succ] at e0 e1 e2 e3
      clear bb
      have bb := BZr.out
      have d0 := bb.cell 0
      have d1 := bb.cell 1
      have d2 := bb.cell 2
      have d3 := bb.cell 3
      simp only [List.getElem?_toArray, List.getElem?_cons_zero, List.getElem?_cons_succ] at d0 d1 d2 d3
      clear bb
      have fz0 := (BZr.out).frozen 0
      have fz1 := (BZr.out).frozen 1
      have fz2 := (BZr.out).frozen 2
      have fz3 := (BZr.out).frozen 3
      have hltz := BZr.out.lt
      go_wp2
      have kg := grown4 wr w.heap.size (.bool (oRk o).null) (.int .i64 (oRk o).n) (.string (oRk o).s) (.int .i64 (oRk o).seq)
      have kb := Blk.set4 (.bool (oRk o).null) (.int .i64 (oRk o).n) (.string (oRk o).s) (.int .i64 (oRk o).seq) BZr.out
      have kw := below_row HBr.out kg (Nat.le_refl _) HBr.out.size
      obtain ⟨V, hV⟩ : ∃ V, V = (((wr.setCell ⟨w.heap.size, 0, none⟩ (.bool (oRk o).null)).setCell ⟨w.heap.size, 1, none⟩ (.int .i64 (oRk o).n)).setCell ⟨w.heap.size, 2, none⟩ (.string (oRk o).s)).setCell ⟨w.heap.size, 3, none⟩ (.int .i64 (oRk o).seq) := ⟨_, rfl⟩
      rw [← hV] at kb kw ⊢
      clear d0 d1 d2 d3
      have bb := kb
      have d0 := bb.cell 0
      have d1 := bb.cell 1
      have d2 := bb.cell 2
      have d3 := bb.cell 3
      simp only [List.getElem?_toArray, List.getElem?_cons_zero, List.getElem?_cons_succ] at d0 d1 d2 d3
      clear bb
      exact bodyPost_ret (v := .tuple #[.agg #[.bool (oRk o).null, .int .i64 (oRk o).n, .string (oRk o).s, .int .i64 (oRk o).seq], .bool o.isSome]) (by simp [results, Try.results17, go_sem, d0, d1, d2, d3]) rfl ⟨by rw [HF.out], kw⟩
end Go.Proofs.Ytcjekbncllccbaa
