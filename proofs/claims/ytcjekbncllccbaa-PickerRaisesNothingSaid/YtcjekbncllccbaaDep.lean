/-
  The contracts of the package depth.
-/
import Derived.Test.YtcjekbncllccbaaPickSpec
import Derived.Test.YtcjekbncllccbaaBat
import Derived.Test.YtcjekbncllccbaaEntOps
namespace Go.Proofs.Ytcjekbncllccbaa
open Go.RowKit Go.Sort

theorem all_any {t : Int} {l : List Rg} : (!(l.any fun r => decide (0 < cmpR t r.lo r.hi))) = l.all fun r => decide (cmpR t r.lo r.hi ≤ 0) := by
  induction l with
  | nil => rfl
  | cons a l ih =>
    rw [List.any_cons, List.all_cons, ← ih, Bool.not_or]
    congr 1
    by_cases h : 0 < cmpR t a.lo a.hi
    · simp [h]
    · simp [h]; omega
set_option maxRecDepth 100000 in
set_option maxHeartbeats 8000000 in
theorem dchkLit_any (t : Int) (r : Rg) (g : Nat) (w : World) (hG : Blk w g 3 #[.int .i64 t]) {b : Bool} (hb : decide (0 < cmpR t r.lo r.hi) = b) :
    Calls Try.prog 67 #[.agg #[.bool r.lo.null, .int .i64 r.lo.n, .string r.lo.s, .int .i64 r.lo.seq, .bool r.hi.null, .int .i64 r.hi.n, .string r.hi.s, .int .i64 r.hi.seq], .pointer (some ⟨g, 0, none⟩)] w (RetBe w b) := by
  have HB0 := Lib.hid (abel w (.cells #[.bool r.lo.null, .int .i64 r.lo.n, .string r.lo.s, .int .i64 r.lo.seq, .bool r.hi.null, .int .i64 r.hi.n, .string r.hi.s, .int .i64 r.hi.seq] 44))
  obtain ⟨W, hW⟩ : ∃ W, W = w.alloc (.cells #[.bool r.lo.null, .int .i64 r.lo.n, .string r.lo.s, .int .i64 r.lo.seq, .bool r.hi.null, .int .i64 r.hi.n, .string r.hi.s, .int .i64 r.hi.seq] 44) := ⟨_, rfl⟩
  have B1 := Lib.hid (show Blk W w.heap.size 44 #[.bool r.lo.null, .int .i64 r.lo.n, .string r.lo.s, .int .i64 r.lo.seq, .bool r.hi.null, .int .i64 r.hi.n, .string r.hi.s, .int .i64 r.hi.seq] by rw [hW]; exact Blk.new _ _ _)
  have G1 := Lib.hid (show Blk W g 3 #[.int .i64 t] by rw [hW]; exact hG.alloc _)
  have C := Lib.hid (bcmp_any t r.lo r.hi W)
  obtain ⟨k, hk⟩ : ∃ k, cmpR t r.lo r.hi = k := ⟨_, rfl⟩
  rw [hk] at hb C
  rw [← hW] at HB0
  have g0 := G1.out.cell 0
  simp only [List.getElem?_toArray, List.getElem?_cons_zero] at g0
  clear hk
  have bb := B1.out
  have c0 := bb.cell 0
  have c1 := bb.cell 1
  have c2 := bb.cell 2
  have c3 := bb.cell 3
  have c4 := bb.cell 4
  have c5 := bb.cell 5
  have c6 := bb.cell 6
  have c7 := bb.cell 7
  simp only [List.getElem?_toArray, List.getElem?_cons_zero, List.getElem?_cons_succ] at c0 c1 c2 c3 c4 c5 c6 c7
  clear bb
  go_enter Try.func67, Try.ntmps67
  go_upto_region 1 with (fail)
  rw [← hW]
  clear hW
  go_wp2_with fail
  refine C.out.mono ?_
  rintro _ w2 ⟨rfl, hb2⟩
  have HX := Lib.hid (bst HB0.out hb2)
  clear hb2
  go_wp2
  go_ret
  exact RetBe.mk_ rfl HX.out
set_option maxRecDepth 100000 in
set_option maxHeartbeats 8000000 in
theorem dchkIdx_any (t : Int) (v : Value) (l : List Rg) (g : Nat) (w : World) (hs : Sl w 8 v l.length (rngs l)) (hG : Blk w g 3 #[.int .i64 t]) (hl : l.length ≤ 1000000) :
    Calls Try.prog 93 #[v, .func (.func 67) #[] #[.pointer (some ⟨g, 0, none⟩)]] w (RetIx w (l.any fun r => decide (0 < cmpR t r.lo r.hi))) := by
  obtain ⟨A, c, rfl, hc1, hc2⟩ := hs.form
  have HG := Lib.hid hG
  clear hG
  go_enter Try.func93, Try.ntmps93
  go_wp2
  go_loopw [8] (fun i wr => ∃ k : Nat, k ≤ l.length ∧ i = .int .i64 k ∧ Below w.heap.size w wr ∧ Hid (∀ (j : Nat) (d : Rg), l[j]? = some d → j < k → decide (0 < cmpR t d.lo d.hi) = false)) (fun i _ => l.length - (intOf i).toNat)
  case atStart => exact ⟨0, by omega, rfl, Below.refl _ _, Lib.hid fun j d _ hj => absurd hj (Nat.not_lt_zero _)⟩
  case round =>
    obtain ⟨k, hk, rfl, hbel, hno⟩ := hrel
    by_cases hlt : k < l.length
    · obtain ⟨ad, r, p, rfl, he, hp, hE⟩ := (hs.below hbel).rg_load rfl hlt
      obtain ⟨hplt, c0, c1, c2, c3, c4, c5, c6, c7⟩ := hE
      have HE := Lib.hid he
      have HG2 := Lib.hid (HG.out.below hbel HG.out.lt)
      clear he
      cases hn : decide (0 < cmpR t r.lo r.hi) with
      | true =>
        have HC := Lib.hid (dchkLit_any t r g wr HG2.out hn)
        have HF := Lib.hid (show (l.any fun r => decide (0 < cmpR t r.lo r.hi)) = true from List.any_eq_true.2 ⟨r, List.mem_of_getElem? HE.out, hn⟩)
        clear hn
        go_wp2_with fail
        refine HC.out.mono ?_
        rintro _ w2 ⟨rfl, hb2⟩
        go_wp2
        go_ret
        exact RetIx.hit k HF.out (by omega) (hbel.trans (hb2.mono hbel.size))
      | false =>
        have HC := Lib.hid (dchkLit_any t r g wr HG2.out hn)
        have HN := Lib.hid (show ∀ (j : Nat) (d : Rg), l[j]? = some d → j < k + 1 → decide (0 < cmpR t d.lo d.hi) = false from fun j d hd hj => by
          by_cases ej : j = k
          · subst ej; rw [HE.out] at hd; injection hd with hd; rw [← hd]; exact hn
          · exact hno.out j d hd (by omega))
        clear hn
        go_wp2_with fail
        refine HC.out.mono ?_
        rintro _ w2 ⟨rfl, hb2⟩
        have HB := Lib.hid (hbel.trans (hb2.mono hbel.size))
        clear hb2 hbel
        go_wp2
        go_roundw
        case rel => exact ⟨k + 1, by omega, by go_num, HB.out, HN⟩
        case measure => simp [intOf]; omega
    · have HF := Lib.hid (show (l.any fun r => decide (0 < cmpR t r.lo r.hi)) = false by
        rw [Bool.eq_false_iff]; intro hx; rw [List.any_eq_true] at hx
        obtain ⟨d, hd, hx⟩ := hx
        obtain ⟨j, hj⟩ := List.mem_iff_getElem?.1 hd
        rw [hno.out j d hj (by have := (List.getElem?_eq_some_iff.1 hj).1; omega)] at hx; cases hx)
      go_wp2
      go_ret
      exact RetIx.miss HF.out hbel
set_option maxRecDepth 100000 in
set_option maxHeartbeats 8000000 in
theorem dchkFn_any (t : Int) (v : Value) (l : List Rg) (g : Nat) (w : World) (hs : Sl w 8 v l.length (rngs l)) (hG : Blk w g 3 #[.int .i64 t]) (hl : l.length ≤ 1000000) :
    Calls Try.prog 66 #[v, .func (.func 67) #[] #[.pointer (some ⟨g, 0, none⟩)]] w (RetBe w (l.any fun r => decide (0 < cmpR t r.lo r.hi))) := by
  obtain ⟨A', c', rfl, hc1, hc2⟩ := hs.form
  have HI := Lib.hid (dchkIdx_any t _ l g w hs hG hl)
  clear hs hG
  go_enter Try.func66, Try.ntmps66
  go_wp2_with fail
  refine HI.out.mono ?_
  rintro _ w2 ⟨r, rfl, hr, h1, h2, hb⟩
  have HB := Lib.hid hb
  have HR := Lib.hid hr
  clear hb hr
  go_wp2
  go_ret
  exact RetBe.mk_ (by rw [← HR.out]) HB.out
set_option maxRecDepth 100000 in
set_option maxHeartbeats 8000000 in
theorem dcheck_any (t : Int) (v : Value) (l : List Rg) (w : World) (hs : Sl w 8 v l.length (rngs l)) (hl : l.length ≤ 1000000) :
    Calls Try.prog 53 #[.int .i64 t, v] w (RetBe w (chkRs t l)) := by
  obtain ⟨A, c, rfl, hc1, hc2⟩ := hs.form
  obtain ⟨W, hW⟩ : ∃ W, W = w.alloc (.cells #[.int .i64 t] 3) := ⟨_, rfl⟩
  have hb0 : Below w.heap.size w W := by rw [hW]; exact abel _ _
  have hG : Blk W w.heap.size 3 #[.int .i64 t] := by rw [hW]; exact Blk.new _ _ _
  have HI := Lib.hid (dchkFn_any t _ l w.heap.size W (hs.below hb0) hG hl)
  have HB0 := Lib.hid hb0
  have HS := Lib.hid (show chkRs t l = (decide (l.length ≤ 256) && !(l.any fun r => decide (0 < cmpR t r.lo r.hi))) by rw [all_any]; rfl)
  clear hs hb0 hG
  by_cases h : l.length ≤ 256
  · have q1 : decide (l.length ≤ 256) = true := by simpa using h
    rw [q1, Bool.true_and] at HS
    have q2 : decide ((l.length : Int) ≤ 256) = true := by simp; omega
    go_enter Try.func53, Try.ntmps53
    go_upto_region 1 with (fail)
    rw [← hW]
    clear hW
    go_wp2_with fail
    refine HI.out.mono ?_
    rintro _ w2 ⟨rfl, hb⟩
    have HB := Lib.hid (bst HB0.out hb)
    clear hb
    go_wp2
    go_ret
    exact RetBe.mk_ HS.out HB.out
  · have q1 : decide (l.length ≤ 256) = false := by simpa using h
    rw [q1, Bool.false_and] at HS
    have q2 : decide ((l.length : Int) ≤ 256) = false := by simp; omega
    go_enter Try.func53, Try.ntmps53
    go_upto_region 1 with (fail)
    rw [← hW]
    clear hW
    go_wp2
    go_ret
    exact RetBe.mk_ HS.out HB0.out
set_option maxRecDepth 100000 in
set_option maxHeartbeats 8000000 in
theorem dcont_any (t : Int) (r : Rg) (q : Rk) (w : World) {b : Bool} (hb : contR t r q = b) :
    Calls Try.prog 33 #[.int .i64 t, .agg #[.bool r.lo.null, .int .i64 r.lo.n, .string r.lo.s, .int .i64 r.lo.seq, .bool r.hi.null, .int .i64 r.hi.n, .string r.hi.s, .int .i64 r.hi.seq], .agg #[.bool q.null, .int .i64 q.n, .string q.s, .int .i64 q.seq]] w (RetBe w b) := by
  obtain ⟨W, hW⟩ : ∃ W, W = (w.alloc (.cells #[.bool r.lo.null, .int .i64 r.lo.n, .string r.lo.s, .int .i64 r.lo.seq, .bool r.hi.null, .int .i64 r.hi.n, .string r.hi.s, .int .i64 r.hi.seq] 44)).alloc (.cells #[.bool q.null, .int .i64 q.n, .string q.s, .int .i64 q.seq] 37) := ⟨_, rfl⟩
  have HB0 := Lib.hid (show Below w.heap.size w W by rw [hW]; exact abel2 _ _ _)
  have B1 := Lib.hid (show Blk W w.heap.size 44 #[.bool r.lo.null, .int .i64 r.lo.n, .string r.lo.s, .int .i64 r.lo.seq, .bool r.hi.null, .int .i64 r.hi.n, .string r.hi.s, .int .i64 r.hi.seq] by rw [hW]; exact (Blk.new _ _ _).alloc _)
  have B2 := Lib.hid (show Blk W (w.heap.size + 1) 37 #[.bool q.null, .int .i64 q.n, .string q.s, .int .i64 q.seq] by
    have := Blk.new (w.alloc (.cells #[.bool r.lo.null, .int .i64 r.lo.n, .string r.lo.s, .int .i64 r.lo.seq, .bool r.hi.null, .int .i64 r.hi.n, .string r.hi.s, .int .i64 r.hi.seq] 44)) 37 #[.bool q.null, .int .i64 q.n, .string q.s, .int .i64 q.seq]
    rw [hW]; simpa using this)
  have C1 := Lib.hid (bcmp_any t r.lo q W)
  have C2 := Lib.hid (fun X => bcmp_any t q r.hi X)
  have HS := Lib.hid (show (decide (cmpR t r.lo q ≤ 0) && decide (cmpR t q r.hi ≤ 0)) = b from hb)
  obtain ⟨k1, h1⟩ : ∃ k, cmpR t r.lo q = k := ⟨_, rfl⟩
  obtain ⟨k2, h2⟩ : ∃ k, cmpR t q r.hi = k := ⟨_, rfl⟩
  simp only [h1, h2] at C1 C2 HS
  clear h1 h2 hb
  by_cases hk : k1 ≤ 0
  · have q1 : decide (k1 ≤ 0) = true := by simpa using hk
    rw [q1, Bool.true_and] at HS
    clear hk
    have bb := B1.out
    have c0 := bb.cell 0
    have c1 := bb.cell 1
    have c2 := bb.cell 2
    have c3 := bb.cell 3
    have c4 := bb.cell 4
    have c5 := bb.cell 5
    have c6 := bb.cell 6
    have c7 := bb.cell 7
    simp only [List.getElem?_toArray, List.getElem?_cons_zero, List.getElem?_cons_succ] at c0 c1 c2 c3 c4 c5 c6 c7
    clear bb
    have bb := B2.out
    have d0 := bb.cell 0
    have d1 := bb.cell 1
    have d2 := bb.cell 2
    have d3 := bb.cell 3
    simp only [List.getElem?_toArray, List.getElem?_cons_zero, List.getElem?_cons_succ] at d0 d1 d2 d3
    clear bb
    go_enter Try.func33, Try.ntmps33
    go_upto_region 1 with (fail)
    rw [← hW]
    clear hW
    go_wp2_with fail
    refine C1.out.mono ?_
    rintro _ w2 ⟨rfl, hb2⟩
    have H2 := Lib.hid hb2
    have B3 := Lib.hid (B1.out.below hb2 B1.out.lt)
    have B4 := Lib.hid (B2.out.below hb2 B2.out.lt)
    clear hb2
    clear c0 c1 c2 c3 c4 c5 c6 c7
    clear d0 d1 d2 d3
    have bb := B3.out
    have c0 := bb.cell 0
    have c1 := bb.cell 1
    have c2 := bb.cell 2
    have c3 := bb.cell 3
    have c4 := bb.cell 4
    have c5 := bb.cell 5
    have c6 := bb.cell 6
    have c7 := bb.cell 7
    simp only [List.getElem?_toArray, List.getElem?_cons_zero, List.getElem?_cons_succ] at c0 c1 c2 c3 c4 c5 c6 c7
    clear bb
    have bb := B4.out
    have d0 := bb.cell 0
    have d1 := bb.cell 1
    have d2 := bb.cell 2
    have d3 := bb.cell 3
    simp only [List.getElem?_toArray, List.getElem?_cons_zero, List.getElem?_cons_succ] at d0 d1 d2 d3
    clear bb
    go_wp2_with fail
    refine (C2.out _).mono ?_
    rintro _ w3 ⟨rfl, hb3⟩
    have HX := Lib.hid (bst (bst HB0.out H2.out) hb3)
    clear hb3
    go_wp2
    go_ret
    exact RetBe.mk_ HS.out.symm HX.out
  · have q1 : decide (k1 ≤ 0) = false := by simpa using hk
    rw [q1, Bool.false_and] at HS
    clear hk
    have bb := B1.out
    have c0 := bb.cell 0
    have c1 := bb.cell 1
    have c2 := bb.cell 2
    have c3 := bb.cell 3
    have c4 := bb.cell 4
    have c5 := bb.cell 5
    have c6 := bb.cell 6
    have c7 := bb.cell 7
    simp only [List.getElem?_toArray, List.getElem?_cons_zero, List.getElem?_cons_succ] at c0 c1 c2 c3 c4 c5 c6 c7
    clear bb
    have bb := B2.out
    have d0 := bb.cell 0
    have d1 := bb.cell 1
    have d2 := bb.cell 2
    have d3 := bb.cell 3
    simp only [List.getElem?_toArray, List.getElem?_cons_zero, List.getElem?_cons_succ] at d0 d1 d2 d3
    clear bb
    go_enter Try.func33, Try.ntmps33
    go_upto_region 1 with (fail)
    rw [← hW]
    clear hW
    go_wp2_with fail
    refine C1.out.mono ?_
    rintro _ w2 ⟨rfl, hb2⟩
    have HX := Lib.hid (bst HB0.out hb2)
    clear hb2
    go_wp2
    go_ret
    exact RetBe.mk_ HS.out.symm HX.out
theorem stabN_next {t : Int} {l : List Rg} {q : Rk} {k : Nat} {r : Rg} (h : l[k]? = some r) : stabN t (l.take (k + 1)) q = stabN t (l.take k) q + if contR t r q = true then 1 else 0 := by
  unfold stabN
  rw [List.take_add_one, h, Option.toList_some, List.countP_append, List.countP_singleton]
theorem stabN_le (t : Int) (l : List Rg) (q : Rk) (k : Nat) : stabN t (l.take k) q ≤ k := by
  unfold stabN
  have := List.countP_le_length (p := fun r => contR t r q) (l := l.take k)
  rw [List.length_take] at this; omega
set_option maxRecDepth 100000 in
set_option maxHeartbeats 8000000 in
theorem dstab_any (t : Int) (v : Value) (l : List Rg) (q : Rk) (w : World) (hs : Sl w 8 v l.length (rngs l)) (hl : l.length ≤ 1000000) :
    Calls Try.prog 68 #[.int .i64 t, v, .agg #[.bool q.null, .int .i64 q.n, .string q.s, .int .i64 q.seq]] w (RetN w (stabN t l q : Int)) := by
  obtain ⟨A, c, rfl, hc1, hc2⟩ := hs.form
  obtain ⟨W, hW⟩ : ∃ W, W = w.alloc (.cells #[.bool q.null, .int .i64 q.n, .string q.s, .int .i64 q.seq] 37) := ⟨_, rfl⟩
  have hb0 : Below w.heap.size w W := by rw [hW]; exact abel _ _
  have BQ := Lib.hid (show Blk W w.heap.size 37 #[.bool q.null, .int .i64 q.n, .string q.s, .int .i64 q.seq] by rw [hW]; exact Blk.new _ _ _)
  have HS := Lib.hid (hs.below hb0)
  have HB0 := Lib.hid hb0
  clear hs hb0
  go_enter Try.func68, Try.ntmps68
  go_upto_region 1 with (fail)
  rw [← hW]
  clear hW
  go_wp2
  go_loopw [7, 12] (fun n i wr => ∃ k : Nat, k ≤ l.length ∧ i = .int .i64 k ∧ n = .int .i64 (stabN t (l.take k) q : Int) ∧ Below W.heap.size W wr) (fun _ i _ => l.length - (intOf i).toNat)
  case atStart => exact ⟨0, by omega, rfl, by simp [stabN], Below.refl _ _⟩
  case round =>
    obtain ⟨k, hk, rfl, rfl, hbel⟩ := hrel
    by_cases hlt : k < l.length
    · obtain ⟨ad, r, p, rfl, he, hp, hE⟩ := (HS.out.below hbel).rg_load rfl hlt
      obtain ⟨hplt, c0, c1, c2, c3, c4, c5, c6, c7⟩ := hE
      have hN := stabN_next (t := t) (q := q) he
      have hle := stabN_le t l q k
      clear he
      obtain ⟨U, hU⟩ : ∃ U, U = wr.alloc (.cells #[.bool r.lo.null, .int .i64 r.lo.n, .string r.lo.s, .int .i64 r.lo.seq, .bool r.hi.null, .int .i64 r.hi.n, .string r.hi.s, .int .i64 r.hi.seq] 44) := ⟨_, rfl⟩
      have BU := Lib.hid (show Below W.heap.size W U by rw [hU]; exact hbel.alloc hbel.size _)
      have BR := Lib.hid (show Blk U wr.heap.size 44 #[.bool r.lo.null, .int .i64 r.lo.n, .string r.lo.s, .int .i64 r.lo.seq, .bool r.hi.null, .int .i64 r.hi.n, .string r.hi.s, .int .i64 r.hi.seq] by rw [hU]; exact Blk.new _ _ _)
      obtain ⟨N, hN2⟩ : ∃ N, stabN t (l.take k) q = N := ⟨_, rfl⟩
      obtain ⟨M, hM⟩ : ∃ M, stabN t (l.take (k + 1)) q = M := ⟨_, rfl⟩
      rw [hN2] at hle
      rw [hN2, hM] at hN
      have HM := Lib.hid hM
      simp only [hN2]
      clear hN2 hM
      have bb := BR.out
      have d0 := bb.cell 0
      have d1 := bb.cell 1
      have d2 := bb.cell 2
      have d3 := bb.cell 3
      have d4 := bb.cell 4
      have d5 := bb.cell 5
      have d6 := bb.cell 6
      have d7 := bb.cell 7
      simp only [List.getElem?_toArray, List.getElem?_cons_zero, List.getElem?_cons_succ] at d0 d1 d2 d3 d4 d5 d6 d7
      clear bb
      have bb := (BQ.out.below BU.out BQ.out.lt)
      have e0 := bb.cell 0
      have e1 := bb.cell 1
      have e2 := bb.cell 2
      have e3 := bb.cell 3
      simp only [List.getElem?_toArray, List.getElem?_cons_zero, List.getElem?_cons_succ] at e0 e1 e2 e3
      clear bb
      go_upto_region 5 with (fail)
      rw [← hU]
      clear hU
      cases hn : contR t r q with
      | true =>
        have HC := Lib.hid (dcont_any t r q U hn)
        rw [hn, if_pos rfl] at hN
        clear hn
        go_wp2_with fail
        refine HC.out.mono ?_
        rintro _ w2 ⟨rfl, hb2⟩
        have HX := Lib.hid (BU.out.trans (hb2.mono BU.out.size))
        clear hb2
        go_wp2
        go_roundw
        case rel => exact ⟨k + 1, by omega, by go_num, by rw [HM.out, hN]; go_num, HX.out⟩
        case measure => simp [intOf]; omega
      | false =>
        have HC := Lib.hid (dcont_any t r q U hn)
        rw [hn, if_neg (by simp), Nat.add_zero] at hN
        clear hn
        go_wp2_with fail
        refine HC.out.mono ?_
        rintro _ w2 ⟨rfl, hb2⟩
        have HX := Lib.hid (BU.out.trans (hb2.mono BU.out.size))
        clear hb2
        go_wp2
        go_roundw
        case rel => exact ⟨k + 1, by omega, by go_num, by rw [HM.out, hN], HX.out⟩
        case measure => simp [intOf]; omega
    · have hkl : k = l.length := by omega
      have HF := Lib.hid (show stabN t (l.take k) q = stabN t l q by rw [hkl, List.take_length])
      have HX := Lib.hid (HB0.out.trans (hbel.mono HB0.out.size))
      clear hbel hkl
      obtain ⟨N, hN2⟩ : ∃ N, stabN t (l.take k) q = N := ⟨_, rfl⟩
      rw [hN2] at HF
      simp only [hN2]
      clear hN2
      go_wp2
      go_ret
      exact RetN.mk_ (by rw [← HF.out]) HX.out
end Go.Proofs.Ytcjekbncllccbaa
