/-
  The contracts of picker.Ranges, Check, Overlap and of their twins of the reference.
-/
import Derived.Test.YtcjekbncllccbaaDep2
import Derived.Test.YtcjekbncllccbaaPickCand
import Derived.Test.YtcjekbncllccbaaPickHull
import Derived.Test.YtcjekbncllccbaaBase
namespace Go.Proofs.Ytcjekbncllccbaa
open Go.RowKit Go.Sort

theorem reg_v {P : Program} {f : FuncId} {args : Array Value} {w : World} {v : Value} (h : ∀ W, Below w.heap.size w W → Calls P f args W fun e w' => e = .returned v ∧ Below W.heap.size W w') : ∀ d os, Calls P f args (grow (redrawn w d) os) fun e w'' => e = .returned v ∧ ∃ p : Regrown, w'' = grow (redrawn w p.d) p.os :=
  fun d os => Calls.regrown_of ((h (grow (redrawn w d) os) (below_regrown w d os)).mono fun _ _ h => h)
set_option maxRecDepth 100000 in
set_option maxHeartbeats 8000000 in
theorem rcont_any (t : Int) (r : Rg) (q : Rk) (w : World) {b : Bool} (hb : contR t r q = b) :
    Calls Try.prog 18 #[.int .i64 t, .agg #[.bool r.lo.null, .int .i64 r.lo.n, .string r.lo.s, .int .i64 r.lo.seq, .bool r.hi.null, .int .i64 r.hi.n, .string r.hi.s, .int .i64 r.hi.seq], .agg #[.bool q.null, .int .i64 q.n, .string q.s, .int .i64 q.seq]] w (RetBe w b) := by
  obtain ⟨W, hW⟩ : ∃ W, W = (w.alloc (.cells #[.bool r.lo.null, .int .i64 r.lo.n, .string r.lo.s, .int .i64 r.lo.seq, .bool r.hi.null, .int .i64 r.hi.n, .string r.hi.s, .int .i64 r.hi.seq] 44)).alloc (.cells #[.bool q.null, .int .i64 q.n, .string q.s, .int .i64 q.seq] 37) := ⟨_, rfl⟩
  have HB0 := Lib.hid (show Below w.heap.size w W by rw [hW]; exact abel2 _ _ _)
  have B1 := Lib.hid (show Blk W w.heap.size 44 #[.bool r.lo.null, .int .i64 r.lo.n, .string r.lo.s, .int .i64 r.lo.seq, .bool r.hi.null, .int .i64 r.hi.n, .string r.hi.s, .int .i64 r.hi.seq] by rw [hW]; exact (Blk.new _ _ _).alloc _)
  have B2 := Lib.hid (show Blk W (w.heap.size + 1) 37 #[.bool q.null, .int .i64 q.n, .string q.s, .int .i64 q.seq] by
    have := Blk.new (w.alloc (.cells #[.bool r.lo.null, .int .i64 r.lo.n, .string r.lo.s, .int .i64 r.lo.seq, .bool r.hi.null, .int .i64 r.hi.n, .string r.hi.s, .int .i64 r.hi.seq] 44)) 37 #[.bool q.null, .int .i64 q.n, .string q.s, .int .i64 q.seq]
    rw [hW]; simpa using this)
  have C1 := Lib.hid (rcmpRank_any t r.lo q W)
  have C2 := Lib.hid (fun X => rcmpRank_any t q r.hi X)
  have HS := Lib.hid (show (decide (cmpR t r.lo q ≤ 0) && decide (cmpR t q r.hi ≤ 0)) = b from hb)
  obtain ⟨k1, h1⟩ : ∃ k, cmpR t r.lo q = k := ⟨_, rfl⟩
  obtain ⟨k2, h2⟩ : ∃ k, cmpR t q r.hi = k := ⟨_, rfl⟩
  simp only [h1, h2] at C1 C2 HS
  clear h1 h2 hb
  by_cases hk : k1 ≤ 0
  · have q1 : decide (k1 ≤ 0) = true := by simpa using hk
    rw [q1, Bool.true_and] at HS
    clear hk
    have bb := B1.out
    have c0 := bb.cell 0
    have c1 := bb.cell 1
    have c2 := bb.cell 2
    have c3 := bb.cell 3
    have c4 := bb.cell 4
    have c5 := bb.cell 5
    have c6 := bb.cell 6
    have c7 := bb.cell 7
    simp only [List.getElem?_toArray, List.getElem?_cons_zero, List.getElem?_cons_succ] at c0 c1 c2 c3 c4 c5 c6 c7
    clear bb
    have bb := B2.out
    have d0 := bb.cell 0
    have d1 := bb.cell 1
    have d2 := bb.cell 2
    have d3 := bb.cell 3
    simp only [List.getElem?_toArray, List.getElem?_cons_zero, List.getElem?_cons_succ] at d0 d1 d2 d3
    clear bb
    go_enter Try.func18, Try.ntmps18
    go_upto_region 1 with (fail)
    rw [← hW]
    clear hW
    go_wp2_with fail
    refine C1.out.mono ?_
    rintro _ w2 ⟨rfl, hb2⟩
    have H2 := Lib.hid hb2
    have B3 := Lib.hid (B1.out.below hb2 B1.out.lt)
    have B4 := Lib.hid (B2.out.below hb2 B2.out.lt)
    clear hb2
    clear c0 c1 c2 c3 c4 c5 c6 c7
    clear d0 d1 d2 d3
    have bb := B3.out
    have c0 := bb.cell 0
    have c1 := bb.cell 1
    have c2 := bb.cell 2
    have c3 := bb.cell 3
    have c4 := bb.cell 4
    have c5 := bb.cell 5
    have c6 := bb.cell 6
    have c7 := bb.cell 7
    simp only [List.getElem?_toArray, List.getElem?_cons_zero, List.getElem?_cons_succ] at c0 c1 c2 c3 c4 c5 c6 c7
    clear bb
    have bb := B4.out
    have d0 := bb.cell 0
    have d1 := bb.cell 1
    have d2 := bb.cell 2
    have d3 := bb.cell 3
    simp only [List.getElem?_toArray, List.getElem?_cons_zero, List.getElem?_cons_succ] at d0 d1 d2 d3
    clear bb
    go_wp2_with fail
    refine (C2.out _).mono ?_
    rintro _ w3 ⟨rfl, hb3⟩
    have HX := Lib.hid (bst (bst HB0.out H2.out) hb3)
    clear hb3
    go_wp2
    go_ret
    exact RetBe.mk_ HS.out.symm HX.out
  · have q1 : decide (k1 ≤ 0) = false := by simpa using hk
    rw [q1, Bool.false_and] at HS
    clear hk
    have bb := B1.out
    have c0 := bb.cell 0
    have c1 := bb.cell 1
    have c2 := bb.cell 2
    have c3 := bb.cell 3
    have c4 := bb.cell 4
    have c5 := bb.cell 5
    have c6 := bb.cell 6
    have c7 := bb.cell 7
    simp only [List.getElem?_toArray, List.getElem?_cons_zero, List.getElem?_cons_succ] at c0 c1 c2 c3 c4 c5 c6 c7
    clear bb
    have bb := B2.out
    have d0 := bb.cell 0
    have d1 := bb.cell 1
    have d2 := bb.cell 2
    have d3 := bb.cell 3
    simp only [List.getElem?_toArray, List.getElem?_cons_zero, List.getElem?_cons_succ] at d0 d1 d2 d3
    clear bb
    go_enter Try.func18, Try.ntmps18
    go_upto_region 1 with (fail)
    rw [← hW]
    clear hW
    go_wp2_with fail
    refine C1.out.mono ?_
    rintro _ w2 ⟨rfl, hb2⟩
    have HX := Lib.hid (bst HB0.out hb2)
    clear hb2
    go_wp2
    go_ret
    exact RetBe.mk_ HS.out.symm HX.out
set_option maxRecDepth 100000 in
set_option maxHeartbeats 8000000 in
theorem rmeet_any (t : Int) (a c : Rg) (w : World) {b : Bool} (hb : (decide (cmpR t a.lo c.hi ≤ 0) && decide (cmpR t c.lo a.hi ≤ 0)) = b) :
    Calls Try.prog 47 #[.int .i64 t, .agg #[.bool a.lo.null, .int .i64 a.lo.n, .string a.lo.s, .int .i64 a.lo.seq, .bool a.hi.null, .int .i64 a.hi.n, .string a.hi.s, .int .i64 a.hi.seq], .agg #[.bool c.lo.null, .int .i64 c.lo.n, .string c.lo.s, .int .i64 c.lo.seq, .bool c.hi.null, .int .i64 c.hi.n, .string c.hi.s, .int .i64 c.hi.seq]] w (RetBe w b) := by
  obtain ⟨W, hW⟩ : ∃ W, W = (w.alloc (.cells #[.bool a.lo.null, .int .i64 a.lo.n, .string a.lo.s, .int .i64 a.lo.seq, .bool a.hi.null, .int .i64 a.hi.n, .string a.hi.s, .int .i64 a.hi.seq] 44)).alloc (.cells #[.bool c.lo.null, .int .i64 c.lo.n, .string c.lo.s, .int .i64 c.lo.seq, .bool c.hi.null, .int .i64 c.hi.n, .string c.hi.s, .int .i64 c.hi.seq] 44) := ⟨_, rfl⟩
  have HB0 := Lib.hid (show Below w.heap.size w W by rw [hW]; exact abel2 _ _ _)
  have B1 := Lib.hid (show Blk W w.heap.size 44 #[.bool a.lo.null, .int .i64 a.lo.n, .string a.lo.s, .int .i64 a.lo.seq, .bool a.hi.null, .int .i64 a.hi.n, .string a.hi.s, .int .i64 a.hi.seq] by rw [hW]; exact (Blk.new _ _ _).alloc _)
  have B2 := Lib.hid (show Blk W (w.heap.size + 1) 44 #[.bool c.lo.null, .int .i64 c.lo.n, .string c.lo.s, .int .i64 c.lo.seq, .bool c.hi.null, .int .i64 c.hi.n, .string c.hi.s, .int .i64 c.hi.seq] by
    have := Blk.new (w.alloc (.cells #[.bool a.lo.null, .int .i64 a.lo.n, .string a.lo.s, .int .i64 a.lo.seq, .bool a.hi.null, .int .i64 a.hi.n, .string a.hi.s, .int .i64 a.hi.seq] 44)) 44 #[.bool c.lo.null, .int .i64 c.lo.n, .string c.lo.s, .int .i64 c.lo.seq, .bool c.hi.null, .int .i64 c.hi.n, .string c.hi.s, .int .i64 c.hi.seq]
    rw [hW]; simpa using this)
  have C1 := Lib.hid (rcmpRank_any t a.lo c.hi W)
  have C2 := Lib.hid (fun X => rcmpRank_any t c.lo a.hi X)
  have HS := Lib.hid (show (decide (cmpR t a.lo c.hi ≤ 0) && decide (cmpR t c.lo a.hi ≤ 0)) = b from hb)
  obtain ⟨k1, h1⟩ : ∃ k, cmpR t a.lo c.hi = k := ⟨_, rfl⟩
  obtain ⟨k2, h2⟩ : ∃ k, cmpR t c.lo a.hi = k := ⟨_, rfl⟩
  simp only [h1, h2] at C1 C2 HS
  clear h1 h2 hb
  by_cases hk : k1 ≤ 0
  · have q1 : decide (k1 ≤ 0) = true := by simpa using hk
    rw [q1, Bool.true_and] at HS
    clear hk
    have bb := B1.out
    have c0 := bb.cell 0
    have c1 := bb.cell 1
    have c2 := bb.cell 2
    have c3 := bb.cell 3
    have c4 := bb.cell 4
    have c5 := bb.cell 5
    have c6 := bb.cell 6
    have c7 := bb.cell 7
    simp only [List.getElem?_toArray, List.getElem?_cons_zero, List.getElem?_cons_succ] at c0 c1 c2 c3 c4 c5 c6 c7
    clear bb
    have bb := B2.out
    have d0 := bb.cell 0
    have d1 := bb.cell 1
    have d2 := bb.cell 2
    have d3 := bb.cell 3
    have d4 := bb.cell 4
    have d5 := bb.cell 5
    have d6 := bb.cell 6
    have d7 := bb.cell 7
    simp only [List.getElem?_toArray, List.getElem?_cons_zero, List.getElem?_cons_succ] at d0 d1 d2 d3 d4 d5 d6 d7
    clear bb
    go_enter Try.func47, Try.ntmps47
    go_upto_region 1 with (fail)
    rw [← hW]
    clear hW
    go_wp2_with fail
    refine C1.out.mono ?_
    rintro _ w2 ⟨rfl, hb2⟩
    have H2 := Lib.hid hb2
    have B3 := Lib.hid (B1.out.below hb2 B1.out.lt)
    have B4 := Lib.hid (B2.out.below hb2 B2.out.lt)
    clear hb2
    clear c0 c1 c2 c3 c4 c5 c6 c7
    clear d0 d1 d2 d3 d4 d5 d6 d7
    have bb := B3.out
    have c0 := bb.cell 0
    have c1 := bb.cell 1
    have c2 := bb.cell 2
    have c3 := bb.cell 3
    have c4 := bb.cell 4
    have c5 := bb.cell 5
    have c6 := bb.cell 6
    have c7 := bb.cell 7
    simp only [List.getElem?_toArray, List.getElem?_cons_zero, List.getElem?_cons_succ] at c0 c1 c2 c3 c4 c5 c6 c7
    clear bb
    have bb := B4.out
    have d0 := bb.cell 0
    have d1 := bb.cell 1
    have d2 := bb.cell 2
    have d3 := bb.cell 3
    have d4 := bb.cell 4
    have d5 := bb.cell 5
    have d6 := bb.cell 6
    have d7 := bb.cell 7
    simp only [List.getElem?_toArray, List.getElem?_cons_zero, List.getElem?_cons_succ] at d0 d1 d2 d3 d4 d5 d6 d7
    clear bb
    go_wp2_with fail
    refine (C2.out _).mono ?_
    rintro _ w3 ⟨rfl, hb3⟩
    have HX := Lib.hid (bst (bst HB0.out H2.out) hb3)
    clear hb3
    go_wp2
    go_ret
    exact RetBe.mk_ HS.out.symm HX.out
  · have q1 : decide (k1 ≤ 0) = false := by simpa using hk
    rw [q1, Bool.false_and] at HS
    clear hk
    have bb := B1.out
    have c0 := bb.cell 0
    have c1 := bb.cell 1
    have c2 := bb.cell 2
    have c3 := bb.cell 3
    have c4 := bb.cell 4
    have c5 := bb.cell 5
    have c6 := bb.cell 6
    have c7 := bb.cell 7
    simp only [List.getElem?_toArray, List.getElem?_cons_zero, List.getElem?_cons_succ] at c0 c1 c2 c3 c4 c5 c6 c7
    clear bb
    have bb := B2.out
    have d0 := bb.cell 0
    have d1 := bb.cell 1
    have d2 := bb.cell 2
    have d3 := bb.cell 3
    have d4 := bb.cell 4
    have d5 := bb.cell 5
    have d6 := bb.cell 6
    have d7 := bb.cell 7
    simp only [List.getElem?_toArray, List.getElem?_cons_zero, List.getElem?_cons_succ] at d0 d1 d2 d3 d4 d5 d6 d7
    clear bb
    go_enter Try.func47, Try.ntmps47
    go_upto_region 1 with (fail)
    rw [← hW]
    clear hW
    go_wp2_with fail
    refine C1.out.mono ?_
    rintro _ w2 ⟨rfl, hb2⟩
    have HX := Lib.hid (bst HB0.out hb2)
    clear hb2
    go_wp2
    go_ret
    exact RetBe.mk_ HS.out.symm HX.out
set_option maxRecDepth 100000 in
set_option maxHeartbeats 8000000 in
theorem pover_any (t : Int) (a c : Ent) (w : World) {b : Bool} (hb : meetE t a c = b) :
    Calls Try.prog 43 #[.int .i64 t, .agg #[.int .i64 a.id, .int .i64 a.rows, .int .i64 a.live, .bool a.lo.null, .int .i64 a.lo.n, .string a.lo.s, .int .i64 a.lo.seq, .bool a.hi.null, .int .i64 a.hi.n, .string a.hi.s, .int .i64 a.hi.seq, .int .i64 a.del], .agg #[.int .i64 c.id, .int .i64 c.rows, .int .i64 c.live, .bool c.lo.null, .int .i64 c.lo.n, .string c.lo.s, .int .i64 c.lo.seq, .bool c.hi.null, .int .i64 c.hi.n, .string c.hi.s, .int .i64 c.hi.seq, .int .i64 c.del]] w (RetBe w b) := by
  obtain ⟨W, hW⟩ : ∃ W, W = (w.alloc (.cells #[.int .i64 a.id, .int .i64 a.rows, .int .i64 a.live, .bool a.lo.null, .int .i64 a.lo.n, .string a.lo.s, .int .i64 a.lo.seq, .bool a.hi.null, .int .i64 a.hi.n, .string a.hi.s, .int .i64 a.hi.seq, .int .i64 a.del] 41)).alloc (.cells #[.int .i64 c.id, .int .i64 c.rows, .int .i64 c.live, .bool c.lo.null, .int .i64 c.lo.n, .string c.lo.s, .int .i64 c.lo.seq, .bool c.hi.null, .int .i64 c.hi.n, .string c.hi.s, .int .i64 c.hi.seq, .int .i64 c.del] 41) := ⟨_, rfl⟩
  have HB0 := Lib.hid (show Below w.heap.size w W by rw [hW]; exact abel2 _ _ _)
  have B1 := Lib.hid (show Blk W w.heap.size 41 #[.int .i64 a.id, .int .i64 a.rows, .int .i64 a.live, .bool a.lo.null, .int .i64 a.lo.n, .string a.lo.s, .int .i64 a.lo.seq, .bool a.hi.null, .int .i64 a.hi.n, .string a.hi.s, .int .i64 a.hi.seq, .int .i64 a.del] by rw [hW]; exact (Blk.new _ _ _).alloc _)
  have B2 := Lib.hid (show Blk W (w.heap.size + 1) 41 #[.int .i64 c.id, .int .i64 c.rows, .int .i64 c.live, .bool c.lo.null, .int .i64 c.lo.n, .string c.lo.s, .int .i64 c.lo.seq, .bool c.hi.null, .int .i64 c.hi.n, .string c.hi.s, .int .i64 c.hi.seq, .int .i64 c.del] by
    have := Blk.new (w.alloc (.cells #[.int .i64 a.id, .int .i64 a.rows, .int .i64 a.live, .bool a.lo.null, .int .i64 a.lo.n, .string a.lo.s, .int .i64 a.lo.seq, .bool a.hi.null, .int .i64 a.hi.n, .string a.hi.s, .int .i64 a.hi.seq, .int .i64 a.del] 41)) 41 #[.int .i64 c.id, .int .i64 c.rows, .int .i64 c.live, .bool c.lo.null, .int .i64 c.lo.n, .string c.lo.s, .int .i64 c.lo.seq, .bool c.hi.null, .int .i64 c.hi.n, .string c.hi.s, .int .i64 c.hi.seq, .int .i64 c.del]
    rw [hW]; simpa using this)
  have C1 := Lib.hid (bcmp_any t a.lo c.hi W)
  have C2 := Lib.hid (fun X => bcmp_any t c.lo a.hi X)
  have HS := Lib.hid (show (decide (cmpR t a.lo c.hi ≤ 0) && decide (cmpR t c.lo a.hi ≤ 0)) = b from hb)
  obtain ⟨k1, h1⟩ : ∃ k, cmpR t a.lo c.hi = k := ⟨_, rfl⟩
  obtain ⟨k2, h2⟩ : ∃ k, cmpR t c.lo a.hi = k := ⟨_, rfl⟩
  simp only [h1, h2] at C1 C2 HS
  clear h1 h2 hb
  by_cases hk : k1 ≤ 0
  · have q1 : decide (k1 ≤ 0) = true := by simpa using hk
    rw [q1, Bool.true_and] at HS
    clear hk
    have bb := B1.out
    have c0 := bb.cell 0
    have c1 := bb.cell 1
    have c2 := bb.cell 2
    have c3 := bb.cell 3
    have c4 := bb.cell 4
    have c5 := bb.cell 5
    have c6 := bb.cell 6
    have c7 := bb.cell 7
    have c8 := bb.cell 8
    have c9 := bb.cell 9
    have c10 := bb.cell 10
    have c11 := bb.cell 11
    simp only [List.getElem?_toArray, List.getElem?_cons_zero, List.getElem?_cons_succ] at c0 c1 c2 c3 c4 c5 c6 c7 c8 c9 c10 c11
    clear bb
    have bb := B2.out
    have d0 := bb.cell 0
    have d1 := bb.cell 1
    have d2 := bb.cell 2
    have d3 := bb.cell 3
    have d4 := bb.cell 4
    have d5 := bb.cell 5
    have d6 := bb.cell 6
    have d7 := bb.cell 7
    have d8 := bb.cell 8
    have d9 := bb.cell 9
    have d10 := bb.cell 10
    have d11 := bb.cell 11
    simp only [List.getElem?_toArray, List.getElem?_cons_zero, List.getElem?_cons_succ] at d0 d1 d2 d3 d4 d5 d6 d7 d8 d9 d10 d11
    clear bb
    go_enter Try.func43, Try.ntmps43
    go_upto_region 1 with (fail)
    rw [← hW]
    clear hW
    go_wp2_with fail
    refine C1.out.mono ?_
    rintro _ w2 ⟨rfl, hb2⟩
    have H2 := Lib.hid hb2
    have B3 := Lib.hid (B1.out.below hb2 B1.out.lt)
    have B4 := Lib.hid (B2.out.below hb2 B2.out.lt)
    clear hb2
    clear c0 c1 c2 c3 c4 c5 c6 c7 c8 c9 c10 c11
    clear d0 d1 d2 d3 d4 d5 d6 d7 d8 d9 d10 d11
    have bb := B3.out
    have c0 := bb.cell 0
    have c1 := bb.cell 1
    have c2 := bb.cell 2
    have c3 := bb.cell 3
    have c4 := bb.cell 4
    have c5 := bb.cell 5
    have c6 := bb.cell 6
    have c7 := bb.cell 7
    have c8 := bb.cell 8
    have c9 := bb.cell 9
    have c10 := bb.cell 10
    have c11 := bb.cell 11
    simp only [List.getElem?_toArray, List.getElem?_cons_zero, List.getElem?_cons_succ] at c0 c1 c2 c3 c4 c5 c6 c7 c8 c9 c10 c11
    clear bb
    have bb := B4.out
    have d0 := bb.cell 0
    have d1 := bb.cell 1
    have d2 := bb.cell 2
    have d3 := bb.cell 3
    have d4 := bb.cell 4
    have d5 := bb.cell 5
    have d6 := bb.cell 6
    have d7 := bb.cell 7
    have d8 := bb.cell 8
    have d9 := bb.cell 9
    have d10 := bb.cell 10
    have d11 := bb.cell 11
    simp only [List.getElem?_toArray, List.getElem?_cons_zero, List.getElem?_cons_succ] at d0 d1 d2 d3 d4 d5 d6 d7 d8 d9 d10 d11
    clear bb
    go_wp2_with fail
    refine (C2.out _).mono ?_
    rintro _ w3 ⟨rfl, hb3⟩
    have HX := Lib.hid (bst (bst HB0.out H2.out) hb3)
    clear hb3
    go_wp2
    go_ret
    exact RetBe.mk_ HS.out.symm HX.out
  · have q1 : decide (k1 ≤ 0) = false := by simpa using hk
    rw [q1, Bool.false_and] at HS
    clear hk
    have bb := B1.out
    have c0 := bb.cell 0
    have c1 := bb.cell 1
    have c2 := bb.cell 2
    have c3 := bb.cell 3
    have c4 := bb.cell 4
    have c5 := bb.cell 5
    have c6 := bb.cell 6
    have c7 := bb.cell 7
    have c8 := bb.cell 8
    have c9 := bb.cell 9
    have c10 := bb.cell 10
    have c11 := bb.cell 11
    simp only [List.getElem?_toArray, List.getElem?_cons_zero, List.getElem?_cons_succ] at c0 c1 c2 c3 c4 c5 c6 c7 c8 c9 c10 c11
    clear bb
    have bb := B2.out
    have d0 := bb.cell 0
    have d1 := bb.cell 1
    have d2 := bb.cell 2
    have d3 := bb.cell 3
    have d4 := bb.cell 4
    have d5 := bb.cell 5
    have d6 := bb.cell 6
    have d7 := bb.cell 7
    have d8 := bb.cell 8
    have d9 := bb.cell 9
    have d10 := bb.cell 10
    have d11 := bb.cell 11
    simp only [List.getElem?_toArray, List.getElem?_cons_zero, List.getElem?_cons_succ] at d0 d1 d2 d3 d4 d5 d6 d7 d8 d9 d10 d11
    clear bb
    go_enter Try.func43, Try.ntmps43
    go_upto_region 1 with (fail)
    rw [← hW]
    clear hW
    go_wp2_with fail
    refine C1.out.mono ?_
    rintro _ w2 ⟨rfl, hb2⟩
    have HX := Lib.hid (bst HB0.out hb2)
    clear hb2
    go_wp2
    go_ret
    exact RetBe.mk_ HS.out.symm HX.out
set_option maxRecDepth 100000 in
set_option maxHeartbeats 8000000 in
theorem rangeOf_any (e : Ent) (w : World) :
    Calls Try.prog 19 #[.agg #[.int .i64 e.id, .int .i64 e.rows, .int .i64 e.live, .bool e.lo.null, .int .i64 e.lo.n, .string e.lo.s, .int .i64 e.lo.seq, .bool e.hi.null, .int .i64 e.hi.n, .string e.hi.s, .int .i64 e.hi.seq, .int .i64 e.del]] w (fun d w' => d = .returned (.agg #[.bool (rgOf e).lo.null, .int .i64 (rgOf e).lo.n, .string (rgOf e).lo.s, .int .i64 (rgOf e).lo.seq, .bool (rgOf e).hi.null, .int .i64 (rgOf e).hi.n, .string (rgOf e).hi.s, .int .i64 (rgOf e).hi.seq]) ∧ Below w.heap.size w w') := by
  obtain ⟨W, hW⟩ : ∃ W, W = (w.alloc (.cells #[.int .i64 e.id, .int .i64 e.rows, .int .i64 e.live, .bool e.lo.null, .int .i64 e.lo.n, .string e.lo.s, .int .i64 e.lo.seq, .bool e.hi.null, .int .i64 e.hi.n, .string e.hi.s, .int .i64 e.hi.seq, .int .i64 e.del] 41)).alloc (.cells #[.bool false, .int .i64 0, .string { data := #[] }, .int .i64 0, .bool false, .int .i64 0, .string { data := #[] }, .int .i64 0] 44) := ⟨_, rfl⟩
  have HB0 := Lib.hid (show Below w.heap.size w W by rw [hW]; exact abel2 _ _ _)
  have B1 := Lib.hid (show Blk W w.heap.size 41 #[.int .i64 e.id, .int .i64 e.rows, .int .i64 e.live, .bool e.lo.null, .int .i64 e.lo.n, .string e.lo.s, .int .i64 e.lo.seq, .bool e.hi.null, .int .i64 e.hi.n, .string e.hi.s, .int .i64 e.hi.seq, .int .i64 e.del] by rw [hW]; exact (Blk.new _ _ _).alloc _)
  have B2 := Lib.hid (show Blk W (w.heap.size + 1) 44 #[.bool false, .int .i64 0, .string { data := #[] }, .int .i64 0, .bool false, .int .i64 0, .string { data := #[] }, .int .i64 0] by
    have := Blk.new (w.alloc (.cells #[.int .i64 e.id, .int .i64 e.rows, .int .i64 e.live, .bool e.lo.null, .int .i64 e.lo.n, .string e.lo.s, .int .i64 e.lo.seq, .bool e.hi.null, .int .i64 e.hi.n, .string e.hi.s, .int .i64 e.hi.seq, .int .i64 e.del] 41)) 44 #[.bool false, .int .i64 0, .string { data := #[] }, .int .i64 0, .bool false, .int .i64 0, .string { data := #[] }, .int .i64 0]
    rw [hW]; simpa using this)
  go_enter Try.func19, Try.ntmps19
  go_upto_region 1 with (fail)
  rw [← hW]
  clear hW
  have bb := B1.out
  have c0 := bb.cell 0
  have c1 := bb.cell 1
  have c2 := bb.cell 2
  have c3 := bb.cell 3
  have c4 := bb.cell 4
  have c5 := bb.cell 5
  have c6 := bb.cell 6
  have c7 := bb.cell 7
  have c8 := bb.cell 8
  have c9 := bb.cell 9
  have c10 := bb.cell 10
  have c11 := bb.cell 11
  simp only [List.getElem?_toArray, List.getElem?_cons_zero, List.getElem?_cons_succ] at c0 c1 c2 c3 c4 c5 c6 c7 c8 c9 c10 c11
  clear bb
  have bb := B2.out
  have d0 := bb.cell 0
  have d1 := bb.cell 1
  have d2 := bb.cell 2
  have d3 := bb.cell 3
  have d4 := bb.cell 4
  have d5 := bb.cell 5
  have d6 := bb.cell 6
  have d7 := bb.cell 7
  simp only [List.getElem?_toArray, List.getElem?_cons_zero, List.getElem?_cons_succ] at d0 d1 d2 d3 d4 d5 d6 d7
  clear bb
  have f0 := (B2.out).frozen 0
  have f1 := (B2.out).frozen 1
  have f2 := (B2.out).frozen 2
  have f3 := (B2.out).frozen 3
  have f4 := (B2.out).frozen 4
  have f5 := (B2.out).frozen 5
  have f6 := (B2.out).frozen 6
  have f7 := (B2.out).frozen 7
  have hlt := B2.out.lt
  go_wp2
  have kg := grown8 W (w.heap.size + 1) (.bool e.lo.null) (.int .i64 e.lo.n) (.string e.lo.s) (.int .i64 e.lo.seq) (.bool e.hi.null) (.int .i64 e.hi.n) (.string e.hi.s) (.int .i64 e.hi.seq)
  have kb := blk8 (.bool e.lo.null) (.int .i64 e.lo.n) (.string e.lo.s) (.int .i64 e.lo.seq) (.bool e.hi.null) (.int .i64 e.hi.n) (.string e.hi.s) (.int .i64 e.hi.seq) B2.out
  have kw := below_row HB0.out kg (by omega) HB0.out.size
  obtain ⟨V, hV⟩ : ∃ V, V = (((((((W.setCell ⟨w.heap.size + 1, 0, none⟩ (.bool e.lo.null)).setCell ⟨w.heap.size + 1, 1, none⟩ (.int .i64 e.lo.n)).setCell ⟨w.heap.size + 1, 2, none⟩ (.string e.lo.s)).setCell ⟨w.heap.size + 1, 3, none⟩ (.int .i64 e.lo.seq)).setCell ⟨w.heap.size + 1, 4, none⟩ (.bool e.hi.null)).setCell ⟨w.heap.size + 1, 5, none⟩ (.int .i64 e.hi.n)).setCell ⟨w.heap.size + 1, 6, none⟩ (.string e.hi.s)).setCell ⟨w.heap.size + 1, 7, none⟩ (.int .i64 e.hi.seq) := ⟨_, rfl⟩
  rw [← hV] at kb kw ⊢
  clear d0 d1 d2 d3 d4 d5 d6 d7
  have bb := kb
  have d0 := bb.cell 0
  have d1 := bb.cell 1
  have d2 := bb.cell 2
  have d3 := bb.cell 3
  have d4 := bb.cell 4
  have d5 := bb.cell 5
  have d6 := bb.cell 6
  have d7 := bb.cell 7
  simp only [List.getElem?_toArray, List.getElem?_cons_zero, List.getElem?_cons_succ] at d0 d1 d2 d3 d4 d5 d6 d7
  clear bb
  exact bodyPost_ret (v := .agg #[.bool e.lo.null, .int .i64 e.lo.n, .string e.lo.s, .int .i64 e.lo.seq, .bool e.hi.null, .int .i64 e.hi.n, .string e.hi.s, .int .i64 e.hi.seq]) (by simp [results, Try.results19, go_sem, d0, d1, d2, d3, d4, d5, d6, d7]) rfl ⟨rfl, kw⟩
set_option maxRecDepth 100000 in
set_option maxHeartbeats 8000000 in
theorem rover_any (t : Int) (a c : Ent) (w : World) {b : Bool} (hb : meetE t a c = b) :
    Calls Try.prog 21 #[.int .i64 t, .agg #[.int .i64 a.id, .int .i64 a.rows, .int .i64 a.live, .bool a.lo.null, .int .i64 a.lo.n, .string a.lo.s, .int .i64 a.lo.seq, .bool a.hi.null, .int .i64 a.hi.n, .string a.hi.s, .int .i64 a.hi.seq, .int .i64 a.del], .agg #[.int .i64 c.id, .int .i64 c.rows, .int .i64 c.live, .bool c.lo.null, .int .i64 c.lo.n, .string c.lo.s, .int .i64 c.lo.seq, .bool c.hi.null, .int .i64 c.hi.n, .string c.hi.s, .int .i64 c.hi.seq, .int .i64 c.del]] w (RetBe w b) := by
  obtain ⟨W, hW⟩ : ∃ W, W = (w.alloc (.cells #[.int .i64 a.id, .int .i64 a.rows, .int .i64 a.live, .bool a.lo.null, .int .i64 a.lo.n, .string a.lo.s, .int .i64 a.lo.seq, .bool a.hi.null, .int .i64 a.hi.n, .string a.hi.s, .int .i64 a.hi.seq, .int .i64 a.del] 41)).alloc (.cells #[.int .i64 c.id, .int .i64 c.rows, .int .i64 c.live, .bool c.lo.null, .int .i64 c.lo.n, .string c.lo.s, .int .i64 c.lo.seq, .bool c.hi.null, .int .i64 c.hi.n, .string c.hi.s, .int .i64 c.hi.seq, .int .i64 c.del] 41) := ⟨_, rfl⟩
  have HB0 := Lib.hid (show Below w.heap.size w W by rw [hW]; exact abel2 _ _ _)
  have B1 : Blk W w.heap.size 41 #[.int .i64 a.id, .int .i64 a.rows, .int .i64 a.live, .bool a.lo.null, .int .i64 a.lo.n, .string a.lo.s, .int .i64 a.lo.seq, .bool a.hi.null, .int .i64 a.hi.n, .string a.hi.s, .int .i64 a.hi.seq, .int .i64 a.del] := by rw [hW]; exact (Blk.new _ _ _).alloc _
  have B2 : Blk W (w.heap.size + 1) 41 #[.int .i64 c.id, .int .i64 c.rows, .int .i64 c.live, .bool c.lo.null, .int .i64 c.lo.n, .string c.lo.s, .int .i64 c.lo.seq, .bool c.hi.null, .int .i64 c.hi.n, .string c.hi.s, .int .i64 c.hi.seq, .int .i64 c.del] := by
    have := Blk.new (w.alloc (.cells #[.int .i64 a.id, .int .i64 a.rows, .int .i64 a.live, .bool a.lo.null, .int .i64 a.lo.n, .string a.lo.s, .int .i64 a.lo.seq, .bool a.hi.null, .int .i64 a.hi.n, .string a.hi.s, .int .i64 a.hi.seq, .int .i64 a.del] 41)) 41 #[.int .i64 c.id, .int .i64 c.rows, .int .i64 c.live, .bool c.lo.null, .int .i64 c.lo.n, .string c.lo.s, .int .i64 c.lo.seq, .bool c.hi.null, .int .i64 c.hi.n, .string c.hi.s, .int .i64 c.hi.seq, .int .i64 c.del]
    rw [hW]; simpa using this
  have E1 := EntAt.of_blk (e := a) B1
  have E2 := EntAt.of_blk (e := c) B2
  have f0 := fun d os => (E1.regrown d os).c0
  have g0 := fun d os => (E2.regrown d os).c0
  have f1 := fun d os => (E1.regrown d os).c1
  have g1 := fun d os => (E2.regrown d os).c1
  have f2 := fun d os => (E1.regrown d os).c2
  have g2 := fun d os => (E2.regrown d os).c2
  have f3 := fun d os => (E1.regrown d os).c3
  have g3 := fun d os => (E2.regrown d os).c3
  have f4 := fun d os => (E1.regrown d os).c4
  have g4 := fun d os => (E2.regrown d os).c4
  have f5 := fun d os => (E1.regrown d os).c5
  have g5 := fun d os => (E2.regrown d os).c5
  have f6 := fun d os => (E1.regrown d os).c6
  have g6 := fun d os => (E2.regrown d os).c6
  have f7 := fun d os => (E1.regrown d os).c7
  have g7 := fun d os => (E2.regrown d os).c7
  have f8 := fun d os => (E1.regrown d os).c8
  have g8 := fun d os => (E2.regrown d os).c8
  have f9 := fun d os => (E1.regrown d os).c9
  have g9 := fun d os => (E2.regrown d os).c9
  have f10 := fun d os => (E1.regrown d os).c10
  have g10 := fun d os => (E2.regrown d os).c10
  have f11 := fun d os => (E1.regrown d os).c11
  have g11 := fun d os => (E2.regrown d os).c11
  clear E1 E2 B1 B2
  have A1 := Lib.hid (reg_v (w := W) (fun X _ => rangeOf_any a X))
  have A2 := Lib.hid (reg_v (w := W) (fun X _ => rangeOf_any c X))
  have A3 := Lib.hid (reg_v (w := W) (fun X _ => rmeet_any t (rgOf a) (rgOf c) X (b := b) hb))
  go_enter Try.func21, Try.ntmps21
  go_upto_region 1 with (fail)
  rw [← hW]
  clear hW
  refine wp_region_quiet_below (by kernel_rfl) (by kernel_rfl) ?_
  repeat (go_big_quiet_step ((first | (with_reducible exact A1.out _ _) | (with_reducible exact A2.out _ _) | (with_reducible exact A3.out _ _))))
  refine wpQuiet_nil ?_
  intro _ hw'
  obtain ⟨⟨dq, osq⟩, hw''⟩ := hw'
  subst hw''
  go_wp2
  go_ret
  exact RetBe.mk_ rfl (bst HB0.out (below_regrown W dq osq))
theorem own_rngs' {w : World} {base : Nat} {t : TypeId} {v : Value} {l : List Rg} {e : Ent} {R : Nat} (hR : l.length = R) (h : w.ownsRow base t 8 v (R + 1) (rngs l ++ (#[.bool e.lo.null, .int .i64 e.lo.n, .string e.lo.s, .int .i64 e.lo.seq, .bool e.hi.null, .int .i64 e.hi.n, .string e.hi.s, .int .i64 e.hi.seq] : Array Value).toList)) : w.ownsRow base t 8 v (l ++ [rgOf e]).length (rngs (l ++ [rgOf e])) := by
  subst hR; exact own_rngs (r := rgOf e) rfl h
set_option maxRecDepth 100000 in
set_option maxHeartbeats 8000000 in
theorem pranges_any (v : Value) (l : List Ent) (w : World) (hs : Sl w 12 v l.length (ents l)) (hl : l.length ≤ 1000000) :
    Calls Try.prog 31 #[v] w (RetRow w 44 8 (l.map rgOf).length (rngs (l.map rgOf))) := by
  obtain ⟨A, c, rfl, hc1, hc2⟩ := hs.form
  have HS := Lib.hid hs
  clear hs
  go_enter Try.func31, Try.ntmps31
  go_wp2
  go_loopw [3, 8] (fun v i wr => ∃ (k : Nat) (rs : List Rg), k ≤ l.length ∧ i = .int .i64 k ∧ rs.length = k ∧ Hid (rs = (l.take k).map rgOf) ∧ wr.ownsRow w.heap.size 44 8 v rs.length (rngs rs) ∧ Below w.heap.size w wr) (fun _ i _ => l.length - (intOf i).toNat)
  case atStart => exact ⟨0, [], by omega, rfl, rfl, Lib.hid rfl, World.ownsRow_nil _ _ _ _, Below.refl _ _⟩
  case round =>
    obtain ⟨k, rs, hk, rfl, hrl, hrs, hown, hbel⟩ := hrel
    by_cases hlt : k < l.length
    · obtain ⟨ad, e, p, rfl, he, hp, hE⟩ := (HS.out.below hbel).ent_load rfl hlt
      obtain ⟨hplt, c0, c1, c2, c3, c4, c5, c6, c7, c8, c9, c10, c11⟩ := hE
      have HR := Lib.hid (show rs ++ [rgOf e] = (l.take (k + 1)).map rgOf by rw [List.take_add_one, he, hrs.out]; simp)
      have HLT := Lib.hid hlt
      have HRL := Lib.hid hrl
      have hrn : rs.length < 1000000 := by omega
      clear he hlt hrl
      obtain ⟨U, hU⟩ : ∃ U, U = wr.alloc (.cells #[.int .i64 e.id, .int .i64 e.rows, .int .i64 e.live, .bool e.lo.null, .int .i64 e.lo.n, .string e.lo.s, .int .i64 e.lo.seq, .bool e.hi.null, .int .i64 e.hi.n, .string e.hi.s, .int .i64 e.hi.seq, .int .i64 e.del] 41) := ⟨_, rfl⟩
      have BU := Lib.hid (show Below wr.heap.size wr U by rw [hU]; exact abel _ _)
      have BE := Lib.hid (show Blk U wr.heap.size 41 #[.int .i64 e.id, .int .i64 e.rows, .int .i64 e.live, .bool e.lo.null, .int .i64 e.lo.n, .string e.lo.s, .int .i64 e.lo.seq, .bool e.hi.null, .int .i64 e.hi.n, .string e.hi.s, .int .i64 e.hi.seq, .int .i64 e.del] by rw [hU]; exact Blk.new _ _ _)
      have HO := Lib.hid (own_below hown BU.out)
      have HB := Lib.hid (hbel.trans (BU.out.mono hbel.size))
      clear hown hbel
      go_upto_region 5 with (fail)
      rw [← hU]
      clear hU
      have bb := BE.out
      have d0 := bb.cell 0
      have d1 := bb.cell 1
      have d2 := bb.cell 2
      have d3 := bb.cell 3
      have d4 := bb.cell 4
      have d5 := bb.cell 5
      have d6 := bb.cell 6
      have d7 := bb.cell 7
      have d8 := bb.cell 8
      have d9 := bb.cell 9
      have d10 := bb.cell 10
      have d11 := bb.cell 11
      simp only [List.getElem?_toArray, List.getElem?_cons_zero, List.getElem?_cons_succ] at d0 d1 d2 d3 d4 d5 d6 d7 d8 d9 d10 d11
      clear bb
      obtain ⟨R, hR⟩ : ∃ R, rs.length = R := ⟨_, rfl⟩
      rw [hR] at hrn
      have HRR := Lib.hid hR
      have hO := HO.out
      have hB := HB.out
      simp only [hR] at hO ⊢
      clear hR
      have hsz := hB.size
      go_wp2_with (at_builtin; go_must (refine app1 _ _ hO hB (Nat.le_refl _) hsz under_range info_range rfl (by decide) rfl (one8 _ _ _ _ _ _ _ _) (by omega) (by omega) rfl rfl rfl rfl ?_))
      intro g' cap' w7 hown7 hbel7 hgr7 _
      clear hO hB hsz
      go_wp2
      go_roundw
      case rel => exact ⟨k + 1, rs ++ [rgOf e], HLT.out, by go_num, by simp [HRL.out], HR, own_rngs' HRR.out hown7, hbel7⟩
      case measure => have := HLT.out; simp [intOf]; omega
    · have HF := Lib.hid (show rs = l.map rgOf by rw [hrs.out, show k = l.length by omega, List.take_length])
      have HO := Lib.hid hown
      have HB := Lib.hid hbel
      clear hown hbel
      go_wp2
      go_ret
      exact RetRow.mk_ HB.out HO.out (by rw [HF.out]) (by rw [HF.out])
set_option maxRecDepth 100000 in
set_option maxHeartbeats 8000000 in
theorem rranges_any (v : Value) (l : List Ent) (w : World) (hs : Sl w 12 v l.length (ents l)) (hl : l.length ≤ 1000000) :
    Calls Try.prog 14 #[v] w (RetRow w 44 8 (l.map rgOf).length (rngs (l.map rgOf))) := by
  obtain ⟨A, c, rfl, hc1, hc2⟩ := hs.form
  have HS := Lib.hid hs
  clear hs
  go_enter Try.func14, Try.ntmps14
  go_wp2
  go_loopw [3, 8] (fun v i wr => ∃ (k : Nat) (rs : List Rg), k ≤ l.length ∧ i = .int .i64 k ∧ rs.length = k ∧ Hid (rs = (l.take k).map rgOf) ∧ wr.ownsRow w.heap.size 44 8 v rs.length (rngs rs) ∧ Below w.heap.size w wr) (fun _ i _ => l.length - (intOf i).toNat)
  case atStart => exact ⟨0, [], by omega, rfl, rfl, Lib.hid rfl, World.ownsRow_nil _ _ _ _, Below.refl _ _⟩
  case round =>
    obtain ⟨k, rs, hk, rfl, hrl, hrs, hown, hbel⟩ := hrel
    by_cases hlt : k < l.length
    · obtain ⟨ad, e, p, rfl, he, hp, hE⟩ := (HS.out.below hbel).ent_load rfl hlt
      obtain ⟨hplt, c0, c1, c2, c3, c4, c5, c6, c7, c8, c9, c10, c11⟩ := hE
      have HR := Lib.hid (show rs ++ [rgOf e] = (l.take (k + 1)).map rgOf by rw [List.take_add_one, he, hrs.out]; simp)
      have HLT := Lib.hid hlt
      have HRL := Lib.hid hrl
      have hrn : rs.length < 1000000 := by omega
      clear he hlt hrl
      obtain ⟨U, hU⟩ : ∃ U, U = wr.alloc (.cells #[.int .i64 e.id, .int .i64 e.rows, .int .i64 e.live, .bool e.lo.null, .int .i64 e.lo.n, .string e.lo.s, .int .i64 e.lo.seq, .bool e.hi.null, .int .i64 e.hi.n, .string e.hi.s, .int .i64 e.hi.seq, .int .i64 e.del] 41) := ⟨_, rfl⟩
      have BU := Lib.hid (show Below wr.heap.size wr U by rw [hU]; exact abel _ _)
      have BE := Lib.hid (show Blk U wr.heap.size 41 #[.int .i64 e.id, .int .i64 e.rows, .int .i64 e.live, .bool e.lo.null, .int .i64 e.lo.n, .string e.lo.s, .int .i64 e.lo.seq, .bool e.hi.null, .int .i64 e.hi.n, .string e.hi.s, .int .i64 e.hi.seq, .int .i64 e.del] by rw [hU]; exact Blk.new _ _ _)
      have HO := Lib.hid (own_below hown BU.out)
      have HB := Lib.hid (hbel.trans (BU.out.mono hbel.size))
      clear hown hbel
      go_upto_region 5 with (fail)
      rw [← hU]
      clear hU
      have bb := BE.out
      have d0 := bb.cell 0
      have d1 := bb.cell 1
      have d2 := bb.cell 2
      have d3 := bb.cell 3
      have d4 := bb.cell 4
      have d5 := bb.cell 5
      have d6 := bb.cell 6
      have d7 := bb.cell 7
      have d8 := bb.cell 8
      have d9 := bb.cell 9
      have d10 := bb.cell 10
      have d11 := bb.cell 11
      simp only [List.getElem?_toArray, List.getElem?_cons_zero, List.getElem?_cons_succ] at d0 d1 d2 d3 d4 d5 d6 d7 d8 d9 d10 d11
      clear bb
      go_wp2_with fail
      refine (rangeOf_any e U).mono ?_
      rintro _ w4 ⟨rfl, hb4⟩
      have HO4 := Lib.hid (own_below HO.out hb4)
      have HB4 := Lib.hid (HB.out.trans (hb4.mono HB.out.size))
      clear hb4
      clear d0 d1 d2 d3 d4 d5 d6 d7 d8 d9 d10 d11
      obtain ⟨R, hR⟩ : ∃ R, rs.length = R := ⟨_, rfl⟩
      rw [hR] at hrn
      have HRR := Lib.hid hR
      have hO := HO4.out
      have hB := HB4.out
      simp only [hR] at hO ⊢
      clear hR
      have hsz := hB.size
      go_wp2_with (at_builtin; go_must (refine app1 _ _ hO hB (Nat.le_refl _) hsz under_range info_range rfl (by decide) rfl (one8 _ _ _ _ _ _ _ _) (by omega) (by omega) rfl rfl rfl rfl ?_))
      intro g' cap' w7 hown7 hbel7 hgr7 _
      clear hO hB hsz
      go_wp2
      go_roundw
      case rel => exact ⟨k + 1, rs ++ [rgOf e], HLT.out, by go_num, by simp [HRL.out], HR, own_rngs' HRR.out hown7, hbel7⟩
      case measure => have := HLT.out; simp [intOf]; omega
    · have HF := Lib.hid (show rs = l.map rgOf by rw [hrs.out, show k = l.length by omega, List.take_length])
      have HO := Lib.hid hown
      have HB := Lib.hid hbel
      clear hown hbel
      go_wp2
      go_ret
      exact RetRow.mk_ HB.out HO.out (by rw [HF.out]) (by rw [HF.out])
theorem chkRs_no {t : Int} {l : List Rg} {k : Nat} {r : Rg} (h : l[k]? = some r) (hr : 0 < cmpR t r.lo r.hi) : chkRs t l = false := by
  unfold chkRs
  rw [Bool.and_eq_false_iff]
  right
  rw [← Bool.not_eq_true, List.all_eq_true]
  intro ha
  have := ha r (List.mem_of_getElem? h)
  simp only [decide_eq_true_eq] at this; omega
theorem chkRs_yes {t : Int} {l : List Rg} (h : l.length ≤ 256) (hr : ∀ j r, l[j]? = some r → j < l.length → ¬ 0 < cmpR t r.lo r.hi) : chkRs t l = true := by
  unfold chkRs
  rw [Bool.and_eq_true, decide_eq_true_eq, List.all_eq_true]
  refine ⟨h, fun r hm => ?_⟩
  obtain ⟨j, hj⟩ := List.mem_iff_getElem?.1 hm
  have := hr j r hj (List.getElem?_eq_some_iff.1 hj).1
  simp only [decide_eq_true_eq]; omega
set_option maxRecDepth 100000 in
set_option maxHeartbeats 8000000 in
theorem rchkRs_any (t : Int) (v : Value) (l : List Rg) (w : World) (hs : Sl w 8 v l.length (rngs l)) (hl : l.length ≤ 1000000) :
    Calls Try.prog 26 #[.int .i64 t, v] w (RetBe w (chkRs t l)) := by
  obtain ⟨A, c, rfl, hc1, hc2⟩ := hs.form
  by_cases h : l.length ≤ 256
  · have HL := Lib.hid h
    have q2 : decide (256 < l.length) = false := by simp; omega
    have q3 : decide (256 < (l.length : Int)) = false := by simp; omega
    clear h
    go_enter Try.func26, Try.ntmps26
    go_wp2
    go_loopw [12] (fun i wr => ∃ k : Nat, k ≤ l.length ∧ i = .int .i64 k ∧ Below w.heap.size w wr ∧ Hid (∀ (j : Nat) (d : Rg), l[j]? = some d → j < k → cmpR t d.lo d.hi ≤ 0)) (fun i _ => l.length - (intOf i).toNat)
    case atStart => exact ⟨0, by omega, rfl, Below.refl _ _, Lib.hid fun j d _ hj => absurd hj (Nat.not_lt_zero _)⟩
    case round =>
      obtain ⟨k, hk, rfl, hbel, hno⟩ := hrel
      by_cases hlt : k < l.length
      · obtain ⟨ad, r, p, rfl, he, hp, hE⟩ := (hs.below hbel).rg_load rfl hlt
        obtain ⟨hplt, c0, c1, c2, c3, c4, c5, c6, c7⟩ := hE
        have HE := Lib.hid he
        clear he
        obtain ⟨U, hU⟩ : ∃ U, U = wr.alloc (.cells #[.bool r.lo.null, .int .i64 r.lo.n, .string r.lo.s, .int .i64 r.lo.seq, .bool r.hi.null, .int .i64 r.hi.n, .string r.hi.s, .int .i64 r.hi.seq] 44) := ⟨_, rfl⟩
        have BU := Lib.hid (show Below w.heap.size w U by rw [hU]; exact hbel.alloc hbel.size _)
        have BR := Lib.hid (show Blk U wr.heap.size 44 #[.bool r.lo.null, .int .i64 r.lo.n, .string r.lo.s, .int .i64 r.lo.seq, .bool r.hi.null, .int .i64 r.hi.n, .string r.hi.s, .int .i64 r.hi.seq] by rw [hU]; exact Blk.new _ _ _)
        obtain ⟨ck, hck⟩ : ∃ ck, cmpR t r.lo r.hi = ck := ⟨_, rfl⟩
        have HC := Lib.hid (show Calls Try.prog 25 #[.int .i64 t, .agg #[.bool r.lo.null, .int .i64 r.lo.n, .string r.lo.s, .int .i64 r.lo.seq], .agg #[.bool r.hi.null, .int .i64 r.hi.n, .string r.hi.s, .int .i64 r.hi.seq]] U (RetN U ck) by rw [← hck]; exact rcmpRank_any t r.lo r.hi U)
        have HCK := Lib.hid hck
        clear hbel hck
        have bb := BR.out
        have d0 := bb.cell 0
        have d1 := bb.cell 1
        have d2 := bb.cell 2
        have d3 := bb.cell 3
        have d4 := bb.cell 4
        have d5 := bb.cell 5
        have d6 := bb.cell 6
        have d7 := bb.cell 7
        simp only [List.getElem?_toArray, List.getElem?_cons_zero, List.getElem?_cons_succ] at d0 d1 d2 d3 d4 d5 d6 d7
        clear bb
        go_upto_region 6 with (fail)
        rw [← hU]
        clear hU
        by_cases hn : 0 < ck
        · have HF := Lib.hid (chkRs_no HE.out (HCK.out ▸ hn))
          have q1 : decide (0 < ck) = true := by simpa using hn
          clear hn
          go_wp2_with fail
          refine HC.out.mono ?_
          rintro _ w2 ⟨rfl, hb2⟩
          have HX := Lib.hid (BU.out.trans (hb2.mono BU.out.size))
          clear hb2
          go_wp2
          go_ret
          exact RetBe.mk_ HF.out HX.out
        · have HN := Lib.hid (show ∀ (j : Nat) (d : Rg), l[j]? = some d → j < k + 1 → cmpR t d.lo d.hi ≤ 0 from fun j d hd hj => by
            by_cases ej : j = k
            · subst ej; rw [HE.out] at hd; injection hd with hd; rw [← hd, HCK.out]; omega
            · exact hno.out j d hd (by omega))
          have q1 : decide (0 < ck) = false := by simpa using hn
          clear hn
          go_wp2_with fail
          refine HC.out.mono ?_
          rintro _ w2 ⟨rfl, hb2⟩
          have HX := Lib.hid (BU.out.trans (hb2.mono BU.out.size))
          clear hb2
          go_wp2
          go_roundw
          case rel => exact ⟨k + 1, by omega, by go_num, HX.out, HN⟩
          case measure => simp [intOf]; omega
      · have HF := Lib.hid (chkRs_yes HL.out fun j d hd hj => Int.not_lt.2 (hno.out j d hd (by omega)))
        go_wp2
        go_ret
        exact RetBe.mk_ HF.out hbel
  · have HF := Lib.hid (show chkRs t l = false by unfold chkRs; rw [decide_eq_false h, Bool.false_and])
    have q2 : decide (256 < l.length) = true := by simp; omega
    have q3 : decide (256 < (l.length : Int)) = true := by simp; omega
    clear h hs
    go_enter Try.func26, Try.ntmps26
    go_wp2
    go_ret
    exact RetBe.mk_ HF.out (by first | exact Below.refl _ _ | exact (Below.refl _ _).drew)
theorem chkEs_no {t : Int} {l : List Ent} (h : entsB l = false) : chkEs t l = false := by unfold chkEs; rw [h, Bool.false_and]
set_option maxRecDepth 100000 in
set_option maxHeartbeats 8000000 in
theorem pcheck_any (t : Int) (v : Value) (l : List Ent) (w : World) (hs : Sl w 12 v l.length (ents l)) (hw : ∀ e ∈ l, e.small) (hl : l.length ≤ 1000000) : Calls Try.prog 29 #[.int .i64 t, v] w (RetB1' w (chkEs t l)) := by
  obtain ⟨A, c, rfl, hc1, hc2⟩ := hs.form
  unfold maxLen at hc2
  go_enter Try.func29, Try.ntmps29
  go_wp2
  go_loopw [9] (fun i wr => ∃ k : Nat, i = .int .i64 k ∧ k ≤ l.length ∧ allTo (okAt l) k = true ∧ Below w.heap.size w wr) (fun i _ => l.length - (intOf i).toNat)
  case atStart => exact ⟨0, rfl, Nat.zero_le _, rfl, Below.refl _ _⟩
  case round =>
    obtain ⟨k, rfl, hk, hall, hb⟩ := hrel
    by_cases hlt : k < l.length
    · obtain ⟨ad, e, p, rfl, he, hp, hE⟩ := (hs.below hb).ent_load rfl hlt
      have HA := Lib.hid hall
      have HB := Lib.hid hb
      have HS := Lib.hid hE
      obtain ⟨hplt, c0, c1, c2, c3, c4, c5, c6, c7, c8, c9, c10, c11⟩ := hE
      clear hall hb
      have hesm := hw e (List.mem_of_getElem? he)
      obtain ⟨W, hW⟩ : ∃ W, W = wr.alloc (.cells e.cells.toArray 41) := ⟨_, rfl⟩
      have HBW := Lib.hid (show Below w.heap.size w W by rw [hW]; exact HB.out.alloc HB.out.size _)
      have hE2 : EntAt W ⟨wr.heap.size, 0, none⟩ e := EntAt.of_blk (by rw [hW]; exact Blk.new _ _ _)
      have f0 := fun d os => (hE2.regrown d os).c0
      have f1 := fun d os => (hE2.regrown d os).c1
      have f2 := fun d os => (hE2.regrown d os).c2
      have f3 := fun d os => (hE2.regrown d os).c3
      have f4 := fun d os => (hE2.regrown d os).c4
      have f5 := fun d os => (hE2.regrown d os).c5
      have f6 := fun d os => (hE2.regrown d os).c6
      have f7 := fun d os => (hE2.regrown d os).c7
      have f8 := fun d os => (hE2.regrown d os).c8
      have f9 := fun d os => (hE2.regrown d os).c9
      have f10 := fun d os => (hE2.regrown d os).c10
      have f11 := fun d os => (hE2.regrown d os).c11
      clear hE2
      by_cases hok : e.okB = true
      · have A1 := Lib.hid (reg_bb (w := W) (fun X => entry_b e hesm hok X))
        rcases k with _ | m
        · have HN := Lib.hid (allTo_next HA.out (okAt_first he hok))
          clear hok he
          unfold Ent.cells at hW
          go_wp2_with fail
          rw [← hW]
          clear hW
          refine wp_region_quiet_below (by kernel_rfl) (by kernel_rfl) ?_
          repeat (go_big_quiet_step ((first | (with_reducible exact A1.out _ _))))
          refine wpQuiet_nil ?_
          intro _ hw'
          obtain ⟨⟨dq, osq⟩, hw''⟩ := hw'
          subst hw''
          go_wp2
          go_roundw
          case rel => exact ⟨1, rfl, by omega, HN.out, bst HBW.out (below_regrown W dq osq)⟩
          case measure => simp [intOf]; omega
        · obtain ⟨ad', a, p', hA', ha, hp', hE'⟩ := (hs.below HB.out).ent_load rfl (show m < l.length by omega)
          cases hA'
          have hE3 : EntAt W p' a := by rw [hW]; exact hE'.below ((Below.refl _ _).alloc (Nat.le_refl _) _)
          have g0 := fun d os => (hE3.regrown d os).c0
          clear hE' hE3
          by_cases hlt2 : a.id < e.id
          · have HN := Lib.hid (allTo_next HA.out (okAt_asc ha he hok (t := true) (by simpa using hlt2)))
            clear hok he ha
            unfold Ent.cells at hW
            go_wp2_with fail
            rw [← hW]
            clear hW
            refine wp_region_quiet_below (by kernel_rfl) (by kernel_rfl) ?_
            repeat (go_big_quiet_step ((first | (with_reducible exact A1.out _ _))))
            refine wpQuiet_nil ?_
            intro _ hw'
            obtain ⟨⟨dq, osq⟩, hw''⟩ := hw'
            subst hw''
            go_wp2
            go_roundw
            case rel => exact ⟨m + 2, by go_num, by omega, HN.out, bst HBW.out (below_regrown W dq osq)⟩
            case measure => simp [intOf]; omega
          · have HN := Lib.hid (chkEs_no (t := t) (l := l) <| show entsB l = false from allTo_false hlt (okAt_asc ha he hok (t := false) (by simpa using hlt2)))
            clear hok he ha
            unfold Ent.cells at hW
            go_wp2_with fail
            rw [← hW]
            clear hW
            refine wp_region_quiet_below (by kernel_rfl) (by kernel_rfl) ?_
            repeat (go_big_quiet_step ((first | (with_reducible exact A1.out _ _))))
            refine wpQuiet_nil ?_
            intro _ hw'
            obtain ⟨⟨dq, osq⟩, hw''⟩ := hw'
            subst hw''
            go_wp2
            go_ret
            exact ⟨ret_bool HN.out.symm, bst HBW.out (below_regrown W dq osq)⟩
      · have hok' : e.okB = false := by simpa using hok
        have A1 := Lib.hid (reg_bb (w := W) (fun X => entry_b e hesm hok' X))
        have HN := Lib.hid (chkEs_no (t := t) (l := l) <| show entsB l = false from allTo_false hlt (okAt_false he hok'))
        clear hok hok' he
        unfold Ent.cells at hW
        go_wp2_with fail
        rw [← hW]
        clear hW
        refine wp_region_quiet_below (by kernel_rfl) (by kernel_rfl) ?_
        repeat (go_big_quiet_step ((first | (with_reducible exact A1.out _ _))))
        refine wpQuiet_nil ?_
        intro _ hw'
        obtain ⟨⟨dq, osq⟩, hw''⟩ := hw'
        subst hw''
        go_wp2
        go_ret
        exact ⟨ret_bool HN.out.symm, bst HBW.out (below_regrown W dq osq)⟩
    · obtain rfl : k = l.length := by omega
      have HN := Lib.hid (show chkEs t l = chkRs t (l.map rgOf) by unfold chkEs; rw [show entsB l = true from hall, Bool.true_and])
      have HB := Lib.hid hb
      have HR := Lib.hid (pranges_any (.slice A l.length c) l wr (hs.below hb) hl)
      obtain ⟨L, hL⟩ : ∃ L, l.map rgOf = L := ⟨_, rfl⟩
      have hLl : L.length ≤ 1000000 := by rw [← hL, List.length_map]; exact hl
      rw [hL] at HN HR
      clear hall hb hL
      go_wp2_with fail
      refine HR.out.mono ?_
      rintro _ w2 ⟨v2, rfl, hb2, ho2⟩
      obtain ⟨A2, c2, rfl, hd1, hd2⟩ := (Sl.of_own ho2).form
      have HC := Lib.hid (dcheck_any t _ L w2 (Sl.of_own ho2) hLl)
      have HB2 := Lib.hid (HB.out.trans (hb2.mono HB.out.size))
      clear ho2 hb2
      go_wp2_with fail
      refine HC.out.mono ?_
      rintro _ w3 ⟨rfl, hb3⟩
      have HX := Lib.hid (HB2.out.trans (hb3.mono HB2.out.size))
      clear hb3
      go_wp2
      go_ret
      exact ⟨ret_bool HN.out.symm, HX.out⟩
set_option maxRecDepth 100000 in
set_option maxHeartbeats 8000000 in
theorem rchkEs_any (t : Int) (v : Value) (l : List Ent) (w : World) (hs : Sl w 12 v l.length (ents l)) (hw : ∀ e ∈ l, e.small) (hl : l.length ≤ 1000000) : Calls Try.prog 49 #[.int .i64 t, v] w (RetB1' w (chkEs t l)) := by
  obtain ⟨A, c, rfl, hc1, hc2⟩ := hs.form
  unfold maxLen at hc2
  go_enter Try.func49, Try.ntmps49
  go_wp2
  go_loopw [9] (fun i wr => ∃ k : Nat, i = .int .i64 k ∧ k ≤ l.length ∧ allTo (okAt l) k = true ∧ Below w.heap.size w wr) (fun i _ => l.length - (intOf i).toNat)
  case atStart => exact ⟨0, rfl, Nat.zero_le _, rfl, Below.refl _ _⟩
  case round =>
    obtain ⟨k, rfl, hk, hall, hb⟩ := hrel
    by_cases hlt : k < l.length
    · obtain ⟨ad, e, p, rfl, he, hp, hE⟩ := (hs.below hb).ent_load rfl hlt
      have HA := Lib.hid hall
      have HB := Lib.hid hb
      have HS := Lib.hid hE
      obtain ⟨hplt, c0, c1, c2, c3, c4, c5, c6, c7, c8, c9, c10, c11⟩ := hE
      clear hall hb
      have hesm := hw e (List.mem_of_getElem? he)
      obtain ⟨W, hW⟩ : ∃ W, W = wr.alloc (.cells e.cells.toArray 41) := ⟨_, rfl⟩
      have HBW := Lib.hid (show Below w.heap.size w W by rw [hW]; exact HB.out.alloc HB.out.size _)
      have hE2 : EntAt W ⟨wr.heap.size, 0, none⟩ e := EntAt.of_blk (by rw [hW]; exact Blk.new _ _ _)
      have f0 := fun d os => (hE2.regrown d os).c0
      have f1 := fun d os => (hE2.regrown d os).c1
      have f2 := fun d os => (hE2.regrown d os).c2
      have f3 := fun d os => (hE2.regrown d os).c3
      have f4 := fun d os => (hE2.regrown d os).c4
      have f5 := fun d os => (hE2.regrown d os).c5
      have f6 := fun d os => (hE2.regrown d os).c6
      have f7 := fun d os => (hE2.regrown d os).c7
      have f8 := fun d os => (hE2.regrown d os).c8
      have f9 := fun d os => (hE2.regrown d os).c9
      have f10 := fun d os => (hE2.regrown d os).c10
      have f11 := fun d os => (hE2.regrown d os).c11
      clear hE2
      by_cases hok : e.okB = true
      · have A1 := Lib.hid (reg_bb (w := W) (fun X => rentry_b e hesm hok X))
        rcases k with _ | m
        · have HN := Lib.hid (allTo_next HA.out (okAt_first he hok))
          clear hok he
          unfold Ent.cells at hW
          go_wp2_with fail
          rw [← hW]
          clear hW
          refine wp_region_quiet_below (by kernel_rfl) (by kernel_rfl) ?_
          repeat (go_big_quiet_step ((first | (with_reducible exact A1.out _ _))))
          refine wpQuiet_nil ?_
          intro _ hw'
          obtain ⟨⟨dq, osq⟩, hw''⟩ := hw'
          subst hw''
          go_wp2
          go_roundw
          case rel => exact ⟨1, rfl, by omega, HN.out, bst HBW.out (below_regrown W dq osq)⟩
          case measure => simp [intOf]; omega
        · obtain ⟨ad', a, p', hA', ha, hp', hE'⟩ := (hs.below HB.out).ent_load rfl (show m < l.length by omega)
          cases hA'
          have hE3 : EntAt W p' a := by rw [hW]; exact hE'.below ((Below.refl _ _).alloc (Nat.le_refl _) _)
          have g0 := fun d os => (hE3.regrown d os).c0
          clear hE' hE3
          by_cases hlt2 : a.id < e.id
          · have HN := Lib.hid (allTo_next HA.out (okAt_asc ha he hok (t := true) (by simpa using hlt2)))
            clear hok he ha
            unfold Ent.cells at hW
            go_wp2_with fail
            rw [← hW]
            clear hW
            refine wp_region_quiet_below (by kernel_rfl) (by kernel_rfl) ?_
            repeat (go_big_quiet_step ((first | (with_reducible exact A1.out _ _))))
            refine wpQuiet_nil ?_
            intro _ hw'
            obtain ⟨⟨dq, osq⟩, hw''⟩ := hw'
            subst hw''
            go_wp2
            go_roundw
            case rel => exact ⟨m + 2, by go_num, by omega, HN.out, bst HBW.out (below_regrown W dq osq)⟩
            case measure => simp [intOf]; omega
          · have HN := Lib.hid (chkEs_no (t := t) (l := l) <| show entsB l = false from allTo_false hlt (okAt_asc ha he hok (t := false) (by simpa using hlt2)))
            clear hok he ha
            unfold Ent.cells at hW
            go_wp2_with fail
            rw [← hW]
            clear hW
            refine wp_region_quiet_below (by kernel_rfl) (by kernel_rfl) ?_
            repeat (go_big_quiet_step ((first | (with_reducible exact A1.out _ _))))
            refine wpQuiet_nil ?_
            intro _ hw'
            obtain ⟨⟨dq, osq⟩, hw''⟩ := hw'
            subst hw''
            go_wp2
            go_ret
            exact ⟨ret_bool HN.out.symm, bst HBW.out (below_regrown W dq osq)⟩
      · have hok' : e.okB = false := by simpa using hok
        have A1 := Lib.hid (reg_bb (w := W) (fun X => rentry_b e hesm hok' X))
        have HN := Lib.hid (chkEs_no (t := t) (l := l) <| show entsB l = false from allTo_false hlt (okAt_false he hok'))
        clear hok hok' he
        unfold Ent.cells at hW
        go_wp2_with fail
        rw [← hW]
        clear hW
        refine wp_region_quiet_below (by kernel_rfl) (by kernel_rfl) ?_
        repeat (go_big_quiet_step ((first | (with_reducible exact A1.out _ _))))
        refine wpQuiet_nil ?_
        intro _ hw'
        obtain ⟨⟨dq, osq⟩, hw''⟩ := hw'
        subst hw''
        go_wp2
        go_ret
        exact ⟨ret_bool HN.out.symm, bst HBW.out (below_regrown W dq osq)⟩
    · obtain rfl : k = l.length := by omega
      have HN := Lib.hid (show chkEs t l = chkRs t (l.map rgOf) by unfold chkEs; rw [show entsB l = true from hall, Bool.true_and])
      have HB := Lib.hid hb
      have HR := Lib.hid (rranges_any (.slice A l.length c) l wr (hs.below hb) hl)
      obtain ⟨L, hL⟩ : ∃ L, l.map rgOf = L := ⟨_, rfl⟩
      have hLl : L.length ≤ 1000000 := by rw [← hL, List.length_map]; exact hl
      rw [hL] at HN HR
      clear hall hb hL
      go_wp2_with fail
      refine HR.out.mono ?_
      rintro _ w2 ⟨v2, rfl, hb2, ho2⟩
      obtain ⟨A2, c2, rfl, hd1, hd2⟩ := (Sl.of_own ho2).form
      have HC := Lib.hid (rchkRs_any t _ L w2 (Sl.of_own ho2) hLl)
      have HB2 := Lib.hid (HB.out.trans (hb2.mono HB.out.size))
      clear ho2 hb2
      go_wp2_with fail
      refine HC.out.mono ?_
      rintro _ w3 ⟨rfl, hb3⟩
      have HX := Lib.hid (HB2.out.trans (hb3.mono HB2.out.size))
      clear hb3
      go_wp2
      go_ret
      exact ⟨ret_bool HN.out.symm, HX.out⟩
end Go.Proofs.Ytcjekbncllccbaa
