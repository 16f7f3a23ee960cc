/-
  The contracts of ref27.find, before and Adjacent.
-/
import Derived.Test.YtcjekbncllccbaaPk3
import Derived.Test.YtcjekbncllccbaaPk2
namespace Go.Proofs.Ytcjekbncllccbaa
open Go.RowKit Go.Sort

theorem beforeB_of {t : Int} {a c : Ent} {k : Int} (h : cmpR t a.lo c.lo = k) : beforeB t a c = (decide (k < 0) || (decide (k = 0) && decide (a.id < c.id))) := by unfold beforeB; rw [h]
set_option maxRecDepth 100000 in
set_option maxHeartbeats 8000000 in
theorem rbefore_any (t : Int) (a c : Ent) (w : World) {b : Bool} (hb : beforeB t a c = b) :
    Calls Try.prog 51 #[.int .i64 t, .agg #[.int .i64 a.id, .int .i64 a.rows, .int .i64 a.live, .bool a.lo.null, .int .i64 a.lo.n, .string a.lo.s, .int .i64 a.lo.seq, .bool a.hi.null, .int .i64 a.hi.n, .string a.hi.s, .int .i64 a.hi.seq, .int .i64 a.del], .agg #[.int .i64 c.id, .int .i64 c.rows, .int .i64 c.live, .bool c.lo.null, .int .i64 c.lo.n, .string c.lo.s, .int .i64 c.lo.seq, .bool c.hi.null, .int .i64 c.hi.n, .string c.hi.s, .int .i64 c.hi.seq, .int .i64 c.del]] w (RetBe w b) := by
  obtain ⟨W, hW⟩ : ∃ W, W = (w.alloc (.cells #[.int .i64 a.id, .int .i64 a.rows, .int .i64 a.live, .bool a.lo.null, .int .i64 a.lo.n, .string a.lo.s, .int .i64 a.lo.seq, .bool a.hi.null, .int .i64 a.hi.n, .string a.hi.s, .int .i64 a.hi.seq, .int .i64 a.del] 41)).alloc (.cells #[.int .i64 c.id, .int .i64 c.rows, .int .i64 c.live, .bool c.lo.null, .int .i64 c.lo.n, .string c.lo.s, .int .i64 c.lo.seq, .bool c.hi.null, .int .i64 c.hi.n, .string c.hi.s, .int .i64 c.hi.seq, .int .i64 c.del] 41) := ⟨_, rfl⟩
  have HB0 := Lib.hid (show Below w.heap.size w W by rw [hW]; exact abel2 _ _ _)
  have B1 := Lib.hid (show Blk W w.heap.size 41 #[.int .i64 a.id, .int .i64 a.rows, .int .i64 a.live, .bool a.lo.null, .int .i64 a.lo.n, .string a.lo.s, .int .i64 a.lo.seq, .bool a.hi.null, .int .i64 a.hi.n, .string a.hi.s, .int .i64 a.hi.seq, .int .i64 a.del] by rw [hW]; exact (Blk.new _ _ _).alloc _)
  have B2 := Lib.hid (show Blk W (w.heap.size + 1) 41 #[.int .i64 c.id, .int .i64 c.rows, .int .i64 c.live, .bool c.lo.null, .int .i64 c.lo.n, .string c.lo.s, .int .i64 c.lo.seq, .bool c.hi.null, .int .i64 c.hi.n, .string c.hi.s, .int .i64 c.hi.seq, .int .i64 c.del] by
    have := Blk.new (w.alloc (.cells #[.int .i64 a.id, .int .i64 a.rows, .int .i64 a.live, .bool a.lo.null, .int .i64 a.lo.n, .string a.lo.s, .int .i64 a.lo.seq, .bool a.hi.null, .int .i64 a.hi.n, .string a.hi.s, .int .i64 a.hi.seq, .int .i64 a.del] 41)) 41 #[.int .i64 c.id, .int .i64 c.rows, .int .i64 c.live, .bool c.lo.null, .int .i64 c.lo.n, .string c.lo.s, .int .i64 c.lo.seq, .bool c.hi.null, .int .i64 c.hi.n, .string c.hi.s, .int .i64 c.hi.seq, .int .i64 c.del]
    rw [hW]; simpa using this)
  have C1 := Lib.hid (rcmpRank_any t a.lo c.lo W)
  obtain ⟨k, hk⟩ : ∃ k, cmpR t a.lo c.lo = k := ⟨_, rfl⟩
  rw [beforeB_of hk] at hb
  rw [hk] at C1
  clear hk
  have bb := B1.out
  have c0 := bb.cell 0
  have c1 := bb.cell 1
  have c2 := bb.cell 2
  have c3 := bb.cell 3
  have c4 := bb.cell 4
  have c5 := bb.cell 5
  have c6 := bb.cell 6
  have c7 := bb.cell 7
  have c8 := bb.cell 8
  have c9 := bb.cell 9
  have c10 := bb.cell 10
  have c11 := bb.cell 11
  simp only [List.getElem?_toArray, List.getElem?_cons_zero, List.getElem?_cons_succ] at c0 c1 c2 c3 c4 c5 c6 c7 c8 c9 c10 c11
  clear bb
  have bb := B2.out
  have d0 := bb.cell 0
  have d1 := bb.cell 1
  have d2 := bb.cell 2
  have d3 := bb.cell 3
  have d4 := bb.cell 4
  have d5 := bb.cell 5
  have d6 := bb.cell 6
  have d7 := bb.cell 7
  have d8 := bb.cell 8
  have d9 := bb.cell 9
  have d10 := bb.cell 10
  have d11 := bb.cell 11
  simp only [List.getElem?_toArray, List.getElem?_cons_zero, List.getElem?_cons_succ] at d0 d1 d2 d3 d4 d5 d6 d7 d8 d9 d10 d11
  clear bb
  go_enter Try.func51, Try.ntmps51
  go_upto_region 1 with (fail)
  rw [← hW]
  clear hW
  go_wp2_with fail
  refine C1.out.mono ?_
  rintro _ w2 ⟨rfl, hb2⟩
  have B3 := Lib.hid (B1.out.below hb2 B1.out.lt)
  have B4 := Lib.hid (B2.out.below hb2 B2.out.lt)
  have HX := Lib.hid (bst HB0.out hb2)
  clear hb2
  clear c0 c1 c2 c3 c4 c5 c6 c7 c8 c9 c10 c11
  clear d0 d1 d2 d3 d4 d5 d6 d7 d8 d9 d10 d11
  have bb := B3.out
  have c0 := bb.cell 0
  have c1 := bb.cell 1
  have c2 := bb.cell 2
  have c3 := bb.cell 3
  have c4 := bb.cell 4
  have c5 := bb.cell 5
  have c6 := bb.cell 6
  have c7 := bb.cell 7
  have c8 := bb.cell 8
  have c9 := bb.cell 9
  have c10 := bb.cell 10
  have c11 := bb.cell 11
  simp only [List.getElem?_toArray, List.getElem?_cons_zero, List.getElem?_cons_succ] at c0 c1 c2 c3 c4 c5 c6 c7 c8 c9 c10 c11
  clear bb
  have bb := B4.out
  have d0 := bb.cell 0
  have d1 := bb.cell 1
  have d2 := bb.cell 2
  have d3 := bb.cell 3
  have d4 := bb.cell 4
  have d5 := bb.cell 5
  have d6 := bb.cell 6
  have d7 := bb.cell 7
  have d8 := bb.cell 8
  have d9 := bb.cell 9
  have d10 := bb.cell 10
  have d11 := bb.cell 11
  simp only [List.getElem?_toArray, List.getElem?_cons_zero, List.getElem?_cons_succ] at d0 d1 d2 d3 d4 d5 d6 d7 d8 d9 d10 d11
  clear bb
  by_cases h1 : k < 0
  · have HF := Lib.hid (show b = true by rw [← hb]; simp [h1])
    have q1 : decide (k < 0) = true := by simpa using h1
    clear hb h1
    go_wp2
    go_ret
    exact RetBe.mk_ HF.out HX.out
  · have q1 : decide (k < 0) = false := by simpa using h1
    by_cases h2 : k = 0
    · have q2 : (k == 0) = true := by simpa using h2
      by_cases h3 : a.id < c.id
      · have HF := Lib.hid (show b = true by rw [← hb]; simp [h2, h3])
        have q3 : decide (a.id < c.id) = true := by simpa using h3
        clear hb h1 h2 h3
        go_wp2
        go_ret
        exact RetBe.mk_ HF.out HX.out
      · have HF := Lib.hid (show b = false by rw [← hb]; simp [h2, h3])
        have q3 : decide (a.id < c.id) = false := by simpa using h3
        clear hb h1 h2 h3
        go_wp2
        go_ret
        exact RetBe.mk_ HF.out HX.out
    · have q2 : (k == 0) = false := by simpa using h2
      have HF := Lib.hid (show b = false by rw [← hb]; simp [h1, h2])
      clear hb h1 h2
      go_wp2
      go_ret
      exact RetBe.mk_ HF.out HX.out
def findE (l : List Ent) (x : Int) : Option Ent := l.find? fun e => decide (e.id = x)
def ent00 : Ent := ⟨0, 0, 0, rk00, rk00, 0⟩
def RetFind (w : World) (o : Option Ent) (e : Ending) (w' : World) : Prop := e = .returned (.tuple #[.agg #[.int .i64 (o.getD ent00).id, .int .i64 (o.getD ent00).rows, .int .i64 (o.getD ent00).live, .bool (o.getD ent00).lo.null, .int .i64 (o.getD ent00).lo.n, .string (o.getD ent00).lo.s, .int .i64 (o.getD ent00).lo.seq, .bool (o.getD ent00).hi.null, .int .i64 (o.getD ent00).hi.n, .string (o.getD ent00).hi.s, .int .i64 (o.getD ent00).hi.seq, .int .i64 (o.getD ent00).del], .bool o.isSome]) ∧ Below w.heap.size w w'
theorem findE_hit {l : List Ent} {x : Int} {k : Nat} {e : Ent} (h : ∀ (j : Nat) (d : Ent), l[j]? = some d → j < k → d.id ≠ x) (he : l[k]? = some e) (hx : e.id = x) : findE l x = some e := by
  unfold findE
  rw [List.find?_eq_some_iff_getElem]
  obtain ⟨hk, e1⟩ := List.getElem?_eq_some_iff.1 he
  refine ⟨by simp [hx], k, hk, e1, fun j hj => ?_⟩
  have := h j l[j] (List.getElem?_eq_getElem (by omega)) hj
  simpa using this
theorem findE_none {l : List Ent} {x : Int} (h : ∀ (j : Nat) (d : Ent), l[j]? = some d → j < l.length → d.id ≠ x) : findE l x = none := by
  unfold findE
  rw [List.find?_eq_none]
  intro e he
  obtain ⟨j, hj⟩ := List.mem_iff_getElem?.1 he
  have := h j e hj (List.getElem?_eq_some_iff.1 hj).1
  simpa using this
set_option maxRecDepth 100000 in
set_option maxHeartbeats 8000000 in
theorem rfind_any (v : Value) (l : List Ent) (x : Int) (w : World) (hs : Sl w 12 v l.length (ents l)) (hl : l.length ≤ 1000000) :
    Calls Try.prog 48 #[v, .int .i64 x] w (RetFind w (findE l x)) := by
  obtain ⟨A, c, rfl, hc1, hc2⟩ := hs.form
  obtain ⟨W, hW⟩ : ∃ W, W = w.alloc (.cells #[.int .i64 0, .int .i64 0, .int .i64 0, .bool false, .int .i64 0, .string { data := #[] }, .int .i64 0, .bool false, .int .i64 0, .string { data := #[] }, .int .i64 0, .int .i64 0] 41) := ⟨_, rfl⟩
  have hb0 : Below w.heap.size w W := by rw [hW]; exact abel _ _
  have BZ := Lib.hid (show Blk W w.heap.size 41 #[.int .i64 0, .int .i64 0, .int .i64 0, .bool false, .int .i64 0, .string { data := #[] }, .int .i64 0, .bool false, .int .i64 0, .string { data := #[] }, .int .i64 0, .int .i64 0] by rw [hW]; exact Blk.new _ _ _)
  have HS := Lib.hid (hs.below hb0)
  have HB0 := Lib.hid hb0
  clear hs hb0
  go_enter Try.func48, Try.ntmps48
  go_upto_region 1 with (fail)
  rw [← hW]
  clear hW
  go_wp2
  go_loopw [10] (fun i wr => ∃ k : Nat, k ≤ l.length ∧ i = .int .i64 k ∧ Below W.heap.size W wr ∧ Hid (∀ (j : Nat) (d : Ent), l[j]? = some d → j < k → d.id ≠ x)) (fun i _ => l.length - (intOf i).toNat)
  case atStart => exact ⟨0, by omega, rfl, Below.refl _ _, Lib.hid fun j d _ hj => absurd hj (Nat.not_lt_zero _)⟩
  case round =>
    obtain ⟨k, hk, rfl, hbel, hno⟩ := hrel
    by_cases hlt : k < l.length
    · obtain ⟨ad, e, p, rfl, he, hp, hE⟩ := (HS.out.below hbel).ent_load rfl hlt
      obtain ⟨hplt, c0, c1, c2, c3, c4, c5, c6, c7, c8, c9, c10, c11⟩ := hE
      have HE := Lib.hid he
      clear he
      obtain ⟨U, hU⟩ : ∃ U, U = wr.alloc (.cells #[.int .i64 e.id, .int .i64 e.rows, .int .i64 e.live, .bool e.lo.null, .int .i64 e.lo.n, .string e.lo.s, .int .i64 e.lo.seq, .bool e.hi.null, .int .i64 e.hi.n, .string e.hi.s, .int .i64 e.hi.seq, .int .i64 e.del] 41) := ⟨_, rfl⟩
      have BU := Lib.hid (show Below W.heap.size W U by rw [hU]; exact hbel.alloc hbel.size _)
      have BE := Lib.hid (show Blk U wr.heap.size 41 #[.int .i64 e.id, .int .i64 e.rows, .int .i64 e.live, .bool e.lo.null, .int .i64 e.lo.n, .string e.lo.s, .int .i64 e.lo.seq, .bool e.hi.null, .int .i64 e.hi.n, .string e.hi.s, .int .i64 e.hi.seq, .int .i64 e.del] by rw [hU]; exact Blk.new _ _ _)
      have BZ2 := Lib.hid (BZ.out.below BU.out BZ.out.lt)
      clear hbel
      have bb := BE.out
      have d0 := bb.cell 0
      have d1 := bb.cell 1
      have d2 := bb.cell 2
      have d3 := bb.cell 3
      have d4 := bb.cell 4
      have d5 := bb.cell 5
      have d6 := bb.cell 6
      have d7 := bb.cell 7
      have d8 := bb.cell 8
      have d9 := bb.cell 9
      have d10 := bb.cell 10
      have d11 := bb.cell 11
      simp only [List.getElem?_toArray, List.getElem?_cons_zero, List.getElem?_cons_succ] at d0 d1 d2 d3 d4 d5 d6 d7 d8 d9 d10 d11
      clear bb
      go_upto_region 4 with (fail)
      rw [← hU]
      clear hU
      by_cases hn : e.id = x
      · have HF := Lib.hid (findE_hit hno.out HE.out hn)
        have q1 : (e.id == x) = true := by simpa using hn
        clear hn
        have bb := BZ2.out
        have z0 := bb.cell 0
        have z1 := bb.cell 1
        have z2 := bb.cell 2
        have z3 := bb.cell 3
        have z4 := bb.cell 4
        have z5 := bb.cell 5
        have z6 := bb.cell 6
        have z7 := bb.cell 7
        have z8 := bb.cell 8
        have z9 := bb.cell 9
        have z10 := bb.cell 10
        have z11 := bb.cell 11
        simp only [List.getElem?_toArray, List.getElem?_cons_zero, List.getElem?_cons_succ] at z0 z1 z2 z3 z4 z5 z6 z7 z8 z9 z10 z11
        clear bb
        have f0 := (BZ2.out).frozen 0
        have f1 := (BZ2.out).frozen 1
        have f2 := (BZ2.out).frozen 2
        have f3 := (BZ2.out).frozen 3
        have f4 := (BZ2.out).frozen 4
        have f5 := (BZ2.out).frozen 5
        have f6 := (BZ2.out).frozen 6
        have f7 := (BZ2.out).frozen 7
        have f8 := (BZ2.out).frozen 8
        have f9 := (BZ2.out).frozen 9
        have f10 := (BZ2.out).frozen 10
        have f11 := (BZ2.out).frozen 11
        have hltz := BZ2.out.lt
        go_wp2
        have kg := grown12 U w.heap.size (.int .i64 e.id) (.int .i64 e.rows) (.int .i64 e.live) (.bool e.lo.null) (.int .i64 e.lo.n) (.string e.lo.s) (.int .i64 e.lo.seq) (.bool e.hi.null) (.int .i64 e.hi.n) (.string e.hi.s) (.int .i64 e.hi.seq) (.int .i64 e.del)
        have kb := blk12 (.int .i64 e.id) (.int .i64 e.rows) (.int .i64 e.live) (.bool e.lo.null) (.int .i64 e.lo.n) (.string e.lo.s) (.int .i64 e.lo.seq) (.bool e.hi.null) (.int .i64 e.hi.n) (.string e.hi.s) (.int .i64 e.hi.seq) (.int .i64 e.del) BZ2.out
        have kw := below_row (bst HB0.out BU.out) kg (Nat.le_refl _) ((bst HB0.out BU.out)).size
        obtain ⟨V, hV⟩ : ∃ V, V = (((((((((((U.setCell ⟨w.heap.size, 0, none⟩ (.int .i64 e.id)).setCell ⟨w.heap.size, 1, none⟩ (.int .i64 e.rows)).setCell ⟨w.heap.size, 2, none⟩ (.int .i64 e.live)).setCell ⟨w.heap.size, 3, none⟩ (.bool e.lo.null)).setCell ⟨w.heap.size, 4, none⟩ (.int .i64 e.lo.n)).setCell ⟨w.heap.size, 5, none⟩ (.string e.lo.s)).setCell ⟨w.heap.size, 6, none⟩ (.int .i64 e.lo.seq)).setCell ⟨w.heap.size, 7, none⟩ (.bool e.hi.null)).setCell ⟨w.heap.size, 8, none⟩ (.int .i64 e.hi.n)).setCell ⟨w.heap.size, 9, none⟩ (.string e.hi.s)).setCell ⟨w.heap.size, 10, none⟩ (.int .i64 e.hi.seq)).setCell ⟨w.heap.size, 11, none⟩ (.int .i64 e.del) := ⟨_, rfl⟩
        rw [← hV] at kb kw ⊢
        have bb := kb
        have x0 := bb.cell 0
        have x1 := bb.cell 1
        have x2 := bb.cell 2
        have x3 := bb.cell 3
        have x4 := bb.cell 4
        have x5 := bb.cell 5
        have x6 := bb.cell 6
        have x7 := bb.cell 7
        have x8 := bb.cell 8
        have x9 := bb.cell 9
        have x10 := bb.cell 10
        have x11 := bb.cell 11
        simp only [List.getElem?_toArray, List.getElem?_cons_zero, List.getElem?_cons_succ] at x0 x1 x2 x3 x4 x5 x6 x7 x8 x9 x10 x11
        clear bb
        exact bodyPost_ret (v := .tuple #[.agg #[.int .i64 e.id, .int .i64 e.rows, .int .i64 e.live, .bool e.lo.null, .int .i64 e.lo.n, .string e.lo.s, .int .i64 e.lo.seq, .bool e.hi.null, .int .i64 e.hi.n, .string e.hi.s, .int .i64 e.hi.seq, .int .i64 e.del], .bool true]) (by simp [results, Try.results48, go_sem, x0, x1, x2, x3, x4, x5, x6, x7, x8, x9, x10, x11]) rfl ⟨by rw [HF.out]; rfl, kw⟩
      · have HN := Lib.hid (show ∀ (j : Nat) (d : Ent), l[j]? = some d → j < k + 1 → d.id ≠ x from fun j d hd hj => by
          by_cases ej : j = k
          · subst ej; rw [HE.out] at hd; injection hd with hd; rw [← hd]; exact hn
          · exact hno.out j d hd (by omega))
        have q1 : (e.id == x) = false := by simpa using hn
        clear hn
        go_wp2
        go_roundw
        case rel => exact ⟨k + 1, by omega, by go_num, BU.out, HN⟩
        case measure => simp [intOf]; omega
    · have HF := Lib.hid (findE_none fun j d hd hj => hno.out j d hd (by omega))
      have BZ2 := Lib.hid (BZ.out.below hbel BZ.out.lt)
      have BU := Lib.hid hbel
      clear hbel
      have bb := BZ2.out
      have z0 := bb.cell 0
      have z1 := bb.cell 1
      have z2 := bb.cell 2
      have z3 := bb.cell 3
      have z4 := bb.cell 4
      have z5 := bb.cell 5
      have z6 := bb.cell 6
      have z7 := bb.cell 7
      have z8 := bb.cell 8
      have z9 := bb.cell 9
      have z10 := bb.cell 10
      have z11 := bb.cell 11
      simp only [List.getElem?_toArray, List.getElem?_cons_zero, List.getElem?_cons_succ] at z0 z1 z2 z3 z4 z5 z6 z7 z8 z9 z10 z11
      clear bb
      have f0 := (BZ2.out).frozen 0
      have f1 := (BZ2.out).frozen 1
      have f2 := (BZ2.out).frozen 2
      have f3 := (BZ2.out).frozen 3
      have f4 := (BZ2.out).frozen 4
      have f5 := (BZ2.out).frozen 5
      have f6 := (BZ2.out).frozen 6
      have f7 := (BZ2.out).frozen 7
      have f8 := (BZ2.out).frozen 8
      have f9 := (BZ2.out).frozen 9
      have f10 := (BZ2.out).frozen 10
      have f11 := (BZ2.out).frozen 11
      have hltz := BZ2.out.lt
      go_wp2
      have kg := grown12 wr w.heap.size (.int .i64 0) (.int .i64 0) (.int .i64 0) (.bool false) (.int .i64 0) (.string { data := #[] }) (.int .i64 0) (.bool false) (.int .i64 0) (.string { data := #[] }) (.int .i64 0) (.int .i64 0)
      have kb := blk12 (.int .i64 0) (.int .i64 0) (.int .i64 0) (.bool false) (.int .i64 0) (.string { data := #[] }) (.int .i64 0) (.bool false) (.int .i64 0) (.string { data := #[] }) (.int .i64 0) (.int .i64 0) BZ2.out
      have kw := below_row (bst HB0.out BU.out) kg (Nat.le_refl _) ((bst HB0.out BU.out)).size
      obtain ⟨V, hV⟩ : ∃ V, V = (((((((((((wr.setCell ⟨w.heap.size, 0, none⟩ (.int .i64 0)).setCell ⟨w.heap.size, 1, none⟩ (.int .i64 0)).setCell ⟨w.heap.size, 2, none⟩ (.int .i64 0)).setCell ⟨w.heap.size, 3, none⟩ (.bool false)).setCell ⟨w.heap.size, 4, none⟩ (.int .i64 0)).setCell ⟨w.heap.size, 5, none⟩ (.string { data := #[] })).setCell ⟨w.heap.size, 6, none⟩ (.int .i64 0)).setCell ⟨w.heap.size, 7, none⟩ (.bool false)).setCell ⟨w.heap.size, 8, none⟩ (.int .i64 0)).setCell ⟨w.heap.size, 9, none⟩ (.string { data := #[] })).setCell ⟨w.heap.size, 10, none⟩ (.int .i64 0)).setCell ⟨w.heap.size, 11, none⟩ (.int .i64 0) := ⟨_, rfl⟩
      rw [← hV] at kb kw ⊢
      have bb := kb
      have x0 := bb.cell 0
      have x1 := bb.cell 1
      have x2 := bb.cell 2
      have x3 := bb.cell 3
      have x4 := bb.cell 4
      have x5 := bb.cell 5
      have x6 := bb.cell 6
      have x7 := bb.cell 7
      have x8 := bb.cell 8
      have x9 := bb.cell 9
      have x10 := bb.cell 10
      have x11 := bb.cell 11
      simp only [List.getElem?_toArray, List.getElem?_cons_zero, List.getElem?_cons_succ] at x0 x1 x2 x3 x4 x5 x6 x7 x8 x9 x10 x11
      clear bb
      exact bodyPost_ret (v := .tuple #[.agg #[.int .i64 0, .int .i64 0, .int .i64 0, .bool false, .int .i64 0, .string { data := #[] }, .int .i64 0, .bool false, .int .i64 0, .string { data := #[] }, .int .i64 0, .int .i64 0], .bool false]) (by simp [results, Try.results48, go_sem, x0, x1, x2, x3, x4, x5, x6, x7, x8, x9, x10, x11]) rfl ⟨by rw [HF.out]; rfl, kw⟩
def gapE (t : Int) (l : List Ent) (a b : Int) (ex ey : Ent) (j : Nat) : Bool := match l[j]? with | some e => decide (e.id = a) || decide (e.id = b) || !(decide (0 < cmpR t e.hi ex.hi) && decide (cmpR t e.lo ey.lo < 0)) | none => true
theorem gapE_get {t : Int} {l : List Ent} {a b : Int} {ex ey e : Ent} {j : Nat} (h : l[j]? = some e) : gapE t l a b ex ey j = (decide (e.id = a) || decide (e.id = b) || !(decide (0 < cmpR t e.hi ex.hi) && decide (cmpR t e.lo ey.lo < 0))) := by unfold gapE; rw [h]
/-- What the reference's Adjacent answers at two known entries. -/
def adjX (t : Int) (l : List Ent) (a b : Int) (x y : Ent) : Bool := !decide (a = b) && !meetE t x y && (if 0 < cmpR t x.lo y.lo then allTo (gapE t l a b y x) l.length else allTo (gapE t l a b x y) l.length)
def adjR (t : Int) (l : List Ent) (a b : Int) : Bool := match findE l a, findE l b with
  | some x, some y => chkEs t l && adjX t l a b x y
  | _, _ => false
set_option maxRecDepth 100000 in
set_option maxHeartbeats 8000000 in
theorem radjacent_any (t : Int) (v : Value) (l : List Ent) (a b : Int) (w : World) (hs : Sl w 12 v l.length (ents l)) (hw : ∀ e ∈ l, e.small) (hl : l.length ≤ 1000000) :
    Calls Try.prog 22 #[.int .i64 t, v, .int .i64 a, .int .i64 b] w (RetBe w (adjR t l a b)) := by
  obtain ⟨A, c, rfl, hc1, hc2⟩ := hs.form
  have F1 := Lib.hid (rfind_any (.slice A l.length c) l a w hs hl)
  have F2 := Lib.hid (fun X (hX : Below w.heap.size w X) => rfind_any (.slice A l.length c) l b X (hs.below hX) hl)
  have FC := Lib.hid (fun X (hX : Below w.heap.size w X) => rchkEs_any t (.slice A l.length c) l X (hs.below hX) hw hl)
  have HS := Lib.hid hs
  have HA := Lib.hid (show adjR t l a b = (match findE l a, findE l b with | some x, some y => chkEs t l && adjX t l a b x y | _, _ => false) from rfl)
  obtain ⟨R, hR⟩ : ∃ R, adjR t l a b = R := ⟨_, rfl⟩
  rw [hR] at HA ⊢
  obtain ⟨ox, hox⟩ : ∃ ox, findE l a = ox := ⟨_, rfl⟩
  obtain ⟨oy, hoy⟩ : ∃ oy, findE l b = oy := ⟨_, rfl⟩
  rw [hox, hoy] at HA
  rw [hox] at F1
  rw [hoy] at F2
  clear hs hR hox hoy
  go_enter Try.func22, Try.ntmps22
  go_wp2_with fail
  refine F1.out.mono ?_
  rintro _ w1 ⟨rfl, hb1⟩
  obtain ⟨W1, hW1⟩ : ∃ W1, W1 = w1.alloc (.cells #[.int .i64 (ox.getD ent00).id, .int .i64 (ox.getD ent00).rows, .int .i64 (ox.getD ent00).live, .bool (ox.getD ent00).lo.null, .int .i64 (ox.getD ent00).lo.n, .string (ox.getD ent00).lo.s, .int .i64 (ox.getD ent00).lo.seq, .bool (ox.getD ent00).hi.null, .int .i64 (ox.getD ent00).hi.n, .string (ox.getD ent00).hi.s, .int .i64 (ox.getD ent00).hi.seq, .int .i64 (ox.getD ent00).del] 41) := ⟨_, rfl⟩
  have HB1 := Lib.hid (show Below w.heap.size w W1 by rw [hW1]; exact hb1.alloc hb1.size _)
  obtain ⟨N1, hN1⟩ : ∃ N1, w1.heap.size = N1 := ⟨_, rfl⟩
  have X1 := Lib.hid (show Blk W1 N1 41 #[.int .i64 (ox.getD ent00).id, .int .i64 (ox.getD ent00).rows, .int .i64 (ox.getD ent00).live, .bool (ox.getD ent00).lo.null, .int .i64 (ox.getD ent00).lo.n, .string (ox.getD ent00).lo.s, .int .i64 (ox.getD ent00).lo.seq, .bool (ox.getD ent00).hi.null, .int .i64 (ox.getD ent00).hi.n, .string (ox.getD ent00).hi.s, .int .i64 (ox.getD ent00).hi.seq, .int .i64 (ox.getD ent00).del] by rw [hW1, ← hN1]; exact Blk.new _ _ _)
  have hN1w : w.heap.size ≤ N1 := by rw [← hN1]; exact hb1.size
  clear hb1
  go_upto_region 2 with (fail)
  rw [← hW1]
  try simp only [hN1]
  clear hW1 hN1
  go_wp2_with fail
  refine (F2.out _ HB1.out).mono ?_
  rintro _ w2 ⟨rfl, hb2⟩
  obtain ⟨W2, hW2⟩ : ∃ W2, W2 = w2.alloc (.cells #[.int .i64 (oy.getD ent00).id, .int .i64 (oy.getD ent00).rows, .int .i64 (oy.getD ent00).live, .bool (oy.getD ent00).lo.null, .int .i64 (oy.getD ent00).lo.n, .string (oy.getD ent00).lo.s, .int .i64 (oy.getD ent00).lo.seq, .bool (oy.getD ent00).hi.null, .int .i64 (oy.getD ent00).hi.n, .string (oy.getD ent00).hi.s, .int .i64 (oy.getD ent00).hi.seq, .int .i64 (oy.getD ent00).del] 41) := ⟨_, rfl⟩
  have hb12 : Below W1.heap.size W1 W2 := by rw [hW2]; exact hb2.alloc hb2.size _
  have HB2 := Lib.hid (bst HB1.out hb12)
  obtain ⟨N2, hN2⟩ : ∃ N2, w2.heap.size = N2 := ⟨_, rfl⟩
  have X2 := Lib.hid (show Blk W2 N2 41 #[.int .i64 (oy.getD ent00).id, .int .i64 (oy.getD ent00).rows, .int .i64 (oy.getD ent00).live, .bool (oy.getD ent00).lo.null, .int .i64 (oy.getD ent00).lo.n, .string (oy.getD ent00).lo.s, .int .i64 (oy.getD ent00).lo.seq, .bool (oy.getD ent00).hi.null, .int .i64 (oy.getD ent00).hi.n, .string (oy.getD ent00).hi.s, .int .i64 (oy.getD ent00).hi.seq, .int .i64 (oy.getD ent00).del] by rw [hW2, ← hN2]; exact Blk.new _ _ _)
  have X12 := Lib.hid (X1.out.below hb12 X1.out.lt)
  have hNN : N1 < N2 := by rw [← hN2]; exact Nat.lt_of_lt_of_le X1.out.lt hb2.size
  clear hb2 hb12
  go_upto_region 3 with (fail)
  rw [← hW2]
  try simp only [hN2]
  clear hW2 hN2
  go_wp2_with fail
  refine (FC.out _ HB2.out).mono ?_
  cases hck : chkEs t l with
  | false =>
    have HF := Lib.hid (show R = false by rw [HA.out, hck]; cases ox <;> cases oy <;> rfl)
    clear hck
    rintro _ w3 ⟨rfl, hb3⟩
    have HX := Lib.hid (bst HB2.out hb3)
    clear hb3
    go_wp2
    go_ret
    exact RetBe.mk_ HF.out HX.out
  | true =>
    rw [hck] at HA
    clear hck
    rintro _ w3 ⟨rfl, hb3⟩
    have HX := Lib.hid (bst HB2.out hb3)
    have X13 := Lib.hid (X12.out.below hb3 X12.out.lt)
    have X23 := Lib.hid (X2.out.below hb3 X2.out.lt)
    clear hb3
    cases ox with
    | none =>
      have HF := Lib.hid (show R = false by rw [HA.out])
      simp only [Option.isSome_none]
      go_wp2
      go_ret
      exact RetBe.mk_ HF.out HX.out
    | some x =>
      cases oy with
      | none =>
        have HF := Lib.hid (show R = false by rw [HA.out])
        simp only [Option.isSome_none, Option.isSome_some]
        go_wp2
        go_ret
        exact RetBe.mk_ HF.out HX.out
      | some y =>
        have HA2 := Lib.hid (show R = adjX t l a b x y by rw [HA.out]; exact Bool.true_and _)
        simp only [Option.isSome_some]
        simp only [show (some x).getD ent00 = x from rfl] at X13 ⊢
        simp only [show (some y).getD ent00 = y from rfl] at X23 ⊢
        clear HA F1 F2 X1 X2 X12
        by_cases hab : a = b
        · have HF := Lib.hid (show R = false by rw [HA2.out]; unfold adjX; rw [decide_eq_true hab]; rfl)
          have q1 : (a == b) = true := by simpa using hab
          clear hab
          go_wp2
          go_ret
          exact RetBe.mk_ HF.out HX.out
        · have q1 : (a == b) = false := by simpa using hab
          have dab : decide (a = b) = false := by simpa using hab
          have bb := X13.out
          have c0 := bb.cell 0
          have c1 := bb.cell 1
          have c2 := bb.cell 2
          have c3 := bb.cell 3
          have c4 := bb.cell 4
          have c5 := bb.cell 5
          have c6 := bb.cell 6
          have c7 := bb.cell 7
          have c8 := bb.cell 8
          have c9 := bb.cell 9
          have c10 := bb.cell 10
          have c11 := bb.cell 11
          simp only [List.getElem?_toArray, List.getElem?_cons_zero, List.getElem?_cons_succ] at c0 c1 c2 c3 c4 c5 c6 c7 c8 c9 c10 c11
          clear bb
          have bb := X23.out
          have d0 := bb.cell 0
          have d1 := bb.cell 1
          have d2 := bb.cell 2
          have d3 := bb.cell 3
          have d4 := bb.cell 4
          have d5 := bb.cell 5
          have d6 := bb.cell 6
          have d7 := bb.cell 7
          have d8 := bb.cell 8
          have d9 := bb.cell 9
          have d10 := bb.cell 10
          have d11 := bb.cell 11
          simp only [List.getElem?_toArray, List.getElem?_cons_zero, List.getElem?_cons_succ] at d0 d1 d2 d3 d4 d5 d6 d7 d8 d9 d10 d11
          clear bb
          cases hm : meetE t x y with
          | true =>
            have HF := Lib.hid (show R = false by rw [HA2.out]; unfold adjX; rw [hm]; simp)
            have HO := Lib.hid (rover_any t x y w3 hm)
            clear hm hab dab
            go_wp2_with fail
            refine HO.out.mono ?_
            rintro _ w4 ⟨rfl, hb4⟩
            have HX4 := Lib.hid (bst HX.out hb4)
            clear hb4
            go_wp2
            go_ret
            exact RetBe.mk_ HF.out HX4.out
          | false =>
            have HA3 := Lib.hid (show R = (if 0 < cmpR t x.lo y.lo then allTo (gapE t l a b y x) l.length else allTo (gapE t l a b x y) l.length) by rw [HA2.out]; unfold adjX; rw [hm, dab]; simp)
            have HO := Lib.hid (rover_any t x y w3 hm)
            clear hm hab dab
            go_wp2_with fail
            refine HO.out.mono ?_
            rintro _ w4 ⟨rfl, hb4⟩
            have HX4 := Lib.hid (bst HX.out hb4)
            have X14 := Lib.hid (X13.out.below hb4 X13.out.lt)
            have X24 := Lib.hid (X23.out.below hb4 X23.out.lt)
            clear hb4
            clear c0 c1 c2 c3 c4 c5 c6 c7 c8 c9 c10 c11
            clear d0 d1 d2 d3 d4 d5 d6 d7 d8 d9 d10 d11
            have bb := X14.out
            have c0 := bb.cell 0
            have c1 := bb.cell 1
            have c2 := bb.cell 2
            have c3 := bb.cell 3
            have c4 := bb.cell 4
            have c5 := bb.cell 5
            have c6 := bb.cell 6
            have c7 := bb.cell 7
            have c8 := bb.cell 8
            have c9 := bb.cell 9
            have c10 := bb.cell 10
            have c11 := bb.cell 11
            simp only [List.getElem?_toArray, List.getElem?_cons_zero, List.getElem?_cons_succ] at c0 c1 c2 c3 c4 c5 c6 c7 c8 c9 c10 c11
            clear bb
            have bb := X24.out
            have d0 := bb.cell 0
            have d1 := bb.cell 1
            have d2 := bb.cell 2
            have d3 := bb.cell 3
            have d4 := bb.cell 4
            have d5 := bb.cell 5
            have d6 := bb.cell 6
            have d7 := bb.cell 7
            have d8 := bb.cell 8
            have d9 := bb.cell 9
            have d10 := bb.cell 10
            have d11 := bb.cell 11
            simp only [List.getElem?_toArray, List.getElem?_cons_zero, List.getElem?_cons_succ] at d0 d1 d2 d3 d4 d5 d6 d7 d8 d9 d10 d11
            clear bb
            obtain ⟨ck, hck⟩ : ∃ ck, cmpR t x.lo y.lo = ck := ⟨_, rfl⟩
            have HCC := Lib.hid (fun X => show Calls Try.prog 25 #[.int .i64 t, .agg #[.bool x.lo.null, .int .i64 x.lo.n, .string x.lo.s, .int .i64 x.lo.seq], .agg #[.bool y.lo.null, .int .i64 y.lo.n, .string y.lo.s, .int .i64 y.lo.seq]] X (RetN X ck) by rw [← hck]; exact rcmpRank_any t x.lo y.lo X)
            rw [hck] at HA3
            clear hck HO HA2
            go_wp2_with fail
            refine (HCC.out _).mono ?_
            rintro _ w5 ⟨rfl, hb5⟩
            have HX5 := Lib.hid (bst HX4.out hb5)
            have X15 := Lib.hid (X14.out.below hb5 X14.out.lt)
            have X25 := Lib.hid (X24.out.below hb5 X24.out.lt)
            clear hb5
            clear c0 c1 c2 c3 c4 c5 c6 c7 c8 c9 c10 c11
            clear d0 d1 d2 d3 d4 d5 d6 d7 d8 d9 d10 d11
            go_upto_if 56 with (fail)
            go_cut [] from 56 to 58 (fun wx => ∃ ex ey : Ent, Blk wx N1 41 #[.int .i64 ex.id, .int .i64 ex.rows, .int .i64 ex.live, .bool ex.lo.null, .int .i64 ex.lo.n, .string ex.lo.s, .int .i64 ex.lo.seq, .bool ex.hi.null, .int .i64 ex.hi.n, .string ex.hi.s, .int .i64 ex.hi.seq, .int .i64 ex.del] ∧ Blk wx N2 41 #[.int .i64 ey.id, .int .i64 ey.rows, .int .i64 ey.live, .bool ey.lo.null, .int .i64 ey.lo.n, .string ey.lo.s, .int .i64 ey.lo.seq, .bool ey.hi.null, .int .i64 ey.hi.n, .string ey.hi.s, .int .i64 ey.hi.seq, .int .i64 ey.del] ∧ Below w.heap.size w wx ∧ Hid (R = allTo (gapE t l a b ex ey) l.length))
            case first =>
              by_cases h3 : 0 < ck
              · have q3 : decide (0 < ck) = true := by simpa using h3
                have HG := Lib.hid (show R = allTo (gapE t l a b y x) l.length by rw [HA3.out, if_pos h3])
                have bb := X15.out
                have c0 := bb.cell 0
                have c1 := bb.cell 1
                have c2 := bb.cell 2
                have c3 := bb.cell 3
                have c4 := bb.cell 4
                have c5 := bb.cell 5
                have c6 := bb.cell 6
                have c7 := bb.cell 7
                have c8 := bb.cell 8
                have c9 := bb.cell 9
                have c10 := bb.cell 10
                have c11 := bb.cell 11
                simp only [List.getElem?_toArray, List.getElem?_cons_zero, List.getElem?_cons_succ] at c0 c1 c2 c3 c4 c5 c6 c7 c8 c9 c10 c11
                clear bb
                have bb := X25.out
                have d0 := bb.cell 0
                have d1 := bb.cell 1
                have d2 := bb.cell 2
                have d3 := bb.cell 3
                have d4 := bb.cell 4
                have d5 := bb.cell 5
                have d6 := bb.cell 6
                have d7 := bb.cell 7
                have d8 := bb.cell 8
                have d9 := bb.cell 9
                have d10 := bb.cell 10
                have d11 := bb.cell 11
                simp only [List.getElem?_toArray, List.getElem?_cons_zero, List.getElem?_cons_succ] at d0 d1 d2 d3 d4 d5 d6 d7 d8 d9 d10 d11
                clear bb
                have f0 := (X15.out).frozen 0
                have f1 := (X15.out).frozen 1
                have f2 := (X15.out).frozen 2
                have f3 := (X15.out).frozen 3
                have f4 := (X15.out).frozen 4
                have f5 := (X15.out).frozen 5
                have f6 := (X15.out).frozen 6
                have f7 := (X15.out).frozen 7
                have f8 := (X15.out).frozen 8
                have f9 := (X15.out).frozen 9
                have f10 := (X15.out).frozen 10
                have f11 := (X15.out).frozen 11
                have g0 := (X25.out).frozen 0
                have g1 := (X25.out).frozen 1
                have g2 := (X25.out).frozen 2
                have g3 := (X25.out).frozen 3
                have g4 := (X25.out).frozen 4
                have g5 := (X25.out).frozen 5
                have g6 := (X25.out).frozen 6
                have g7 := (X25.out).frozen 7
                have g8 := (X25.out).frozen 8
                have g9 := (X25.out).frozen 9
                have g10 := (X25.out).frozen 10
                have g11 := (X25.out).frozen 11
                have hl1 := X15.out.lt
                have hl2 := X25.out.lt
                go_wp2
                have k1 := grown12 w5 N1 (.int .i64 y.id) (.int .i64 y.rows) (.int .i64 y.live) (.bool y.lo.null) (.int .i64 y.lo.n) (.string y.lo.s) (.int .i64 y.lo.seq) (.bool y.hi.null) (.int .i64 y.hi.n) (.string y.hi.s) (.int .i64 y.hi.seq) (.int .i64 y.del)
                have m1 := blk12 (.int .i64 y.id) (.int .i64 y.rows) (.int .i64 y.live) (.bool y.lo.null) (.int .i64 y.lo.n) (.string y.lo.s) (.int .i64 y.lo.seq) (.bool y.hi.null) (.int .i64 y.hi.n) (.string y.hi.s) (.int .i64 y.hi.seq) (.int .i64 y.del) X15.out
                have m2 := X25.out.row k1 (by omega)
                have m3 := below_row HX5.out k1 hN1w HX5.out.size
                obtain ⟨V, hV⟩ : ∃ V, V = (((((((((((w5.setCell ⟨N1, 0, none⟩ (.int .i64 y.id)).setCell ⟨N1, 1, none⟩ (.int .i64 y.rows)).setCell ⟨N1, 2, none⟩ (.int .i64 y.live)).setCell ⟨N1, 3, none⟩ (.bool y.lo.null)).setCell ⟨N1, 4, none⟩ (.int .i64 y.lo.n)).setCell ⟨N1, 5, none⟩ (.string y.lo.s)).setCell ⟨N1, 6, none⟩ (.int .i64 y.lo.seq)).setCell ⟨N1, 7, none⟩ (.bool y.hi.null)).setCell ⟨N1, 8, none⟩ (.int .i64 y.hi.n)).setCell ⟨N1, 9, none⟩ (.string y.hi.s)).setCell ⟨N1, 10, none⟩ (.int .i64 y.hi.seq)).setCell ⟨N1, 11, none⟩ (.int .i64 y.del) := ⟨_, rfl⟩
                rw [← hV] at k1 m1 m2 m3 ⊢
                clear hV
                have k2 := grown12 V N2 (.int .i64 x.id) (.int .i64 x.rows) (.int .i64 x.live) (.bool x.lo.null) (.int .i64 x.lo.n) (.string x.lo.s) (.int .i64 x.lo.seq) (.bool x.hi.null) (.int .i64 x.hi.n) (.string x.hi.s) (.int .i64 x.hi.seq) (.int .i64 x.del)
                have n2 := blk12 (.int .i64 x.id) (.int .i64 x.rows) (.int .i64 x.live) (.bool x.lo.null) (.int .i64 x.lo.n) (.string x.lo.s) (.int .i64 x.lo.seq) (.bool x.hi.null) (.int .i64 x.hi.n) (.string x.hi.s) (.int .i64 x.hi.seq) (.int .i64 x.del) m2
                have n1 := m1.row k2 (by omega)
                have n3 := below_row m3 k2 (by omega) m3.size
                go_meet
                exact ⟨y, x, n1, n2, n3, HG⟩
              · have q3 : decide (0 < ck) = false := by simpa using h3
                have HG := Lib.hid (show R = allTo (gapE t l a b x y) l.length by rw [HA3.out, if_neg h3])
                go_wp2
                go_meet
                exact ⟨x, y, X15.out, X25.out, HX5.out, HG⟩
            case rest =>
              obtain ⟨ex, ey, x1, x2, hxx, HG⟩ := hcut
              have Y1 := Lib.hid x1
              have Y2 := Lib.hid x2
              have HXC := Lib.hid hxx
              clear x1 x2 hxx
              go_wp2
              go_loopw [61] (fun i wr => ∃ j : Nat, j ≤ l.length ∧ i = .int .i64 j ∧ Below wc.heap.size wc wr ∧ Hid (allTo (gapE t l a b ex ey) j = true)) (fun i _ => l.length - (intOf i).toNat)
              case atStart => exact ⟨0, by omega, rfl, Below.refl _ _, Lib.hid rfl⟩
              case round =>
                obtain ⟨j, hj, rfl, hbel, hall⟩ := hrel
                by_cases hlt : j < l.length
                · obtain ⟨ad, e, p, rfl, he, hp, hE⟩ := ((HS.out.below HXC.out).below hbel).ent_load rfl hlt
                  obtain ⟨hplt, c0, c1, c2, c3, c4, c5, c6, c7, c8, c9, c10, c11⟩ := hE
                  have HGG := Lib.hid (gapE_get (t := t) (a := a) (b := b) (ex := ex) (ey := ey) he)
                  have HLT := Lib.hid hlt
                  clear he hlt
                  obtain ⟨U, hU⟩ : ∃ U, U = wr.alloc (.cells #[.int .i64 e.id, .int .i64 e.rows, .int .i64 e.live, .bool e.lo.null, .int .i64 e.lo.n, .string e.lo.s, .int .i64 e.lo.seq, .bool e.hi.null, .int .i64 e.hi.n, .string e.hi.s, .int .i64 e.hi.seq, .int .i64 e.del] 41) := ⟨_, rfl⟩
                  have HBU := Lib.hid (show Below wc.heap.size wc U by rw [hU]; exact hbel.alloc hbel.size _)
                  have BE := Lib.hid (show Blk U wr.heap.size 41 #[.int .i64 e.id, .int .i64 e.rows, .int .i64 e.live, .bool e.lo.null, .int .i64 e.lo.n, .string e.lo.s, .int .i64 e.lo.seq, .bool e.hi.null, .int .i64 e.hi.n, .string e.hi.s, .int .i64 e.hi.seq, .int .i64 e.del] by rw [hU]; exact Blk.new _ _ _)
                  have YU1 := Lib.hid (Y1.out.below HBU.out Y1.out.lt)
                  have YU2 := Lib.hid (Y2.out.below HBU.out Y2.out.lt)
                  clear hbel
                  obtain ⟨k1, hk1⟩ : ∃ q, cmpR t e.hi ex.hi = q := ⟨_, rfl⟩
                  obtain ⟨k2, hk2⟩ : ∃ q, cmpR t e.lo ey.lo = q := ⟨_, rfl⟩
                  have A1 := Lib.hid (fun X => show Calls Try.prog 25 #[.int .i64 t, .agg #[.bool e.hi.null, .int .i64 e.hi.n, .string e.hi.s, .int .i64 e.hi.seq], .agg #[.bool ex.hi.null, .int .i64 ex.hi.n, .string ex.hi.s, .int .i64 ex.hi.seq]] X (RetN X k1) by rw [← hk1]; exact rcmpRank_any t e.hi ex.hi X)
                  have A2 := Lib.hid (fun X => show Calls Try.prog 25 #[.int .i64 t, .agg #[.bool e.lo.null, .int .i64 e.lo.n, .string e.lo.s, .int .i64 e.lo.seq], .agg #[.bool ey.lo.null, .int .i64 ey.lo.n, .string ey.lo.s, .int .i64 ey.lo.seq]] X (RetN X k2) by rw [← hk2]; exact rcmpRank_any t e.lo ey.lo X)
                  rw [hk1, hk2] at HGG
                  clear hk1 hk2
                  have bb := BE.out
                  have d0 := bb.cell 0
                  have d1 := bb.cell 1
                  have d2 := bb.cell 2
                  have d3 := bb.cell 3
                  have d4 := bb.cell 4
                  have d5 := bb.cell 5
                  have d6 := bb.cell 6
                  have d7 := bb.cell 7
                  have d8 := bb.cell 8
                  have d9 := bb.cell 9
                  have d10 := bb.cell 10
                  have d11 := bb.cell 11
                  simp only [List.getElem?_toArray, List.getElem?_cons_zero, List.getElem?_cons_succ] at d0 d1 d2 d3 d4 d5 d6 d7 d8 d9 d10 d11
                  clear bb
                  have bb := YU1.out
                  have x0 := bb.cell 0
                  have x1 := bb.cell 1
                  have x2 := bb.cell 2
                  have x3 := bb.cell 3
                  have x4 := bb.cell 4
                  have x5 := bb.cell 5
                  have x6 := bb.cell 6
                  have x7 := bb.cell 7
                  have x8 := bb.cell 8
                  have x9 := bb.cell 9
                  have x10 := bb.cell 10
                  have x11 := bb.cell 11
                  simp only [List.getElem?_toArray, List.getElem?_cons_zero, List.getElem?_cons_succ] at x0 x1 x2 x3 x4 x5 x6 x7 x8 x9 x10 x11
                  clear bb
                  have bb := YU2.out
                  have y0 := bb.cell 0
                  have y1 := bb.cell 1
                  have y2 := bb.cell 2
                  have y3 := bb.cell 3
                  have y4 := bb.cell 4
                  have y5 := bb.cell 5
                  have y6 := bb.cell 6
                  have y7 := bb.cell 7
                  have y8 := bb.cell 8
                  have y9 := bb.cell 9
                  have y10 := bb.cell 10
                  have y11 := bb.cell 11
                  simp only [List.getElem?_toArray, List.getElem?_cons_zero, List.getElem?_cons_succ] at y0 y1 y2 y3 y4 y5 y6 y7 y8 y9 y10 y11
                  clear bb
                  go_upto_region 10 with (fail)
                  rw [← hU]
                  clear hU
                  by_cases hja : e.id = a
                  · have q3 : (e.id != a) = false := by simpa using hja
                    have HN := Lib.hid (show allTo (gapE t l a b ex ey) (j + 1) = true from allTo_next hall.out (by rw [HGG.out]; simp [hja]))
                    clear hja
                    go_wp2
                    go_roundw
                    case rel => exact ⟨j + 1, HLT.out, by go_num, HBU.out, HN⟩
                    case measure => have := HLT.out; simp [intOf]; omega
                  · have q3 : (e.id != a) = true := by simpa using hja
                    by_cases hjb : e.id = b
                    · have q4 : (e.id != b) = false := by simpa using hjb
                      have HN := Lib.hid (show allTo (gapE t l a b ex ey) (j + 1) = true from allTo_next hall.out (by rw [HGG.out]; simp [hjb]))
                      clear hja hjb
                      go_wp2
                      go_roundw
                      case rel => exact ⟨j + 1, HLT.out, by go_num, HBU.out, HN⟩
                      case measure => have := HLT.out; simp [intOf]; omega
                    · have q4 : (e.id != b) = true := by simpa using hjb
                      by_cases h1 : 0 < k1
                      · have q5 : decide (0 < k1) = true := by simpa using h1
                        by_cases h2 : k2 < 0
                        · have q6 : decide (k2 < 0) = true := by simpa using h2
                          have HN := Lib.hid (show R = false by rw [HG.out]; exact allTo_false HLT.out (by rw [HGG.out]; simp [hja, hjb, h1, h2]))
                          clear hja hjb h1 h2
                          go_wp2_with fail
                          refine (A1.out _).mono ?_
                          rintro _ w6 ⟨rfl, hbq⟩
                          have HBw6 := Lib.hid (HBU.out.trans (hbq.mono HBU.out.size))
                          have Ew6 := Lib.hid (BE.out.below hbq BE.out.lt)
                          have Pw6 := Lib.hid (YU1.out.below hbq YU1.out.lt)
                          have Qw6 := Lib.hid (YU2.out.below hbq YU2.out.lt)
                          clear hbq
                          clear d0 d1 d2 d3 d4 d5 d6 d7 d8 d9 d10 d11
                          clear x0 x1 x2 x3 x4 x5 x6 x7 x8 x9 x10 x11
                          clear y0 y1 y2 y3 y4 y5 y6 y7 y8 y9 y10 y11
                          have bb := Ew6.out
                          have d0 := bb.cell 0
                          have d1 := bb.cell 1
                          have d2 := bb.cell 2
                          have d3 := bb.cell 3
                          have d4 := bb.cell 4
                          have d5 := bb.cell 5
                          have d6 := bb.cell 6
                          have d7 := bb.cell 7
                          have d8 := bb.cell 8
                          have d9 := bb.cell 9
                          have d10 := bb.cell 10
                          have d11 := bb.cell 11
                          simp only [List.getElem?_toArray, List.getElem?_cons_zero, List.getElem?_cons_succ] at d0 d1 d2 d3 d4 d5 d6 d7 d8 d9 d10 d11
                          clear bb
                          have bb := Pw6.out
                          have x0 := bb.cell 0
                          have x1 := bb.cell 1
                          have x2 := bb.cell 2
                          have x3 := bb.cell 3
                          have x4 := bb.cell 4
                          have x5 := bb.cell 5
                          have x6 := bb.cell 6
                          have x7 := bb.cell 7
                          have x8 := bb.cell 8
                          have x9 := bb.cell 9
                          have x10 := bb.cell 10
                          have x11 := bb.cell 11
                          simp only [List.getElem?_toArray, List.getElem?_cons_zero, List.getElem?_cons_succ] at x0 x1 x2 x3 x4 x5 x6 x7 x8 x9 x10 x11
                          clear bb
                          have bb := Qw6.out
                          have y0 := bb.cell 0
                          have y1 := bb.cell 1
                          have y2 := bb.cell 2
                          have y3 := bb.cell 3
                          have y4 := bb.cell 4
                          have y5 := bb.cell 5
                          have y6 := bb.cell 6
                          have y7 := bb.cell 7
                          have y8 := bb.cell 8
                          have y9 := bb.cell 9
                          have y10 := bb.cell 10
                          have y11 := bb.cell 11
                          simp only [List.getElem?_toArray, List.getElem?_cons_zero, List.getElem?_cons_succ] at y0 y1 y2 y3 y4 y5 y6 y7 y8 y9 y10 y11
                          clear bb
                          go_wp2_with fail
                          refine (A2.out _).mono ?_
                          rintro _ w7 ⟨rfl, hbq⟩
                          have HBw7 := Lib.hid (HBw6.out.trans (hbq.mono HBw6.out.size))
                          have Ew7 := Lib.hid (Ew6.out.below hbq Ew6.out.lt)
                          have Pw7 := Lib.hid (Pw6.out.below hbq Pw6.out.lt)
                          have Qw7 := Lib.hid (Qw6.out.below hbq Qw6.out.lt)
                          clear hbq
                          clear d0 d1 d2 d3 d4 d5 d6 d7 d8 d9 d10 d11
                          clear x0 x1 x2 x3 x4 x5 x6 x7 x8 x9 x10 x11
                          clear y0 y1 y2 y3 y4 y5 y6 y7 y8 y9 y10 y11
                          have bb := Ew7.out
                          have d0 := bb.cell 0
                          have d1 := bb.cell 1
                          have d2 := bb.cell 2
                          have d3 := bb.cell 3
                          have d4 := bb.cell 4
                          have d5 := bb.cell 5
                          have d6 := bb.cell 6
                          have d7 := bb.cell 7
                          have d8 := bb.cell 8
                          have d9 := bb.cell 9
                          have d10 := bb.cell 10
                          have d11 := bb.cell 11
                          simp only [List.getElem?_toArray, List.getElem?_cons_zero, List.getElem?_cons_succ] at d0 d1 d2 d3 d4 d5 d6 d7 d8 d9 d10 d11
                          clear bb
                          have bb := Pw7.out
                          have x0 := bb.cell 0
                          have x1 := bb.cell 1
                          have x2 := bb.cell 2
                          have x3 := bb.cell 3
                          have x4 := bb.cell 4
                          have x5 := bb.cell 5
                          have x6 := bb.cell 6
                          have x7 := bb.cell 7
                          have x8 := bb.cell 8
                          have x9 := bb.cell 9
                          have x10 := bb.cell 10
                          have x11 := bb.cell 11
                          simp only [List.getElem?_toArray, List.getElem?_cons_zero, List.getElem?_cons_succ] at x0 x1 x2 x3 x4 x5 x6 x7 x8 x9 x10 x11
                          clear bb
                          have bb := Qw7.out
                          have y0 := bb.cell 0
                          have y1 := bb.cell 1
                          have y2 := bb.cell 2
                          have y3 := bb.cell 3
                          have y4 := bb.cell 4
                          have y5 := bb.cell 5
                          have y6 := bb.cell 6
                          have y7 := bb.cell 7
                          have y8 := bb.cell 8
                          have y9 := bb.cell 9
                          have y10 := bb.cell 10
                          have y11 := bb.cell 11
                          simp only [List.getElem?_toArray, List.getElem?_cons_zero, List.getElem?_cons_succ] at y0 y1 y2 y3 y4 y5 y6 y7 y8 y9 y10 y11
                          clear bb
                          go_wp2
                          go_ret
                          exact RetBe.mk_ HN.out (bst HXC.out HBw7.out)
                        · have q6 : decide (k2 < 0) = false := by simpa using h2
                          have HN := Lib.hid (show allTo (gapE t l a b ex ey) (j + 1) = true from allTo_next hall.out (by rw [HGG.out]; simp [hja, hjb, h1, h2]))
                          clear hja hjb h1 h2
                          go_wp2_with fail
                          refine (A1.out _).mono ?_
                          rintro _ w6 ⟨rfl, hbq⟩
                          have HBw6 := Lib.hid (HBU.out.trans (hbq.mono HBU.out.size))
                          have Ew6 := Lib.hid (BE.out.below hbq BE.out.lt)
                          have Pw6 := Lib.hid (YU1.out.below hbq YU1.out.lt)
                          have Qw6 := Lib.hid (YU2.out.below hbq YU2.out.lt)
                          clear hbq
                          clear d0 d1 d2 d3 d4 d5 d6 d7 d8 d9 d10 d11
                          clear x0 x1 x2 x3 x4 x5 x6 x7 x8 x9 x10 x11
                          clear y0 y1 y2 y3 y4 y5 y6 y7 y8 y9 y10 y11
                          have bb := Ew6.out
                          have d0 := bb.cell 0
                          have d1 := bb.cell 1
                          have d2 := bb.cell 2
                          have d3 := bb.cell 3
                          have d4 := bb.cell 4
                          have d5 := bb.cell 5
                          have d6 := bb.cell 6
                          have d7 := bb.cell 7
                          have d8 := bb.cell 8
                          have d9 := bb.cell 9
                          have d10 := bb.cell 10
                          have d11 := bb.cell 11
                          simp only [List.getElem?_toArray, List.getElem?_cons_zero, List.getElem?_cons_succ] at d0 d1 d2 d3 d4 d5 d6 d7 d8 d9 d10 d11
                          clear bb
                          have bb := Pw6.out
                          have x0 := bb.cell 0
                          have x1 := bb.cell 1
                          have x2 := bb.cell 2
                          have x3 := bb.cell 3
                          have x4 := bb.cell 4
                          have x5 := bb.cell 5
                          have x6 := bb.cell 6
                          have x7 := bb.cell 7
                          have x8 := bb.cell 8
                          have x9 := bb.cell 9
                          have x10 := bb.cell 10
                          have x11 := bb.cell 11
                          simp only [List.getElem?_toArray, List.getElem?_cons_zero, List.getElem?_cons_succ] at x0 x1 x2 x3 x4 x5 x6 x7 x8 x9 x10 x11
                          clear bb
                          have bb := Qw6.out
                          have y0 := bb.cell 0
                          have y1 := bb.cell 1
                          have y2 := bb.cell 2
                          have y3 := bb.cell 3
                          have y4 := bb.cell 4
                          have y5 := bb.cell 5
                          have y6 := bb.cell 6
                          have y7 := bb.cell 7
                          have y8 := bb.cell 8
                          have y9 := bb.cell 9
                          have y10 := bb.cell 10
                          have y11 := bb.cell 11
                          simp only [List.getElem?_toArray, List.getElem?_cons_zero, List.getElem?_cons_succ] at y0 y1 y2 y3 y4 y5 y6 y7 y8 y9 y10 y11
                          clear bb
                          go_wp2_with fail
                          refine (A2.out _).mono ?_
                          rintro _ w7 ⟨rfl, hbq⟩
                          have HBw7 := Lib.hid (HBw6.out.trans (hbq.mono HBw6.out.size))
                          have Ew7 := Lib.hid (Ew6.out.below hbq Ew6.out.lt)
                          have Pw7 := Lib.hid (Pw6.out.below hbq Pw6.out.lt)
                          have Qw7 := Lib.hid (Qw6.out.below hbq Qw6.out.lt)
                          clear hbq
                          clear d0 d1 d2 d3 d4 d5 d6 d7 d8 d9 d10 d11
                          clear x0 x1 x2 x3 x4 x5 x6 x7 x8 x9 x10 x11
                          clear y0 y1 y2 y3 y4 y5 y6 y7 y8 y9 y10 y11
                          have bb := Ew7.out
                          have d0 := bb.cell 0
                          have d1 := bb.cell 1
                          have d2 := bb.cell 2
                          have d3 := bb.cell 3
                          have d4 := bb.cell 4
                          have d5 := bb.cell 5
                          have d6 := bb.cell 6
                          have d7 := bb.cell 7
                          have d8 := bb.cell 8
                          have d9 := bb.cell 9
                          have d10 := bb.cell 10
                          have d11 := bb.cell 11
                          simp only [List.getElem?_toArray, List.getElem?_cons_zero, List.getElem?_cons_succ] at d0 d1 d2 d3 d4 d5 d6 d7 d8 d9 d10 d11
                          clear bb
                          have bb := Pw7.out
                          have x0 := bb.cell 0
                          have x1 := bb.cell 1
                          have x2 := bb.cell 2
                          have x3 := bb.cell 3
                          have x4 := bb.cell 4
                          have x5 := bb.cell 5
                          have x6 := bb.cell 6
                          have x7 := bb.cell 7
                          have x8 := bb.cell 8
                          have x9 := bb.cell 9
                          have x10 := bb.cell 10
                          have x11 := bb.cell 11
                          simp only [List.getElem?_toArray, List.getElem?_cons_zero, List.getElem?_cons_succ] at x0 x1 x2 x3 x4 x5 x6 x7 x8 x9 x10 x11
                          clear bb
                          have bb := Qw7.out
                          have y0 := bb.cell 0
                          have y1 := bb.cell 1
                          have y2 := bb.cell 2
                          have y3 := bb.cell 3
                          have y4 := bb.cell 4
                          have y5 := bb.cell 5
                          have y6 := bb.cell 6
                          have y7 := bb.cell 7
                          have y8 := bb.cell 8
                          have y9 := bb.cell 9
                          have y10 := bb.cell 10
                          have y11 := bb.cell 11
                          simp only [List.getElem?_toArray, List.getElem?_cons_zero, List.getElem?_cons_succ] at y0 y1 y2 y3 y4 y5 y6 y7 y8 y9 y10 y11
                          clear bb
                          go_wp2
                          go_roundw
                          case rel => exact ⟨j + 1, HLT.out, by go_num, HBw7.out, HN⟩
                          case measure => have := HLT.out; simp [intOf]; omega
                      · have q5 : decide (0 < k1) = false := by simpa using h1
                        have HN := Lib.hid (show allTo (gapE t l a b ex ey) (j + 1) = true from allTo_next hall.out (by rw [HGG.out]; simp [hja, hjb, h1]))
                        clear hja hjb h1
                        go_wp2_with fail
                        refine (A1.out _).mono ?_
                        rintro _ w6 ⟨rfl, hbq⟩
                        have HBw6 := Lib.hid (HBU.out.trans (hbq.mono HBU.out.size))
                        have Ew6 := Lib.hid (BE.out.below hbq BE.out.lt)
                        have Pw6 := Lib.hid (YU1.out.below hbq YU1.out.lt)
                        have Qw6 := Lib.hid (YU2.out.below hbq YU2.out.lt)
                        clear hbq
                        clear d0 d1 d2 d3 d4 d5 d6 d7 d8 d9 d10 d11
                        clear x0 x1 x2 x3 x4 x5 x6 x7 x8 x9 x10 x11
                        clear y0 y1 y2 y3 y4 y5 y6 y7 y8 y9 y10 y11
                        have bb := Ew6.out
                        have d0 := bb.cell 0
                        have d1 := bb.cell 1
                        have d2 := bb.cell 2
                        have d3 := bb.cell 3
                        have d4 := bb.cell 4
                        have d5 := bb.cell 5
                        have d6 := bb.cell 6
                        have d7 := bb.cell 7
                        have d8 := bb.cell 8
                        have d9 := bb.cell 9
                        have d10 := bb.cell 10
                        have d11 := bb.cell 11
                        simp only [List.getElem?_toArray, List.getElem?_cons_zero, List.getElem?_cons_succ] at d0 d1 d2 d3 d4 d5 d6 d7 d8 d9 d10 d11
                        clear bb
                        have bb := Pw6.out
                        have x0 := bb.cell 0
                        have x1 := bb.cell 1
                        have x2 := bb.cell 2
                        have x3 := bb.cell 3
                        have x4 := bb.cell 4
                        have x5 := bb.cell 5
                        have x6 := bb.cell 6
                        have x7 := bb.cell 7
                        have x8 := bb.cell 8
                        have x9 := bb.cell 9
                        have x10 := bb.cell 10
                        have x11 := bb.cell 11
                        simp only [List.getElem?_toArray, List.getElem?_cons_zero, List.getElem?_cons_succ] at x0 x1 x2 x3 x4 x5 x6 x7 x8 x9 x10 x11
                        clear bb
                        have bb := Qw6.out
                        have y0 := bb.cell 0
                        have y1 := bb.cell 1
                        have y2 := bb.cell 2
                        have y3 := bb.cell 3
                        have y4 := bb.cell 4
                        have y5 := bb.cell 5
                        have y6 := bb.cell 6
                        have y7 := bb.cell 7
                        have y8 := bb.cell 8
                        have y9 := bb.cell 9
                        have y10 := bb.cell 10
                        have y11 := bb.cell 11
                        simp only [List.getElem?_toArray, List.getElem?_cons_zero, List.getElem?_cons_succ] at y0 y1 y2 y3 y4 y5 y6 y7 y8 y9 y10 y11
                        clear bb
                        go_wp2
                        go_roundw
                        case rel => exact ⟨j + 1, HLT.out, by go_num, HBw6.out, HN⟩
                        case measure => have := HLT.out; simp [intOf]; omega
                · have HF := Lib.hid (show R = true by rw [HG.out, show l.length = j by omega]; exact hall.out)
                  have HX9 := Lib.hid (bst HXC.out hbel)
                  clear hbel
                  go_wp2
                  go_ret
                  exact RetBe.mk_ HF.out HX9.out
end Go.Proofs.Ytcjekbncllccbaa
