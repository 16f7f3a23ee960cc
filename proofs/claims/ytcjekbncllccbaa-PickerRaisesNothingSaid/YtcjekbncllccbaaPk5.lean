/-
  The contract of ref27.Pair.
-/
import Derived.Test.YtcjekbncllccbaaPk4
namespace Go.Proofs.Ytcjekbncllccbaa
open Go.RowKit Go.Sort

def pairE (S : Option (Ent × Ent)) : Ent × Ent := S.getD (ent00, ent00)
def RetPair (w : World) (S : Option (Ent × Ent)) (e : Ending) (w' : World) : Prop := e = .returned (.tuple #[.int .i64 (pairE S).1.id, .int .i64 (pairE S).2.id, .bool S.isSome]) ∧ Below w.heap.size w w'
def pairV (t : Int) (l : List Ent) (L : List (Ent × Ent)) : Option (Ent × Ent) := if chkEs t l = true then minOf (pairLt t) L else none
theorem minOf_snoc {α : Type} {lt : α → α → Bool} {l : List α} {x : α} : minOf lt (l ++ [x]) = minStep lt (minOf lt l) x := by unfold minOf; rw [List.foldl_append]; rfl
def betterB (t : Int) (S : Option (Ent × Ent)) (q : Ent × Ent) : Bool := match S with | none => true | some s => pairLt t q s
theorem minStep_better {t : Int} {S : Option (Ent × Ent)} {q : Ent × Ent} : minStep (pairLt t) S q = if betterB t S q = true then some q else S := by
  cases S with
  | none => rfl
  | some s => rfl
set_option maxRecDepth 100000 in
set_option maxHeartbeats 8000000 in
theorem rpair_any (t : Int) (v : Value) (l : List Ent) (rows : Int) (w : World) (hs : Sl w 12 v l.length (ents l)) (hw : ∀ e ∈ l, e.small) (hl : l.length ≤ 1000000) (hlv : ∀ e ∈ l, -1000000 ≤ e.live ∧ e.live ≤ 1000000)
    (hadj : chkEs t l = true → ∀ x ∈ l, ∀ y ∈ l, beforeB t x y = true → meetE t x y = false → adjR t l x.id y.id = adjE t l x y) :
    Calls Try.prog 28 #[.int .i64 t, v, .int .i64 rows] w (RetPair w (pairV t l (candR t l rows l.length))) := by
  obtain ⟨A, c, rfl, hc1, hc2⟩ := hs.form
  have HC := Lib.hid (rchkEs_any t (.slice A l.length c) l w hs hw hl)
  have HAJ := Lib.hid (fun X (hX : Below w.heap.size w X) a b => radjacent_any t (.slice A l.length c) l a b X (hs.below hX) hw hl)
  have HS := Lib.hid hs
  have HLV := Lib.hid hlv
  clear hs hw hlv
  go_enter Try.func28, Try.ntmps28
  go_wp2_with fail
  refine HC.out.mono ?_
  cases hck : chkEs t l with
  | false =>
    have HF := Lib.hid (show pairV t l (candR t l rows l.length) = none by unfold pairV; rw [if_neg (by simp [hck])])
    clear hck HC
    rintro _ w2 ⟨rfl, hb2⟩
    have HX := Lib.hid hb2
    clear hb2
    go_wp2
    exact bodyPost_ret (v := .tuple #[.int .i64 0, .int .i64 0, .bool false]) (by simp [results, Try.results28, go_sem]) rfl ⟨by rw [HF.out]; rfl, HX.out⟩
  | true =>
    have HF := Lib.hid (show pairV t l (candR t l rows l.length) = minOf (pairLt t) (candR t l rows l.length) by unfold pairV; rw [if_pos hck])
    have HAD := Lib.hid (hadj hck)
    clear hck HC hadj
    rintro _ w2 ⟨rfl, hb2⟩
    obtain ⟨N1, hN1⟩ : ∃ N, w2.heap.size = N := ⟨_, rfl⟩
    obtain ⟨W3, hW3⟩ : ∃ W3, W3 = (w2.alloc (.cells #[.int .i64 0, .int .i64 0, .int .i64 0, .bool false, .int .i64 0, .string { data := #[] }, .int .i64 0, .bool false, .int .i64 0, .string { data := #[] }, .int .i64 0, .int .i64 0] 41)).alloc (.cells #[.int .i64 0, .int .i64 0, .int .i64 0, .bool false, .int .i64 0, .string { data := #[] }, .int .i64 0, .bool false, .int .i64 0, .string { data := #[] }, .int .i64 0, .int .i64 0] 41) := ⟨_, rfl⟩
    have B1 := Lib.hid (show Blk W3 N1 41 #[.int .i64 0, .int .i64 0, .int .i64 0, .bool false, .int .i64 0, .string { data := #[] }, .int .i64 0, .bool false, .int .i64 0, .string { data := #[] }, .int .i64 0, .int .i64 0] by rw [hW3, ← hN1]; exact (Blk.new _ _ _).alloc _)
    have B2 := Lib.hid (show Blk W3 (N1 + 1) 41 #[.int .i64 0, .int .i64 0, .int .i64 0, .bool false, .int .i64 0, .string { data := #[] }, .int .i64 0, .bool false, .int .i64 0, .string { data := #[] }, .int .i64 0, .int .i64 0] by
      have := Blk.new (w2.alloc (.cells #[.int .i64 0, .int .i64 0, .int .i64 0, .bool false, .int .i64 0, .string { data := #[] }, .int .i64 0, .bool false, .int .i64 0, .string { data := #[] }, .int .i64 0, .int .i64 0] 41)) 41 #[.int .i64 0, .int .i64 0, .int .i64 0, .bool false, .int .i64 0, .string { data := #[] }, .int .i64 0, .bool false, .int .i64 0, .string { data := #[] }, .int .i64 0, .int .i64 0]
      rw [hW3, ← hN1]; simpa using this)
    have HB3 := Lib.hid (show Below w.heap.size w W3 by rw [hW3]; exact (hb2.alloc hb2.size _).alloc (by have := hb2.size; simp; omega) _)
    have hN1w : w.heap.size ≤ N1 := by rw [← hN1]; exact hb2.size
    clear hb2
    go_upto_region 5 with (fail)
    rw [← hW3]
    try simp only [hN1]
    clear hW3 hN1
    go_wp2
    go_loopw [11, 22] (fun f i wr => ∃ (m : Nat) (S : Option (Ent × Ent)), m ≤ l.length ∧ i = .int .i64 m ∧ f = .bool S.isSome ∧ Hid (minOf (pairLt t) (candR t l rows m) = S) ∧ Blk wr N1 41 #[.int .i64 (pairE S).1.id, .int .i64 (pairE S).1.rows, .int .i64 (pairE S).1.live, .bool (pairE S).1.lo.null, .int .i64 (pairE S).1.lo.n, .string (pairE S).1.lo.s, .int .i64 (pairE S).1.lo.seq, .bool (pairE S).1.hi.null, .int .i64 (pairE S).1.hi.n, .string (pairE S).1.hi.s, .int .i64 (pairE S).1.hi.seq, .int .i64 (pairE S).1.del] ∧ Blk wr (N1 + 1) 41 #[.int .i64 (pairE S).2.id, .int .i64 (pairE S).2.rows, .int .i64 (pairE S).2.live, .bool (pairE S).2.lo.null, .int .i64 (pairE S).2.lo.n, .string (pairE S).2.lo.s, .int .i64 (pairE S).2.lo.seq, .bool (pairE S).2.hi.null, .int .i64 (pairE S).2.hi.n, .string (pairE S).2.hi.s, .int .i64 (pairE S).2.hi.seq, .int .i64 (pairE S).2.del] ∧ Below w.heap.size w wr) (fun _ i _ => l.length - (intOf i).toNat)
    case atStart => exact ⟨0, none, by omega, rfl, rfl, Lib.hid rfl, B1.out, B2.out, HB3.out⟩
    case round =>
      obtain ⟨m, S, hm, rfl, rfl, hS, b1, b2, hbel⟩ := hrel
      by_cases hlt : m < l.length
      · obtain ⟨ad, x, px, rfl, hx, hpx, hE⟩ := (HS.out.below hbel).ent_load rfl hlt
        obtain ⟨hplt, c0, c1, c2, c3, c4, c5, c6, c7, c8, c9, c10, c11⟩ := hE
        have HXL := Lib.hid hx
        have HMT := Lib.hid hlt
        obtain ⟨N3, hN3⟩ : ∃ N, wr.heap.size = N := ⟨_, rfl⟩
        obtain ⟨U, hU⟩ : ∃ U, U = wr.alloc (.cells #[.int .i64 x.id, .int .i64 x.rows, .int .i64 x.live, .bool x.lo.null, .int .i64 x.lo.n, .string x.lo.s, .int .i64 x.lo.seq, .bool x.hi.null, .int .i64 x.hi.n, .string x.hi.s, .int .i64 x.hi.seq, .int .i64 x.del] 41) := ⟨_, rfl⟩
        have UB := Lib.hid (show Below w.heap.size w U by rw [hU]; exact hbel.alloc hbel.size _)
        have UX := Lib.hid (show Blk U N3 41 #[.int .i64 x.id, .int .i64 x.rows, .int .i64 x.live, .bool x.lo.null, .int .i64 x.lo.n, .string x.lo.s, .int .i64 x.lo.seq, .bool x.hi.null, .int .i64 x.hi.n, .string x.hi.s, .int .i64 x.hi.seq, .int .i64 x.del] by rw [hU, ← hN3]; exact Blk.new _ _ _)
        have U1 := Lib.hid (show Blk U N1 41 #[.int .i64 (pairE S).1.id, .int .i64 (pairE S).1.rows, .int .i64 (pairE S).1.live, .bool (pairE S).1.lo.null, .int .i64 (pairE S).1.lo.n, .string (pairE S).1.lo.s, .int .i64 (pairE S).1.lo.seq, .bool (pairE S).1.hi.null, .int .i64 (pairE S).1.hi.n, .string (pairE S).1.hi.s, .int .i64 (pairE S).1.hi.seq, .int .i64 (pairE S).1.del] by rw [hU]; exact b1.alloc _)
        have U2 := Lib.hid (show Blk U (N1 + 1) 41 #[.int .i64 (pairE S).2.id, .int .i64 (pairE S).2.rows, .int .i64 (pairE S).2.live, .bool (pairE S).2.lo.null, .int .i64 (pairE S).2.lo.n, .string (pairE S).2.lo.s, .int .i64 (pairE S).2.lo.seq, .bool (pairE S).2.hi.null, .int .i64 (pairE S).2.hi.n, .string (pairE S).2.hi.s, .int .i64 (pairE S).2.hi.seq, .int .i64 (pairE S).2.del] by rw [hU]; exact b2.alloc _)
        have hN3a : N1 < N3 := by rw [← hN3]; exact b1.lt
        have hN3b : N1 + 1 < N3 := by rw [← hN3]; exact b2.lt
        have hlx := HLV.out x (List.mem_of_getElem? hx)
        have qm : decide (m < l.length) = true := by simpa using hlt
        clear hx b1 b2 hbel
        go_upto_region 8 with (fail)
        rw [← hU]
        try simp only [hN3]
        clear hU hN3 c0 c1 c2 c3 c4 c5 c6 c7 c8 c9 c10 c11 hpx hplt
        obtain ⟨w0r, hw0r⟩ : ∃ q : World, q = wr := ⟨_, rfl⟩
        go_wp2
        go_loopw [11, 28] (fun f i wi => ∃ (n : Nat) (S : Option (Ent × Ent)), n ≤ l.length ∧ i = .int .i64 n ∧ f = .bool S.isSome ∧ Hid (minOf (pairLt t) (candR t l rows m ++ candJ t l rows x n) = S) ∧ Blk wi N1 41 #[.int .i64 (pairE S).1.id, .int .i64 (pairE S).1.rows, .int .i64 (pairE S).1.live, .bool (pairE S).1.lo.null, .int .i64 (pairE S).1.lo.n, .string (pairE S).1.lo.s, .int .i64 (pairE S).1.lo.seq, .bool (pairE S).1.hi.null, .int .i64 (pairE S).1.hi.n, .string (pairE S).1.hi.s, .int .i64 (pairE S).1.hi.seq, .int .i64 (pairE S).1.del] ∧ Blk wi (N1 + 1) 41 #[.int .i64 (pairE S).2.id, .int .i64 (pairE S).2.rows, .int .i64 (pairE S).2.live, .bool (pairE S).2.lo.null, .int .i64 (pairE S).2.lo.n, .string (pairE S).2.lo.s, .int .i64 (pairE S).2.lo.seq, .bool (pairE S).2.hi.null, .int .i64 (pairE S).2.hi.n, .string (pairE S).2.hi.s, .int .i64 (pairE S).2.hi.seq, .int .i64 (pairE S).2.del] ∧ Blk wi N3 41 #[.int .i64 x.id, .int .i64 x.rows, .int .i64 x.live, .bool x.lo.null, .int .i64 x.lo.n, .string x.lo.s, .int .i64 x.lo.seq, .bool x.hi.null, .int .i64 x.hi.n, .string x.hi.s, .int .i64 x.hi.seq, .int .i64 x.del] ∧ Below w.heap.size w wi) (fun _ i _ => l.length - (intOf i).toNat)
        case atStart => exact ⟨0, S, by omega, rfl, rfl, Lib.hid (by rw [show candJ t l rows x 0 = [] from rfl, List.append_nil]; exact hS.out), U1.out, U2.out, UX.out, UB.out⟩
        case round =>
          obtain ⟨n, S, hn, rfl, rfl, hS, b1, b2, bx, hbel⟩ := hrel
          by_cases hlt : n < l.length
          · obtain ⟨ad2, y, py, e0, hy, hpy, hE⟩ := (HS.out.below hbel).ent_load rfl hlt
            injection e0 with e0
            subst e0
            obtain ⟨hplt, c0, c1, c2, c3, c4, c5, c6, c7, c8, c9, c10, c11⟩ := hE
            have HNX := Lib.hid (candJ_next (t := t) (rows := rows) (x := x) hy)
            have HNT := Lib.hid hlt
            have hly := HLV.out y (List.mem_of_getElem? hy)
            have HAE := Lib.hid (HAD.out x (List.mem_of_getElem? HXL.out) y (List.mem_of_getElem? hy))
            obtain ⟨N4, hN4⟩ : ∃ N, wr.heap.size = N := ⟨_, rfl⟩
            obtain ⟨V, hV⟩ : ∃ V, V = wr.alloc (.cells #[.int .i64 y.id, .int .i64 y.rows, .int .i64 y.live, .bool y.lo.null, .int .i64 y.lo.n, .string y.lo.s, .int .i64 y.lo.seq, .bool y.hi.null, .int .i64 y.hi.n, .string y.hi.s, .int .i64 y.hi.seq, .int .i64 y.del] 41) := ⟨_, rfl⟩
            have hVB : Below w.heap.size w V := by rw [hV]; exact hbel.alloc hbel.size _
            have VY := Lib.hid (show Blk V N4 41 #[.int .i64 y.id, .int .i64 y.rows, .int .i64 y.live, .bool y.lo.null, .int .i64 y.lo.n, .string y.lo.s, .int .i64 y.lo.seq, .bool y.hi.null, .int .i64 y.hi.n, .string y.hi.s, .int .i64 y.hi.seq, .int .i64 y.del] by rw [hV, ← hN4]; exact Blk.new _ _ _)
            have VX := Lib.hid (show Blk V N3 41 #[.int .i64 x.id, .int .i64 x.rows, .int .i64 x.live, .bool x.lo.null, .int .i64 x.lo.n, .string x.lo.s, .int .i64 x.lo.seq, .bool x.hi.null, .int .i64 x.hi.n, .string x.hi.s, .int .i64 x.hi.seq, .int .i64 x.del] by rw [hV]; exact bx.alloc _)
            have V1 := Lib.hid (show Blk V N1 41 #[.int .i64 (pairE S).1.id, .int .i64 (pairE S).1.rows, .int .i64 (pairE S).1.live, .bool (pairE S).1.lo.null, .int .i64 (pairE S).1.lo.n, .string (pairE S).1.lo.s, .int .i64 (pairE S).1.lo.seq, .bool (pairE S).1.hi.null, .int .i64 (pairE S).1.hi.n, .string (pairE S).1.hi.s, .int .i64 (pairE S).1.hi.seq, .int .i64 (pairE S).1.del] by rw [hV]; exact b1.alloc _)
            have V2 := Lib.hid (show Blk V (N1 + 1) 41 #[.int .i64 (pairE S).2.id, .int .i64 (pairE S).2.rows, .int .i64 (pairE S).2.live, .bool (pairE S).2.lo.null, .int .i64 (pairE S).2.lo.n, .string (pairE S).2.lo.s, .int .i64 (pairE S).2.lo.seq, .bool (pairE S).2.hi.null, .int .i64 (pairE S).2.hi.n, .string (pairE S).2.hi.s, .int .i64 (pairE S).2.hi.seq, .int .i64 (pairE S).2.del] by rw [hV]; exact b2.alloc _)
            have hN4a : N3 < N4 := by rw [← hN4]; exact bx.lt
            have VB := Lib.hid hVB
            have qn : decide (n < l.length) = true := by simpa using hlt
            clear hy b1 b2 bx hbel
            go_upto_region 11 with (fail)
            rw [← hV]
            try simp only [hN4]
            clear hV hN4 c0 c1 c2 c3 c4 c5 c6 c7 c8 c9 c10 c11 hpy hplt
            go_cut [62] from 32 to 61 (fun r wx => r = .bool (!(beforeB t x y && okPair t l rows (x, y))) ∧ Below V.heap.size V wx)
            case first =>
              obtain ⟨bf, hbf⟩ : ∃ b, beforeB t x y = b := ⟨_, rfl⟩
              have HBF := Lib.hid (rbefore_any t x y V hbf)
              have HOV := Lib.hid (fun X b (hb : meetE t x y = b) => rover_any t x y X hb)
              have HOK := Lib.hid (show okPair t l rows (x, y) = (decide (x.live + y.live ≤ rows) && (meetE t x y || adjE t l x y)) from rfl)
              have bb := VX.out
              have x0 := bb.cell 0
              have x1 := bb.cell 1
              have x2 := bb.cell 2
              have x3 := bb.cell 3
              have x4 := bb.cell 4
              have x5 := bb.cell 5
              have x6 := bb.cell 6
              have x7 := bb.cell 7
              have x8 := bb.cell 8
              have x9 := bb.cell 9
              have x10 := bb.cell 10
              have x11 := bb.cell 11
              simp only [List.getElem?_toArray, List.getElem?_cons_zero, List.getElem?_cons_succ] at x0 x1 x2 x3 x4 x5 x6 x7 x8 x9 x10 x11
              clear bb
              have bb := VY.out
              have y0 := bb.cell 0
              have y1 := bb.cell 1
              have y2 := bb.cell 2
              have y3 := bb.cell 3
              have y4 := bb.cell 4
              have y5 := bb.cell 5
              have y6 := bb.cell 6
              have y7 := bb.cell 7
              have y8 := bb.cell 8
              have y9 := bb.cell 9
              have y10 := bb.cell 10
              have y11 := bb.cell 11
              simp only [List.getElem?_toArray, List.getElem?_cons_zero, List.getElem?_cons_succ] at y0 y1 y2 y3 y4 y5 y6 y7 y8 y9 y10 y11
              clear bb
              cases bf with
              | false =>
                go_wp2_with fail
                refine HBF.out.mono ?_
                rintro _ w4 ⟨rfl, hb4⟩
                clear x0 x1 x2 x3 x4 x5 x6 x7 x8 x9 x10 x11
                clear y0 y1 y2 y3 y4 y5 y6 y7 y8 y9 y10 y11
                go_wp2
                go_meet
                exact ⟨by rw [hbf]; rfl, hb4⟩
              | true =>
                have hsum : IntKind.i64.wrap (x.live + y.live) = x.live + y.live := IntWalk.i64_in _ (by omega)
                go_wp2_with fail
                refine HBF.out.mono ?_
                rintro _ w4 ⟨rfl, hb4⟩
                clear x0 x1 x2 x3 x4 x5 x6 x7 x8 x9 x10 x11
                clear y0 y1 y2 y3 y4 y5 y6 y7 y8 y9 y10 y11
                have bb := (VX.out.below hb4 VX.out.lt)
                have x0 := bb.cell 0
                have x1 := bb.cell 1
                have x2 := bb.cell 2
                have x3 := bb.cell 3
                have x4 := bb.cell 4
                have x5 := bb.cell 5
                have x6 := bb.cell 6
                have x7 := bb.cell 7
                have x8 := bb.cell 8
                have x9 := bb.cell 9
                have x10 := bb.cell 10
                have x11 := bb.cell 11
                simp only [List.getElem?_toArray, List.getElem?_cons_zero, List.getElem?_cons_succ] at x0 x1 x2 x3 x4 x5 x6 x7 x8 x9 x10 x11
                clear bb
                have bb := (VY.out.below hb4 VY.out.lt)
                have y0 := bb.cell 0
                have y1 := bb.cell 1
                have y2 := bb.cell 2
                have y3 := bb.cell 3
                have y4 := bb.cell 4
                have y5 := bb.cell 5
                have y6 := bb.cell 6
                have y7 := bb.cell 7
                have y8 := bb.cell 8
                have y9 := bb.cell 9
                have y10 := bb.cell 10
                have y11 := bb.cell 11
                simp only [List.getElem?_toArray, List.getElem?_cons_zero, List.getElem?_cons_succ] at y0 y1 y2 y3 y4 y5 y6 y7 y8 y9 y10 y11
                clear bb
                by_cases hr : x.live + y.live ≤ rows
                · have q1 : decide (rows < x.live + y.live) = false := by simp; omega
                  cases hm : meetE t x y with
                  | true =>
                    have HO := Lib.hid (HOV.out w4 true hm)
                    have HG := Lib.hid (show okPair t l rows (x, y) = true by rw [HOK.out, decide_eq_true hr, hm]; rfl)
                    clear hr hm
                    go_wp2_with fail
                    refine HO.out.mono ?_
                    rintro _ w5 ⟨rfl, hb5⟩
                    clear x0 x1 x2 x3 x4 x5 x6 x7 x8 x9 x10 x11
                    clear y0 y1 y2 y3 y4 y5 y6 y7 y8 y9 y10 y11
                    go_wp2
                    go_meet
                    exact ⟨by rw [hbf, HG.out]; rfl, bst hb4 hb5⟩
                  | false =>
                    have HO := Lib.hid (HOV.out w4 false hm)
                    have HJ := Lib.hid (HAJ.out)
                    have hae := HAE.out hbf hm
                    obtain ⟨ja, hja⟩ : ∃ b, adjE t l x y = b := ⟨_, rfl⟩
                    have HG := Lib.hid (show okPair t l rows (x, y) = ja by rw [HOK.out, decide_eq_true hr, hm, hja]; rfl)
                    rw [hja] at hae
                    have HAE2 := Lib.hid hae
                    clear hr hm hja hae
                    go_wp2_with fail
                    refine HO.out.mono ?_
                    rintro _ w5 ⟨rfl, hb5⟩
                    have hb45 := bst hb4 hb5
                    have HJ5 := Lib.hid (HJ.out w5 (bst VB.out hb45) x.id y.id)
                    rw [HAE2.out] at HJ5
                    clear x0 x1 x2 x3 x4 x5 x6 x7 x8 x9 x10 x11
                    clear y0 y1 y2 y3 y4 y5 y6 y7 y8 y9 y10 y11
                    have bb := (VX.out.below hb45 VX.out.lt)
                    have x0 := bb.cell 0
                    have x1 := bb.cell 1
                    have x2 := bb.cell 2
                    have x3 := bb.cell 3
                    have x4 := bb.cell 4
                    have x5 := bb.cell 5
                    have x6 := bb.cell 6
                    have x7 := bb.cell 7
                    have x8 := bb.cell 8
                    have x9 := bb.cell 9
                    have x10 := bb.cell 10
                    have x11 := bb.cell 11
                    simp only [List.getElem?_toArray, List.getElem?_cons_zero, List.getElem?_cons_succ] at x0 x1 x2 x3 x4 x5 x6 x7 x8 x9 x10 x11
                    clear bb
                    have bb := (VY.out.below hb45 VY.out.lt)
                    have y0 := bb.cell 0
                    have y1 := bb.cell 1
                    have y2 := bb.cell 2
                    have y3 := bb.cell 3
                    have y4 := bb.cell 4
                    have y5 := bb.cell 5
                    have y6 := bb.cell 6
                    have y7 := bb.cell 7
                    have y8 := bb.cell 8
                    have y9 := bb.cell 9
                    have y10 := bb.cell 10
                    have y11 := bb.cell 11
                    simp only [List.getElem?_toArray, List.getElem?_cons_zero, List.getElem?_cons_succ] at y0 y1 y2 y3 y4 y5 y6 y7 y8 y9 y10 y11
                    clear bb
                    go_wp2_with fail
                    refine HJ5.out.mono ?_
                    rintro _ w6 ⟨rfl, hb6⟩
                    clear x0 x1 x2 x3 x4 x5 x6 x7 x8 x9 x10 x11
                    clear y0 y1 y2 y3 y4 y5 y6 y7 y8 y9 y10 y11
                    cases ja with
                    | true =>
                      go_wp2
                      go_meet
                      exact ⟨by rw [hbf, HG.out]; rfl, bst hb45 hb6⟩
                    | false =>
                      go_wp2
                      go_meet
                      exact ⟨by rw [hbf, HG.out]; rfl, bst hb45 hb6⟩
                · have q1 : decide (rows < x.live + y.live) = true := by simp; omega
                  have HG := Lib.hid (show okPair t l rows (x, y) = false by rw [HOK.out, decide_eq_false hr]; rfl)
                  clear hr
                  go_wp2
                  go_meet
                  exact ⟨by rw [hbf, HG.out]; rfl, hb4⟩
            case rest =>
              obtain ⟨rfl, hbc⟩ := hcut
              obtain ⟨bad, hbad⟩ : ∃ b, (beforeB t x y && okPair t l rows (x, y)) = b := ⟨_, rfl⟩
              rw [hbad]
              have HNY := Lib.hid (show candJ t l rows x (n + 1) = candJ t l rows x n ++ (if bad = true then [(x, y)] else []) by rw [HNX.out, hbad])
              have K1 := Lib.hid (V1.out.below hbc V1.out.lt)
              have K2 := Lib.hid (V2.out.below hbc V2.out.lt)
              have KX := Lib.hid (VX.out.below hbc VX.out.lt)
              have KY := Lib.hid (VY.out.below hbc VY.out.lt)
              have KB := Lib.hid (bst VB.out hbc)
              clear hbad hbc
              cases bad with
              | false =>
                have HN := Lib.hid (show minOf (pairLt t) (candR t l rows m ++ candJ t l rows x (n + 1)) = S by rw [HNY.out, if_neg (by simp), List.append_nil]; exact hS.out)
                go_wp2
                go_roundw
                case rel => exact ⟨n + 1, S, HNT.out, by go_num, rfl, HN, K1.out, K2.out, KX.out, KB.out⟩
                case measure => have := HNT.out; simp [intOf]; omega
              | true =>
                have HN := Lib.hid (show minOf (pairLt t) (candR t l rows m ++ candJ t l rows x (n + 1)) = (if betterB t S (x, y) = true then some (x, y) else S) by rw [HNY.out, if_pos rfl, ← List.append_assoc, minOf_snoc, hS.out, minStep_better])
                go_upto_region 12 with (fail)
                go_cut [83] from 63 to 82 (fun r wx => r = .bool (betterB t S (x, y)) ∧ Below wc.heap.size wc wx)
                case first =>
                  cases S with
                  | none =>
                    simp only [Option.isSome_none]
                    go_wp2
                    go_meet
                    exact ⟨rfl, Below.refl _ _⟩
                  | some s =>
                    obtain ⟨a, b⟩ := s
                    simp only [Option.isSome_some]
                    simp only [show (pairE (some (a, b))).1 = a from rfl] at K1
                    simp only [show (pairE (some (a, b))).2 = b from rfl] at K2
                    have HBT := Lib.hid (show betterB t (some (a, b)) (x, y) = (beforeB t x a || (decide (x.id = a.id) && beforeB t y b)) from rfl)
                    obtain ⟨f1, hf1⟩ : ∃ q, beforeB t x a = q := ⟨_, rfl⟩
                    obtain ⟨f2, hf2⟩ : ∃ q, beforeB t y b = q := ⟨_, rfl⟩
                    have H1 := Lib.hid (fun X => rbefore_any t x a X hf1)
                    have H2 := Lib.hid (fun X => rbefore_any t y b X hf2)
                    rw [hf1, hf2] at HBT
                    clear hf1 hf2
                    have bb := KX.out
                    have x0 := bb.cell 0
                    have x1 := bb.cell 1
                    have x2 := bb.cell 2
                    have x3 := bb.cell 3
                    have x4 := bb.cell 4
                    have x5 := bb.cell 5
                    have x6 := bb.cell 6
                    have x7 := bb.cell 7
                    have x8 := bb.cell 8
                    have x9 := bb.cell 9
                    have x10 := bb.cell 10
                    have x11 := bb.cell 11
                    simp only [List.getElem?_toArray, List.getElem?_cons_zero, List.getElem?_cons_succ] at x0 x1 x2 x3 x4 x5 x6 x7 x8 x9 x10 x11
                    clear bb
                    have bb := KY.out
                    have y0 := bb.cell 0
                    have y1 := bb.cell 1
                    have y2 := bb.cell 2
                    have y3 := bb.cell 3
                    have y4 := bb.cell 4
                    have y5 := bb.cell 5
                    have y6 := bb.cell 6
                    have y7 := bb.cell 7
                    have y8 := bb.cell 8
                    have y9 := bb.cell 9
                    have y10 := bb.cell 10
                    have y11 := bb.cell 11
                    simp only [List.getElem?_toArray, List.getElem?_cons_zero, List.getElem?_cons_succ] at y0 y1 y2 y3 y4 y5 y6 y7 y8 y9 y10 y11
                    clear bb
                    have bb := K1.out
                    have a0 := bb.cell 0
                    have a1 := bb.cell 1
                    have a2 := bb.cell 2
                    have a3 := bb.cell 3
                    have a4 := bb.cell 4
                    have a5 := bb.cell 5
                    have a6 := bb.cell 6
                    have a7 := bb.cell 7
                    have a8 := bb.cell 8
                    have a9 := bb.cell 9
                    have a10 := bb.cell 10
                    have a11 := bb.cell 11
                    simp only [List.getElem?_toArray, List.getElem?_cons_zero, List.getElem?_cons_succ] at a0 a1 a2 a3 a4 a5 a6 a7 a8 a9 a10 a11
                    clear bb
                    have bb := K2.out
                    have b0 := bb.cell 0
                    have b1 := bb.cell 1
                    have b2 := bb.cell 2
                    have b3 := bb.cell 3
                    have b4 := bb.cell 4
                    have b5 := bb.cell 5
                    have b6 := bb.cell 6
                    have b7 := bb.cell 7
                    have b8 := bb.cell 8
                    have b9 := bb.cell 9
                    have b10 := bb.cell 10
                    have b11 := bb.cell 11
                    simp only [List.getElem?_toArray, List.getElem?_cons_zero, List.getElem?_cons_succ] at b0 b1 b2 b3 b4 b5 b6 b7 b8 b9 b10 b11
                    clear bb
                    go_wp2_with fail
                    refine (H1.out _).mono ?_
                    rintro _ w7 ⟨rfl, hb7⟩
                    clear x0 x1 x2 x3 x4 x5 x6 x7 x8 x9 x10 x11
                    clear y0 y1 y2 y3 y4 y5 y6 y7 y8 y9 y10 y11
                    clear a0 a1 a2 a3 a4 a5 a6 a7 a8 a9 a10 a11
                    clear b0 b1 b2 b3 b4 b5 b6 b7 b8 b9 b10 b11
                    have bb := (KX.out.below hb7 KX.out.lt)
                    have x0 := bb.cell 0
                    have x1 := bb.cell 1
                    have x2 := bb.cell 2
                    have x3 := bb.cell 3
                    have x4 := bb.cell 4
                    have x5 := bb.cell 5
                    have x6 := bb.cell 6
                    have x7 := bb.cell 7
                    have x8 := bb.cell 8
                    have x9 := bb.cell 9
                    have x10 := bb.cell 10
                    have x11 := bb.cell 11
                    simp only [List.getElem?_toArray, List.getElem?_cons_zero, List.getElem?_cons_succ] at x0 x1 x2 x3 x4 x5 x6 x7 x8 x9 x10 x11
                    clear bb
                    have bb := (KY.out.below hb7 KY.out.lt)
                    have y0 := bb.cell 0
                    have y1 := bb.cell 1
                    have y2 := bb.cell 2
                    have y3 := bb.cell 3
                    have y4 := bb.cell 4
                    have y5 := bb.cell 5
                    have y6 := bb.cell 6
                    have y7 := bb.cell 7
                    have y8 := bb.cell 8
                    have y9 := bb.cell 9
                    have y10 := bb.cell 10
                    have y11 := bb.cell 11
                    simp only [List.getElem?_toArray, List.getElem?_cons_zero, List.getElem?_cons_succ] at y0 y1 y2 y3 y4 y5 y6 y7 y8 y9 y10 y11
                    clear bb
                    have bb := (K1.out.below hb7 K1.out.lt)
                    have a0 := bb.cell 0
                    have a1 := bb.cell 1
                    have a2 := bb.cell 2
                    have a3 := bb.cell 3
                    have a4 := bb.cell 4
                    have a5 := bb.cell 5
                    have a6 := bb.cell 6
                    have a7 := bb.cell 7
                    have a8 := bb.cell 8
                    have a9 := bb.cell 9
                    have a10 := bb.cell 10
                    have a11 := bb.cell 11
                    simp only [List.getElem?_toArray, List.getElem?_cons_zero, List.getElem?_cons_succ] at a0 a1 a2 a3 a4 a5 a6 a7 a8 a9 a10 a11
                    clear bb
                    have bb := (K2.out.below hb7 K2.out.lt)
                    have b0 := bb.cell 0
                    have b1 := bb.cell 1
                    have b2 := bb.cell 2
                    have b3 := bb.cell 3
                    have b4 := bb.cell 4
                    have b5 := bb.cell 5
                    have b6 := bb.cell 6
                    have b7 := bb.cell 7
                    have b8 := bb.cell 8
                    have b9 := bb.cell 9
                    have b10 := bb.cell 10
                    have b11 := bb.cell 11
                    simp only [List.getElem?_toArray, List.getElem?_cons_zero, List.getElem?_cons_succ] at b0 b1 b2 b3 b4 b5 b6 b7 b8 b9 b10 b11
                    clear bb
                    cases f1 with
                    | true =>
                      go_wp2
                      go_meet
                      exact ⟨by rw [HBT.out]; rfl, hb7⟩
                    | false =>
                      by_cases hid : x.id = a.id
                      · have q2 : (x.id == a.id) = true := by simpa using hid
                        have d2 : decide (x.id = a.id) = true := by simpa using hid
                        have HG := Lib.hid (show betterB t (some (a, b)) (x, y) = f2 by rw [HBT.out, d2]; rfl)
                        clear hid d2
                        go_wp2_with fail
                        refine (H2.out _).mono ?_
                        rintro _ w8 ⟨rfl, hb8⟩
                        go_wp2
                        go_meet
                        exact ⟨by rw [HG.out], bst hb7 hb8⟩
                      · have q2 : (x.id == a.id) = false := by simpa using hid
                        have d2 : decide (x.id = a.id) = false := by simpa using hid
                        have HG := Lib.hid (show betterB t (some (a, b)) (x, y) = false by rw [HBT.out, d2]; rfl)
                        clear hid d2
                        go_wp2
                        go_meet
                        exact ⟨by rw [HG.out], hb7⟩
                case rest =>
                  obtain ⟨rfl, hbc2⟩ := hcut
                  obtain ⟨bt, hbt⟩ : ∃ b, betterB t S (x, y) = b := ⟨_, rfl⟩
                  rw [hbt] at HN ⊢
                  have J1 := Lib.hid (K1.out.below hbc2 K1.out.lt)
                  have J2 := Lib.hid (K2.out.below hbc2 K2.out.lt)
                  have JX := Lib.hid (KX.out.below hbc2 KX.out.lt)
                  have JY := Lib.hid (KY.out.below hbc2 KY.out.lt)
                  have JB := Lib.hid (bst KB.out hbc2)
                  obtain ⟨wd, hwd⟩ : ∃ wd : World, wd = wc := ⟨_, rfl⟩
                  clear hbt hbc2
                  cases bt with
                  | false =>
                    have HN := Lib.hid (show minOf (pairLt t) (candR t l rows m ++ candJ t l rows x (n + 1)) = S from HN.out)
                    go_wp2
                    go_roundw
                    case rel => exact ⟨n + 1, S, HNT.out, by go_num, rfl, HN, J1.out, J2.out, JX.out, JB.out⟩
                    case measure => have := HNT.out; simp [intOf]; omega
                  | true =>
                    have HN := Lib.hid (show minOf (pairLt t) (candR t l rows m ++ candJ t l rows x (n + 1)) = some (x, y) from HN.out)
                    go_upto_region 13 with (fail)
                    refine wp_region_inv (by kernel_rfl) (by kernel_rfl) (fun L a w' => ∃ u84 u85 u11 : Value, a = ⟨#[.int .i64 t, .slice (some ad) l.length c, .int .i64 rows, undef, undef, undef, .int .i64 0, .int .i64 0, .bool false, .pointer (some ⟨N1, 0, none⟩), .pointer (some ⟨N1 + 1, 0, none⟩), u11, undef, .pointer (some ⟨N3, 0, none⟩), undef, .pointer (some ⟨N4, 0, none⟩), .int .i64 t, .slice (some ad) l.length c, .bool true, .bool false, .slice (some ad) l.length c, .int .i64 l.length, .int .i64 m, .bool true, .pointer (some px), .agg #[.int .i64 x.id, .int .i64 x.rows, .int .i64 x.live, .bool x.lo.null, .int .i64 x.lo.n, .string x.lo.s, .int .i64 x.lo.seq, .bool x.hi.null, .int .i64 x.hi.n, .string x.hi.s, .int .i64 x.hi.seq, .int .i64 x.del], .slice (some ad) l.length c, .int .i64 l.length, .int .i64 n, .bool true, .pointer (some py), .agg #[.int .i64 y.id, .int .i64 y.rows, .int .i64 y.live, .bool y.lo.null, .int .i64 y.lo.n, .string y.lo.s, .int .i64 y.lo.seq, .bool y.hi.null, .int .i64 y.hi.n, .string y.hi.s, .int .i64 y.hi.seq, .int .i64 y.del], u32, u33, u34, u35, u36, u37, u38, u39, u40, u41, u42, u43, u44, u45, u46, u47, u48, u49, u50, u51, u52, u53, u54, u55, u56, u57, u58, u59, u60, u61, .bool !true, u63, u64, u65, u66, u67, u68, u69, u70, u71, u72, u73, u74, u75, u76, u77, u78, u79, u80, u81, u82, .bool true, u84, u85, u86, u87, undef, undef, undef, undef, undef], []⟩ ∧
                        Below w.heap.size w w' ∧ Got (L 0) u84 (.agg #[.int .i64 x.id, .int .i64 x.rows, .int .i64 x.live, .bool x.lo.null, .int .i64 x.lo.n, .string x.lo.s, .int .i64 x.lo.seq, .bool x.hi.null, .int .i64 x.hi.n, .string x.hi.s, .int .i64 x.hi.seq, .int .i64 x.del]) ∧ Got (L 1) u85 (.agg #[.int .i64 y.id, .int .i64 y.rows, .int .i64 y.live, .bool y.lo.null, .int .i64 y.lo.n, .string y.lo.s, .int .i64 y.lo.seq, .bool y.hi.null, .int .i64 y.hi.n, .string y.hi.s, .int .i64 y.hi.seq, .int .i64 y.del]) ∧ Blk w' N3 41 #[.int .i64 x.id, .int .i64 x.rows, .int .i64 x.live, .bool x.lo.null, .int .i64 x.lo.n, .string x.lo.s, .int .i64 x.lo.seq, .bool x.hi.null, .int .i64 x.hi.n, .string x.hi.s, .int .i64 x.hi.seq, .int .i64 x.del] ∧ Blk w' N4 41 #[.int .i64 y.id, .int .i64 y.rows, .int .i64 y.live, .bool y.lo.null, .int .i64 y.lo.n, .string y.lo.s, .int .i64 y.lo.seq, .bool y.hi.null, .int .i64 y.hi.n, .string y.hi.s, .int .i64 y.hi.seq, .int .i64 y.del] ∧ (L 2 = false → Blk w' N1 41 #[.int .i64 (pairE S).1.id, .int .i64 (pairE S).1.rows, .int .i64 (pairE S).1.live, .bool (pairE S).1.lo.null, .int .i64 (pairE S).1.lo.n, .string (pairE S).1.lo.s, .int .i64 (pairE S).1.lo.seq, .bool (pairE S).1.hi.null, .int .i64 (pairE S).1.hi.n, .string (pairE S).1.hi.s, .int .i64 (pairE S).1.hi.seq, .int .i64 (pairE S).1.del]) ∧ (L 2 = true → Blk w' N1 41 #[.int .i64 x.id, .int .i64 x.rows, .int .i64 x.live, .bool x.lo.null, .int .i64 x.lo.n, .string x.lo.s, .int .i64 x.lo.seq, .bool x.hi.null, .int .i64 x.hi.n, .string x.hi.s, .int .i64 x.hi.seq, .int .i64 x.del]) ∧ (L 3 = false → Blk w' (N1 + 1) 41 #[.int .i64 (pairE S).2.id, .int .i64 (pairE S).2.rows, .int .i64 (pairE S).2.live, .bool (pairE S).2.lo.null, .int .i64 (pairE S).2.lo.n, .string (pairE S).2.lo.s, .int .i64 (pairE S).2.lo.seq, .bool (pairE S).2.hi.null, .int .i64 (pairE S).2.hi.n, .string (pairE S).2.hi.s, .int .i64 (pairE S).2.hi.seq, .int .i64 (pairE S).2.del]) ∧ (L 3 = true → Blk w' (N1 + 1) 41 #[.int .i64 y.id, .int .i64 y.rows, .int .i64 y.live, .bool y.lo.null, .int .i64 y.lo.n, .string y.lo.s, .int .i64 y.lo.seq, .bool y.hi.null, .int .i64 y.hi.n, .string y.hi.s, .int .i64 y.hi.seq, .int .i64 y.del]) ∧ Got (L 4) u11 (.bool true))
                      ?_ ?_ ?_
                    · exact ⟨_, _, _, rfl, JB.out.drew, nofun, nofun, JX.out.drewN 1, JY.out.drewN 1, fun _ => J1.out.drewN 1, nofun, fun _ => J2.out.drewN 1, nofun, nofun⟩
                    · refine ⟨?_, ?_, ?_, ?_, ?_, trivial⟩
                      · intro L a w' hI hl hd K hK
                        refine hI.elim fun u84 hI => hI.elim fun u85 hI => hI.elim fun u11 hI => ?_
                        have ha := hI.1
                        subst ha
                        have hb := hI.2.1
                        have g0 := hI.2.2.1
                        have g1 := hI.2.2.2.1
                        have g2 := hI.2.2.2.2.1
                        have g3 := hI.2.2.2.2.2.1
                        have g4 := hI.2.2.2.2.2.2.1
                        have g5 := hI.2.2.2.2.2.2.2.1
                        have g6 := hI.2.2.2.2.2.2.2.2.1
                        have g7 := hI.2.2.2.2.2.2.2.2.2.1
                        have g8 := hI.2.2.2.2.2.2.2.2.2.2
                        clear hI
                        dsimp only at hK ⊢
                        have bb := g2
                        have d0 := bb.cell 0
                        have d1 := bb.cell 1
                        have d2 := bb.cell 2
                        have d3 := bb.cell 3
                        have d4 := bb.cell 4
                        have d5 := bb.cell 5
                        have d6 := bb.cell 6
                        have d7 := bb.cell 7
                        have d8 := bb.cell 8
                        have d9 := bb.cell 9
                        have d10 := bb.cell 10
                        have d11 := bb.cell 11
                        simp only [List.getElem?_toArray, List.getElem?_cons_zero, List.getElem?_cons_succ] at d0 d1 d2 d3 d4 d5 d6 d7 d8 d9 d10 d11
                        clear bb
                        go_simp
                        exact hK _ _ ⟨_, _, _, rfl, hb, fun _ => rfl, g1, g2, g3, g4, g5, g6, g7, g8⟩
                      · intro L a w' hI hl hd K hK
                        refine hI.elim fun u84 hI => hI.elim fun u85 hI => hI.elim fun u11 hI => ?_
                        have ha := hI.1
                        subst ha
                        have hb := hI.2.1
                        have g0 := hI.2.2.1
                        have g1 := hI.2.2.2.1
                        have g2 := hI.2.2.2.2.1
                        have g3 := hI.2.2.2.2.2.1
                        have g4 := hI.2.2.2.2.2.2.1
                        have g5 := hI.2.2.2.2.2.2.2.1
                        have g6 := hI.2.2.2.2.2.2.2.2.1
                        have g7 := hI.2.2.2.2.2.2.2.2.2.1
                        have g8 := hI.2.2.2.2.2.2.2.2.2.2
                        clear hI
                        dsimp only at hK ⊢
                        have bb := g3
                        have d0 := bb.cell 0
                        have d1 := bb.cell 1
                        have d2 := bb.cell 2
                        have d3 := bb.cell 3
                        have d4 := bb.cell 4
                        have d5 := bb.cell 5
                        have d6 := bb.cell 6
                        have d7 := bb.cell 7
                        have d8 := bb.cell 8
                        have d9 := bb.cell 9
                        have d10 := bb.cell 10
                        have d11 := bb.cell 11
                        simp only [List.getElem?_toArray, List.getElem?_cons_zero, List.getElem?_cons_succ] at d0 d1 d2 d3 d4 d5 d6 d7 d8 d9 d10 d11
                        clear bb
                        go_simp
                        exact hK _ _ ⟨_, _, _, rfl, hb, g0, fun _ => rfl, g2, g3, g4, g5, g6, g7, g8⟩
                      · intro L a w' hI hl hd K hK
                        refine hI.elim fun u84 hI => hI.elim fun u85 hI => hI.elim fun u11 hI => ?_
                        have ha := hI.1
                        subst ha
                        have hb := hI.2.1
                        have g0 := hI.2.2.1
                        have g1 := hI.2.2.2.1
                        have g2 := hI.2.2.2.2.1
                        have g3 := hI.2.2.2.2.2.1
                        have g4 := hI.2.2.2.2.2.2.1
                        have g5 := hI.2.2.2.2.2.2.2.1
                        have g6 := hI.2.2.2.2.2.2.2.2.1
                        have g7 := hI.2.2.2.2.2.2.2.2.2.1
                        have g8 := hI.2.2.2.2.2.2.2.2.2.2
                        clear hI
                        simp [Region.binds] at hd
                        dsimp only at hK ⊢
                        have e0 := g0 (by simp [hd])
                        subst e0
                        have bb := g4 hl
                        have e0 := bb.frozen 0
                        have e1 := bb.frozen 1
                        have e2 := bb.frozen 2
                        have e3 := bb.frozen 3
                        have e4 := bb.frozen 4
                        have e5 := bb.frozen 5
                        have e6 := bb.frozen 6
                        have e7 := bb.frozen 7
                        have e8 := bb.frozen 8
                        have e9 := bb.frozen 9
                        have e10 := bb.frozen 10
                        have e11 := bb.frozen 11
                        have h0 := bb.cell 0
                        have h1 := bb.cell 1
                        have h2 := bb.cell 2
                        have h3 := bb.cell 3
                        have h4 := bb.cell 4
                        have h5 := bb.cell 5
                        have h6 := bb.cell 6
                        have h7 := bb.cell 7
                        have h8 := bb.cell 8
                        have h9 := bb.cell 9
                        have h10 := bb.cell 10
                        have h11 := bb.cell 11
                        simp only [List.getElem?_toArray, List.getElem?_cons_zero, List.getElem?_cons_succ] at h0 h1 h2 h3 h4 h5 h6 h7 h8 h9 h10 h11
                        have hlN := bb.lt
                        go_simp
                        have kg := grown12 w' N1 (.int .i64 x.id) (.int .i64 x.rows) (.int .i64 x.live) (.bool x.lo.null) (.int .i64 x.lo.n) (.string x.lo.s) (.int .i64 x.lo.seq) (.bool x.hi.null) (.int .i64 x.hi.n) (.string x.hi.s) (.int .i64 x.hi.seq) (.int .i64 x.del)
                        exact hK _ _ ⟨_, _, _, rfl, below_row hb kg hN1w hb.size, g0, g1, g2.row kg (by omega), g3.row kg (by omega), fun h => absurd h (by simp [upd]), fun _ => blk12 (.int .i64 x.id) (.int .i64 x.rows) (.int .i64 x.live) (.bool x.lo.null) (.int .i64 x.lo.n) (.string x.lo.s) (.int .i64 x.lo.seq) (.bool x.hi.null) (.int .i64 x.hi.n) (.string x.hi.s) (.int .i64 x.hi.seq) (.int .i64 x.del) bb, fun h => (g6 h).row kg (by omega), fun h => (g7 h).row kg (by omega), g8⟩
                      · intro L a w' hI hl hd K hK
                        refine hI.elim fun u84 hI => hI.elim fun u85 hI => hI.elim fun u11 hI => ?_
                        have ha := hI.1
                        subst ha
                        have hb := hI.2.1
                        have g0 := hI.2.2.1
                        have g1 := hI.2.2.2.1
                        have g2 := hI.2.2.2.2.1
                        have g3 := hI.2.2.2.2.2.1
                        have g4 := hI.2.2.2.2.2.2.1
                        have g5 := hI.2.2.2.2.2.2.2.1
                        have g6 := hI.2.2.2.2.2.2.2.2.1
                        have g7 := hI.2.2.2.2.2.2.2.2.2.1
                        have g8 := hI.2.2.2.2.2.2.2.2.2.2
                        clear hI
                        simp [Region.binds] at hd
                        dsimp only at hK ⊢
                        have e1 := g1 (by simp [hd])
                        subst e1
                        have bb := g6 hl
                        have e0 := bb.frozen 0
                        have e1 := bb.frozen 1
                        have e2 := bb.frozen 2
                        have e3 := bb.frozen 3
                        have e4 := bb.frozen 4
                        have e5 := bb.frozen 5
                        have e6 := bb.frozen 6
                        have e7 := bb.frozen 7
                        have e8 := bb.frozen 8
                        have e9 := bb.frozen 9
                        have e10 := bb.frozen 10
                        have e11 := bb.frozen 11
                        have h0 := bb.cell 0
                        have h1 := bb.cell 1
                        have h2 := bb.cell 2
                        have h3 := bb.cell 3
                        have h4 := bb.cell 4
                        have h5 := bb.cell 5
                        have h6 := bb.cell 6
                        have h7 := bb.cell 7
                        have h8 := bb.cell 8
                        have h9 := bb.cell 9
                        have h10 := bb.cell 10
                        have h11 := bb.cell 11
                        simp only [List.getElem?_toArray, List.getElem?_cons_zero, List.getElem?_cons_succ] at h0 h1 h2 h3 h4 h5 h6 h7 h8 h9 h10 h11
                        have hlN := bb.lt
                        go_simp
                        have kg := grown12 w' (N1 + 1) (.int .i64 y.id) (.int .i64 y.rows) (.int .i64 y.live) (.bool y.lo.null) (.int .i64 y.lo.n) (.string y.lo.s) (.int .i64 y.lo.seq) (.bool y.hi.null) (.int .i64 y.hi.n) (.string y.hi.s) (.int .i64 y.hi.seq) (.int .i64 y.del)
                        exact hK _ _ ⟨_, _, _, rfl, below_row hb kg (by omega) hb.size, g0, g1, g2.row kg (by omega), g3.row kg (by omega), fun h => (g4 h).row kg (by omega), fun h => (g5 h).row kg (by omega), fun h => absurd h (by simp [upd]), fun _ => blk12 (.int .i64 y.id) (.int .i64 y.rows) (.int .i64 y.live) (.bool y.lo.null) (.int .i64 y.lo.n) (.string y.lo.s) (.int .i64 y.lo.seq) (.bool y.hi.null) (.int .i64 y.hi.n) (.string y.hi.s) (.int .i64 y.hi.seq) (.int .i64 y.del) bb, g8⟩
                      · intro L a w' hI hl hd K hK
                        refine hI.elim fun u84 hI => hI.elim fun u85 hI => hI.elim fun u11 hI => ?_
                        have ha := hI.1
                        subst ha
                        have hb := hI.2.1
                        have g0 := hI.2.2.1
                        have g1 := hI.2.2.2.1
                        have g2 := hI.2.2.2.2.1
                        have g3 := hI.2.2.2.2.2.1
                        have g4 := hI.2.2.2.2.2.2.1
                        have g5 := hI.2.2.2.2.2.2.2.1
                        have g6 := hI.2.2.2.2.2.2.2.2.1
                        have g7 := hI.2.2.2.2.2.2.2.2.2.1
                        have g8 := hI.2.2.2.2.2.2.2.2.2.2
                        clear hI
                        dsimp only at hK ⊢
                        go_simp
                        exact hK _ _ ⟨_, _, _, rfl, hb, g0, g1, g2, g3, g4, g5, g6, g7, fun _ => rfl⟩
                    intro a w9 hI
                    refine hI.elim fun u84 hI => hI.elim fun u85 hI => hI.elim fun u11 hI => ?_
                    have ha := hI.1
                    subst ha
                    have hb := hI.2.1
                    have g0 := hI.2.2.1
                    have g1 := hI.2.2.2.1
                    have g2 := hI.2.2.2.2.1
                    have g3 := hI.2.2.2.2.2.1
                    have g4 := hI.2.2.2.2.2.2.1
                    have g5 := hI.2.2.2.2.2.2.2.1
                    have g6 := hI.2.2.2.2.2.2.2.2.1
                    have g7 := hI.2.2.2.2.2.2.2.2.2.1
                    have g8 := hI.2.2.2.2.2.2.2.2.2.2
                    clear hI
                    have e8 := g8 rfl
                    subst e8
                    have HB9 := Lib.hid hb
                    have X9 := Lib.hid g2
                    have A9 := Lib.hid (g5 rfl)
                    have D9 := Lib.hid (g7 rfl)
                    clear g0 g1 g2 g3 g4 g5 g6 g7 g8 hb
                    go_wp2
                    go_roundw
                    case rel => exact ⟨n + 1, some (x, y), HNT.out, by go_num, rfl, HN, A9.out, D9.out, X9.out, HB9.out⟩
                    case measure => have := HNT.out; simp [intOf]; omega
          · have HN := Lib.hid (show minOf (pairLt t) (candR t l rows (m + 1)) = S by rw [candR_next HXL.out, show l.length = n by omega]; exact hS.out)
            have J1 := Lib.hid b1
            have J2 := Lib.hid b2
            have JB := Lib.hid hbel
            clear b1 b2 bx hbel
            go_wp2
            go_roundw
            case rel => exact ⟨m + 1, S, HMT.out, by go_num, rfl, HN, J1.out, J2.out, JB.out⟩
            case measure => have := HMT.out; simp [intOf]; omega
      · have HG := Lib.hid (show pairV t l (candR t l rows l.length) = S by rw [HF.out, show l.length = m by omega]; exact hS.out)
        have J1 := Lib.hid b1
        have J2 := Lib.hid b2
        have JB := Lib.hid hbel
        clear b1 b2 hbel
        have bb := J1.out
        have a0 := bb.cell 0
        have a1 := bb.cell 1
        have a2 := bb.cell 2
        have a3 := bb.cell 3
        have a4 := bb.cell 4
        have a5 := bb.cell 5
        have a6 := bb.cell 6
        have a7 := bb.cell 7
        have a8 := bb.cell 8
        have a9 := bb.cell 9
        have a10 := bb.cell 10
        have a11 := bb.cell 11
        simp only [List.getElem?_toArray, List.getElem?_cons_zero, List.getElem?_cons_succ] at a0 a1 a2 a3 a4 a5 a6 a7 a8 a9 a10 a11
        clear bb
        have bb := J2.out
        have b0 := bb.cell 0
        have b1 := bb.cell 1
        have b2 := bb.cell 2
        have b3 := bb.cell 3
        have b4 := bb.cell 4
        have b5 := bb.cell 5
        have b6 := bb.cell 6
        have b7 := bb.cell 7
        have b8 := bb.cell 8
        have b9 := bb.cell 9
        have b10 := bb.cell 10
        have b11 := bb.cell 11
        simp only [List.getElem?_toArray, List.getElem?_cons_zero, List.getElem?_cons_succ] at b0 b1 b2 b3 b4 b5 b6 b7 b8 b9 b10 b11
        clear bb
        go_upto_region 16 with (fail)
        go_quiet (fail)
        go_wp2
        exact bodyPost_ret (v := .tuple #[.int .i64 (pairE S).1.id, .int .i64 (pairE S).2.id, .bool S.isSome]) (by simp [results, Try.results28, go_sem]) rfl ⟨by rw [HG.out], by first | exact JB.out | exact below_drewN JB.out _⟩
end Go.Proofs.Ytcjekbncllccbaa
