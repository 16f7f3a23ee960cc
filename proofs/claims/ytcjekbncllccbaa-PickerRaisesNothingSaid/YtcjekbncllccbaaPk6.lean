/-
  The contract of picker.Pair.
-/
import Derived.Test.YtcjekbncllccbaaPk5
namespace Go.Proofs.Ytcjekbncllccbaa
open Go.RowKit Go.Sort

def okI (t : Int) (l : List Ent) (rows : Int) (i k : Nat) (a b : Ent) : Bool := decide (a.live + b.live ≤ rows) && (meetE t a b || adjI t l i k a b)
def swp (t : Int) (a b : Ent) : Ent × Ent := if swapB t a b = true then (b, a) else (a, b)
def rowQ (t : Int) (l : List Ent) (rows : Int) (i : Nat) (a : Ent) : Nat → List (Ent × Ent)
  | 0 => []
  | n + 1 => rowQ t l rows i a n ++ (match l[n]? with | some b => if okI t l rows i n a b = true then [swp t a b] else [] | none => [])
def candQ (t : Int) (l : List Ent) (rows : Int) : Nat → List (Ent × Ent)
  | 0 => []
  | m + 1 => candQ t l rows m ++ (match l[m]? with | some a => rowQ t l rows m a m | none => [])
def rawLt (t : Int) (q s : Ent × Ent) : Bool := decide (orV [cmpR t q.1.lo s.1.lo, ordI q.1.id s.1.id, cmpR t q.2.lo s.2.lo, ordI q.2.id s.2.id] < 0)
def rawB (t : Int) (S : Option (Ent × Ent)) (q : Ent × Ent) : Bool := match S with | none => true | some s => rawLt t q s
theorem minStep_raw {t : Int} {S : Option (Ent × Ent)} {q : Ent × Ent} : minStep (rawLt t) S q = if rawB t S q = true then some q else S := by
  cases S with
  | none => rfl
  | some s => rfl
theorem rowQ_next {t : Int} {l : List Ent} {rows : Int} {i n : Nat} {a b : Ent} (h : l[n]? = some b) : rowQ t l rows i a (n + 1) = rowQ t l rows i a n ++ (if okI t l rows i n a b = true then [swp t a b] else []) := by
  show rowQ t l rows i a n ++ _ = _
  rw [h]
theorem candQ_next {t : Int} {l : List Ent} {rows : Int} {m : Nat} {a : Ent} (h : l[m]? = some a) : candQ t l rows (m + 1) = candQ t l rows m ++ rowQ t l rows m a m := by
  show candQ t l rows m ++ _ = _
  rw [h]
def pairP (t : Int) (l : List Ent) (rows : Int) : Option (Ent × Ent) := if chkEs t l = true then minOf (rawLt t) (candQ t l rows l.length) else none
set_option maxRecDepth 100000 in
set_option maxHeartbeats 8000000 in
theorem ppair_any (t : Int) (v : Value) (l : List Ent) (rows : Int) (w : World) (hs : Sl w 12 v l.length (ents l)) (hw : ∀ e ∈ l, e.small) (hl : l.length ≤ 1000000) (hlv : ∀ e ∈ l, -1000000 ≤ e.live ∧ e.live ≤ 1000000) :
    Calls Try.prog 20 #[.int .i64 t, v, .int .i64 rows] w (RetPair w (pairP t l rows)) := by
  obtain ⟨A, c, rfl, hc1, hc2⟩ := hs.form
  have HC := Lib.hid (pcheck_any t (.slice A l.length c) l w hs hw hl)
  have HAJ := Lib.hid (fun X (hX : Below w.heap.size w X) i k a b hi hk ha hb => padjacent_any t (.slice A l.length c) l i k a b X (hs.below hX) hl hi hk ha hb)
  have HOR := Lib.hid (fun X (hX : Below w.heap.size w X) i k a b hi hk ha hb => pordered_any t (.slice A l.length c) l i k a b X (hs.below hX) hl hi hk ha hb)
  have HS := Lib.hid hs
  have HLV := Lib.hid hlv
  clear hs hw hlv
  go_enter Try.func20, Try.ntmps20
  go_wp2_with fail
  refine HC.out.mono ?_
  cases hck : chkEs t l with
  | false =>
    have HF := Lib.hid (show pairP t l rows = none by unfold pairP; rw [if_neg (by simp [hck])])
    clear hck HC
    rintro _ w2 ⟨rfl, hb2⟩
    have HX := Lib.hid hb2
    clear hb2
    go_wp2
    exact bodyPost_ret (v := .tuple #[.int .i64 0, .int .i64 0, .bool false]) (by simp [results, Try.results20, go_sem]) rfl ⟨by rw [HF.out]; rfl, HX.out⟩
  | true =>
    have HF := Lib.hid (show pairP t l rows = minOf (rawLt t) (candQ t l rows l.length) by unfold pairP; rw [if_pos hck])
    clear hck HC
    rintro _ w2 ⟨rfl, hb2⟩
    obtain ⟨N1, hN1⟩ : ∃ N, w2.heap.size = N := ⟨_, rfl⟩
    obtain ⟨W3, hW3⟩ : ∃ W3, W3 = (w2.alloc (.cells #[.int .i64 0, .int .i64 0, .int .i64 0, .bool false, .int .i64 0, .string { data := #[] }, .int .i64 0, .bool false, .int .i64 0, .string { data := #[] }, .int .i64 0, .int .i64 0] 41)).alloc (.cells #[.int .i64 0, .int .i64 0, .int .i64 0, .bool false, .int .i64 0, .string { data := #[] }, .int .i64 0, .bool false, .int .i64 0, .string { data := #[] }, .int .i64 0, .int .i64 0] 41) := ⟨_, rfl⟩
    have B1 := Lib.hid (show Blk W3 N1 41 #[.int .i64 0, .int .i64 0, .int .i64 0, .bool false, .int .i64 0, .string { data := #[] }, .int .i64 0, .bool false, .int .i64 0, .string { data := #[] }, .int .i64 0, .int .i64 0] by rw [hW3, ← hN1]; exact (Blk.new _ _ _).alloc _)
    have B2 := Lib.hid (show Blk W3 (N1 + 1) 41 #[.int .i64 0, .int .i64 0, .int .i64 0, .bool false, .int .i64 0, .string { data := #[] }, .int .i64 0, .bool false, .int .i64 0, .string { data := #[] }, .int .i64 0, .int .i64 0] by
      have := Blk.new (w2.alloc (.cells #[.int .i64 0, .int .i64 0, .int .i64 0, .bool false, .int .i64 0, .string { data := #[] }, .int .i64 0, .bool false, .int .i64 0, .string { data := #[] }, .int .i64 0, .int .i64 0] 41)) 41 #[.int .i64 0, .int .i64 0, .int .i64 0, .bool false, .int .i64 0, .string { data := #[] }, .int .i64 0, .bool false, .int .i64 0, .string { data := #[] }, .int .i64 0, .int .i64 0]
      rw [hW3, ← hN1]; simpa using this)
    have HB3 := Lib.hid (show Below w.heap.size w W3 by rw [hW3]; exact (hb2.alloc hb2.size _).alloc (by have := hb2.size; simp; omega) _)
    have hN1w : w.heap.size ≤ N1 := by rw [← hN1]; exact hb2.size
    clear hb2
    go_upto_region 4 with (fail)
    rw [← hW3]
    try simp only [hN1]
    clear hW3 hN1
    go_wp2
    go_loopw [8, 23] (fun f i wr => ∃ (m : Nat) (S : Option (Ent × Ent)), m ≤ l.length ∧ i = .int .i64 m ∧ f = .bool S.isSome ∧ Hid (minOf (rawLt t) (candQ t l rows m) = S) ∧ Blk wr N1 41 #[.int .i64 (pairE S).1.id, .int .i64 (pairE S).1.rows, .int .i64 (pairE S).1.live, .bool (pairE S).1.lo.null, .int .i64 (pairE S).1.lo.n, .string (pairE S).1.lo.s, .int .i64 (pairE S).1.lo.seq, .bool (pairE S).1.hi.null, .int .i64 (pairE S).1.hi.n, .string (pairE S).1.hi.s, .int .i64 (pairE S).1.hi.seq, .int .i64 (pairE S).1.del] ∧ Blk wr (N1 + 1) 41 #[.int .i64 (pairE S).2.id, .int .i64 (pairE S).2.rows, .int .i64 (pairE S).2.live, .bool (pairE S).2.lo.null, .int .i64 (pairE S).2.lo.n, .string (pairE S).2.lo.s, .int .i64 (pairE S).2.lo.seq, .bool (pairE S).2.hi.null, .int .i64 (pairE S).2.hi.n, .string (pairE S).2.hi.s, .int .i64 (pairE S).2.hi.seq, .int .i64 (pairE S).2.del] ∧ Below w.heap.size w wr) (fun _ i _ => l.length - (intOf i).toNat)
    case atStart => exact ⟨0, none, by omega, rfl, rfl, Lib.hid rfl, B1.out, B2.out, HB3.out⟩
    case round =>
      obtain ⟨m, S, hm, rfl, rfl, hS, b1, b2, hbel⟩ := hrel
      by_cases hlt : m < l.length
      · obtain ⟨ad, a, pi, rfl, ha, hpi, hE⟩ := (HS.out.below hbel).ent_load rfl hlt
        have HAL := Lib.hid ha
        have HMT := Lib.hid hlt
        have hla := HLV.out a (List.mem_of_getElem? ha)
        have qm : decide (m < l.length) = true := by simpa using hlt
        have R1 := Lib.hid b1
        have R2 := Lib.hid b2
        have RB := Lib.hid hbel
        clear ha b1 b2 hbel hpi hE
        obtain ⟨w0r, hw0r⟩ : ∃ q : World, q = wr := ⟨_, rfl⟩
        go_wp2
        go_loopw [8, 27] (fun f i wi => ∃ (n : Nat) (S : Option (Ent × Ent)), n ≤ m ∧ i = .int .i64 n ∧ f = .bool S.isSome ∧ Hid (minOf (rawLt t) (candQ t l rows m ++ rowQ t l rows m a n) = S) ∧ Blk wi N1 41 #[.int .i64 (pairE S).1.id, .int .i64 (pairE S).1.rows, .int .i64 (pairE S).1.live, .bool (pairE S).1.lo.null, .int .i64 (pairE S).1.lo.n, .string (pairE S).1.lo.s, .int .i64 (pairE S).1.lo.seq, .bool (pairE S).1.hi.null, .int .i64 (pairE S).1.hi.n, .string (pairE S).1.hi.s, .int .i64 (pairE S).1.hi.seq, .int .i64 (pairE S).1.del] ∧ Blk wi (N1 + 1) 41 #[.int .i64 (pairE S).2.id, .int .i64 (pairE S).2.rows, .int .i64 (pairE S).2.live, .bool (pairE S).2.lo.null, .int .i64 (pairE S).2.lo.n, .string (pairE S).2.lo.s, .int .i64 (pairE S).2.lo.seq, .bool (pairE S).2.hi.null, .int .i64 (pairE S).2.hi.n, .string (pairE S).2.hi.s, .int .i64 (pairE S).2.hi.seq, .int .i64 (pairE S).2.del] ∧ Below w.heap.size w wi) (fun _ i _ => m - (intOf i).toNat)
        case atStart => exact ⟨0, S, by omega, rfl, rfl, Lib.hid (by rw [show rowQ t l rows m a 0 = [] from rfl, List.append_nil]; exact hS.out), R1.out, R2.out, RB.out⟩
        case round =>
          obtain ⟨n, S, hn, rfl, rfl, hS, b1, b2, hbel⟩ := hrel
          by_cases hlt2 : n < m
          · have hkl : n < l.length := by omega
            obtain ⟨ad2, a2, pi, e0, ha2, hpi, hEI⟩ := (HS.out.below hbel).ent_load rfl hlt
            injection e0 with e0
            subst e0
            rw [HAL.out] at ha2
            injection ha2 with ha2
            subst ha2
            obtain ⟨ad2, b, pk, e0, hb, hpk, hEK⟩ := (HS.out.below hbel).ent_load rfl hkl
            injection e0 with e0
            subst e0
            have HNX := Lib.hid (rowQ_next (t := t) (rows := rows) (i := m) (a := a) hb)
            have HBL := Lib.hid hb
            have HNT := Lib.hid hlt2
            have hlb := HLV.out b (List.mem_of_getElem? hb)
            have qn : decide (n < m) = true := by simpa using hlt2
            have hsum : IntKind.i64.wrap (a.live + b.live) = a.live + b.live := IntWalk.i64_in _ (by omega)
            have V1 := Lib.hid b1
            have V2 := Lib.hid b2
            have VB := Lib.hid hbel
            have A2 := Lib.hid (fun (x : Bool) (hx : meetE t a b = x) => reg_v (w := wr) (fun X _ => pover_any t a b X hx))
            have A3 := Lib.hid (fun (x : Bool) (hx : adjI t l m n a b = x) => show ∀ d os, Calls Try.prog 44 #[.int .i64 t, .slice (some ad) l.length c, .int .i64 (m : Int), .int .i64 (n : Int)] (grow (redrawn wr d) os) fun e w'' => e = .returned (.bool x) ∧ ∃ p : Regrown, w'' = grow (redrawn wr p.d) p.os from by subst hx; exact reg_v (fun X hX => HAJ.out X (bst VB.out hX) m n a b hlt hkl HAL.out hb))
            have HOK := Lib.hid (show okI t l rows m n a b = (decide (a.live + b.live ≤ rows) && (meetE t a b || adjI t l m n a b)) from rfl)
            have HO2 := Lib.hid (fun X (hX : Below w.heap.size w X) => HOR.out X hX m n a b hlt hkl HAL.out hb)
            have f0 := fun d os => (hEI.regrown d os).c0
            have g0 := fun d os => (hEK.regrown d os).c0
            have f1 := fun d os => (hEI.regrown d os).c1
            have g1 := fun d os => (hEK.regrown d os).c1
            have f2 := fun d os => (hEI.regrown d os).c2
            have g2 := fun d os => (hEK.regrown d os).c2
            have f3 := fun d os => (hEI.regrown d os).c3
            have g3 := fun d os => (hEK.regrown d os).c3
            have f4 := fun d os => (hEI.regrown d os).c4
            have g4 := fun d os => (hEK.regrown d os).c4
            have f5 := fun d os => (hEI.regrown d os).c5
            have g5 := fun d os => (hEK.regrown d os).c5
            have f6 := fun d os => (hEI.regrown d os).c6
            have g6 := fun d os => (hEK.regrown d os).c6
            have f7 := fun d os => (hEI.regrown d os).c7
            have g7 := fun d os => (hEK.regrown d os).c7
            have f8 := fun d os => (hEI.regrown d os).c8
            have g8 := fun d os => (hEK.regrown d os).c8
            have f9 := fun d os => (hEI.regrown d os).c9
            have g9 := fun d os => (hEK.regrown d os).c9
            have f10 := fun d os => (hEI.regrown d os).c10
            have g10 := fun d os => (hEK.regrown d os).c10
            have f11 := fun d os => (hEI.regrown d os).c11
            have g11 := fun d os => (hEK.regrown d os).c11
            clear hb b1 b2 hbel hEI hEK
            go_upto_region 10 with (fail)
            go_cut [63] from 30 to 62 (fun r wx => r = .bool (!(okI t l rows m n a b)) ∧ Below wr.heap.size wr wx)
            case first =>
              by_cases hr : a.live + b.live ≤ rows
              · have q1 : decide (rows < a.live + b.live) = false := by simp; omega
                cases hm2 : meetE t a b with
                | true =>
                  have HG := Lib.hid (show okI t l rows m n a b = true by rw [HOK.out, decide_eq_true hr, hm2]; rfl)
                  have D2 := Lib.hid (A2.out true hm2)
                  clear hr hm2
                  refine wp_region_quiet_below (by kernel_rfl) (by kernel_rfl) ?_
                  repeat (go_big_quiet_step ((first | (with_reducible exact D2.out _ _))))
                  refine wpQuiet_nil ?_
                  intro _ hw'
                  obtain ⟨⟨dq, osq⟩, hw''⟩ := hw'
                  subst hw''
                  go_wp2
                  go_meet
                  exact ⟨by rw [HG.out]; rfl, below_regrown wr dq osq⟩
                | false =>
                  have D2 := Lib.hid (A2.out false hm2)
                  cases hj : adjI t l m n a b with
                  | true =>
                    have HG := Lib.hid (show okI t l rows m n a b = true by rw [HOK.out, decide_eq_true hr, hm2, hj]; rfl)
                    have D3 := Lib.hid (A3.out true hj)
                    clear hr hm2 hj
                    refine wp_region_quiet_below (by kernel_rfl) (by kernel_rfl) ?_
                    repeat (go_big_quiet_step ((first | (with_reducible exact D2.out _ _) | (with_reducible exact D3.out _ _))))
                    refine wpQuiet_nil ?_
                    intro _ hw'
                    obtain ⟨⟨dq, osq⟩, hw''⟩ := hw'
                    subst hw''
                    go_wp2
                    go_meet
                    exact ⟨by rw [HG.out]; rfl, below_regrown wr dq osq⟩
                  | false =>
                    have HG := Lib.hid (show okI t l rows m n a b = false by rw [HOK.out, decide_eq_true hr, hm2, hj]; rfl)
                    have D3 := Lib.hid (A3.out false hj)
                    clear hr hm2 hj
                    refine wp_region_quiet_below (by kernel_rfl) (by kernel_rfl) ?_
                    repeat (go_big_quiet_step ((first | (with_reducible exact D2.out _ _) | (with_reducible exact D3.out _ _))))
                    refine wpQuiet_nil ?_
                    intro _ hw'
                    obtain ⟨⟨dq, osq⟩, hw''⟩ := hw'
                    subst hw''
                    go_wp2
                    go_meet
                    exact ⟨by rw [HG.out]; rfl, below_regrown wr dq osq⟩
              · have q1 : decide (rows < a.live + b.live) = true := by simp; omega
                have HG := Lib.hid (show okI t l rows m n a b = false by rw [HOK.out, decide_eq_false hr]; rfl)
                clear hr
                refine wp_region_quiet_below (by kernel_rfl) (by kernel_rfl) ?_
                repeat (go_big_quiet_step (fail))
                refine wpQuiet_nil ?_
                intro _ hw'
                obtain ⟨⟨dq, osq⟩, hw''⟩ := hw'
                subst hw''
                go_wp2
                go_meet
                exact ⟨by rw [HG.out]; rfl, below_regrown wr dq osq⟩
            case rest =>
              clear f0 g0
              clear f1 g1 f2 g2 f3 g3 f4 g4 f5 g5 f6 g6 f7 g7 f8 g8 f9 g9 f10 g10 f11 g11
              obtain ⟨rfl, hbc⟩ := hcut
              obtain ⟨ok, hok⟩ : ∃ q, okI t l rows m n a b = q := ⟨_, rfl⟩
              rw [hok]
              have HNY := Lib.hid (show rowQ t l rows m a (n + 1) = rowQ t l rows m a n ++ (if ok = true then [swp t a b] else []) by rw [HNX.out, hok])
              have K1 := Lib.hid (V1.out.below hbc V1.out.lt)
              have K2 := Lib.hid (V2.out.below hbc V2.out.lt)
              have KB := Lib.hid (bst VB.out hbc)
              clear hok hbc
              cases ok with
              | false =>
                have HN := Lib.hid (show minOf (rawLt t) (candQ t l rows m ++ rowQ t l rows m a (n + 1)) = S by rw [HNY.out, if_neg (by simp), List.append_nil]; exact hS.out)
                go_wp2
                go_roundw
                case rel => exact ⟨n + 1, S, HNT.out, by go_num, rfl, HN, K1.out, K2.out, KB.out⟩
                case measure => have := HNT.out; simp [intOf]; omega
              | true =>
                have HN := Lib.hid (show minOf (rawLt t) (candQ t l rows m ++ rowQ t l rows m a (n + 1)) = (if rawB t S (swp t a b) = true then some (swp t a b) else S) by rw [HNY.out, if_pos rfl, ← List.append_assoc, minOf_snoc, hS.out, minStep_raw])
                go_wp2_with fail
                refine (HO2.out _ KB.out).mono ?_
                rintro _ w5 ⟨rfl, hb5⟩
                have KB5 := Lib.hid (bst KB.out hb5)
                have K15 := Lib.hid (K1.out.below hb5 K1.out.lt)
                have K25 := Lib.hid (K2.out.below hb5 K2.out.lt)
                have hc5 := hb5.size
                clear hb5
                obtain ⟨x, y, ex, ey, hxl, hyl, hx, hy, HT, hsw⟩ : ∃ (x y : Nat) (ex ey : Ent), x < l.length ∧ y < l.length ∧ l[x]? = some ex ∧ l[y]? = some ey ∧
                    (if swapB t a b = true then Value.tuple #[.int .i64 (n : Int), .int .i64 (m : Int)] else .tuple #[.int .i64 (m : Int), .int .i64 (n : Int)]) = .tuple #[.int .i64 (x : Int), .int .i64 (y : Int)] ∧ swp t a b = (ex, ey) := by
                  cases hsw : swapB t a b with
                  | true => exact ⟨n, m, b, a, hkl, hlt, HBL.out, HAL.out, by rw [if_pos rfl], by unfold swp; rw [hsw, if_pos rfl]⟩
                  | false => exact ⟨m, n, a, b, hlt, hkl, HAL.out, HBL.out, by rw [if_neg (by simp)], by unfold swp; rw [hsw, if_neg (by simp)]⟩
                rw [HT]
                rw [hsw] at HN
                obtain ⟨ad2, ex2, px, e0, hx2, hpx, hEX⟩ := (HS.out.below KB5.out).ent_load rfl hxl
                injection e0 with e0
                subst e0
                rw [hx] at hx2
                injection hx2 with hx2
                subst hx2
                obtain ⟨ad2, ey2, py, e0, hy2, hpy, hEY⟩ := (HS.out.below KB5.out).ent_load rfl hyl
                injection e0 with e0
                subst e0
                rw [hy] at hy2
                injection hy2 with hy2
                subst hy2
                have EX := Lib.hid hEX
                have EY := Lib.hid hEY
                have hplX := hEX.lt
                have hplY := hEY.lt
                clear HT hsw hx hy hEX hEY hpi hpk
                obtain ⟨wd, hwd⟩ : ∃ q : World, q = wc := ⟨_, rfl⟩
                go_upto_region 12 with (fail)
                refine wp_region_inv (by kernel_rfl) (by kernel_rfl) (fun L a w' => ∃ u72 u73 u74 u75 u76 u77 u78 u79 u15 u16 : Value, a = ⟨#[.int .i64 t, .slice (some ad) l.length c, .int .i64 rows, undef, undef, undef, .int .i64 0, .int .i64 0, .bool S.isSome, .pointer (some ⟨N1, 0, none⟩), .pointer (some ⟨N1 + 1, 0, none⟩), .int .i64 m, .int .i64 n, .int .i64 x, .int .i64 y, u15, u16, .int .i64 t, .slice (some ad) l.length c, .bool true, .bool false, .slice (some ad) l.length c, .int .i64 l.length, .int .i64 m, .bool true, .int .i64 m, .int .i64 m, .int .i64 n, .bool true, .int .i64 n, u30, u31, u32, u33, u34, u35, u36, u37, u38, u39, u40, u41, u42, u43, u44, u45, u46, u47, u48, u49, u50, u51, u52, u53, u54, u55, u56, u57, u58, u59, u60, u61, u62, .bool false, .tuple #[.int .i64 x, .int .i64 y], .int .i64 t, .slice (some ad) l.length c, .int .i64 m, .int .i64 n, .tuple #[.int .i64 x, .int .i64 y], .int .i64 x, .int .i64 y, u72, u73, u74, u75, u76, u77, u78, u79, u80, u81, u82, u83, u84, u85, u86, u87, u88, u89, u90, u91, u92, u93, u94, u95, u96, u97, u98, u99, u100, u101, u102, u103, u104, u105, u106, u107, u108, u109, u110, u111, u112, undef, undef, undef, undef, undef], []⟩ ∧
                    Below w5.heap.size w5 w' ∧ Got (L 0) u72 (.slice (some ad) l.length c) ∧ Got (L 1) u73 (.int .i64 (x : Int)) ∧ Got (L 2) u74 (.pointer (some px)) ∧ Got (L 3) u75 (.agg #[.int .i64 ex.id, .int .i64 ex.rows, .int .i64 ex.live, .bool ex.lo.null, .int .i64 ex.lo.n, .string ex.lo.s, .int .i64 ex.lo.seq, .bool ex.hi.null, .int .i64 ex.hi.n, .string ex.hi.s, .int .i64 ex.hi.seq, .int .i64 ex.del]) ∧ Got (L 4) u76 (.slice (some ad) l.length c) ∧ Got (L 5) u77 (.int .i64 (y : Int)) ∧ Got (L 6) u78 (.pointer (some py)) ∧ Got (L 7) u79 (.agg #[.int .i64 ey.id, .int .i64 ey.rows, .int .i64 ey.live, .bool ey.lo.null, .int .i64 ey.lo.n, .string ey.lo.s, .int .i64 ey.lo.seq, .bool ey.hi.null, .int .i64 ey.hi.n, .string ey.hi.s, .int .i64 ey.hi.seq, .int .i64 ey.del]) ∧ (L 8 = true → ∃ A, u15 = .pointer (some ⟨A, 0, none⟩) ∧ w5.heap.size ≤ A ∧ Blk w' A 41 (if L 10 = true then #[.int .i64 ex.id, .int .i64 ex.rows, .int .i64 ex.live, .bool ex.lo.null, .int .i64 ex.lo.n, .string ex.lo.s, .int .i64 ex.lo.seq, .bool ex.hi.null, .int .i64 ex.hi.n, .string ex.hi.s, .int .i64 ex.hi.seq, .int .i64 ex.del] else #[.int .i64 0, .int .i64 0, .int .i64 0, .bool false, .int .i64 0, .string { data := #[] }, .int .i64 0, .bool false, .int .i64 0, .string { data := #[] }, .int .i64 0, .int .i64 0])) ∧ (L 9 = true → ∃ A, u16 = .pointer (some ⟨A, 0, none⟩) ∧ w5.heap.size ≤ A ∧ Blk w' A 41 (if L 11 = true then #[.int .i64 ey.id, .int .i64 ey.rows, .int .i64 ey.live, .bool ey.lo.null, .int .i64 ey.lo.n, .string ey.lo.s, .int .i64 ey.lo.seq, .bool ey.hi.null, .int .i64 ey.hi.n, .string ey.hi.s, .int .i64 ey.hi.seq, .int .i64 ey.del] else #[.int .i64 0, .int .i64 0, .int .i64 0, .bool false, .int .i64 0, .string { data := #[] }, .int .i64 0, .bool false, .int .i64 0, .string { data := #[] }, .int .i64 0, .int .i64 0])) ∧ (L 8 = true → L 9 = true → u15 ≠ u16) ∧ (L 10 = true → L 8 = true) ∧ (L 11 = true → L 9 = true))
                  ?_ ?_ ?_
                · exact ⟨_, _, _, _, _, _, _, _, _, _, rfl, (Below.refl _ _).drew, nofun, nofun, nofun, nofun, nofun, nofun, nofun, nofun, nofun, nofun, nofun, nofun, nofun⟩
                · refine ⟨?_, ?_, ?_, ?_, ?_, ?_, ?_, ?_, ?_, ?_, ?_, ?_, trivial⟩
                  · intro L a w' hI hl hd K hK
                    refine hI.elim fun u72 hI => hI.elim fun u73 hI => hI.elim fun u74 hI => hI.elim fun u75 hI => hI.elim fun u76 hI => hI.elim fun u77 hI => hI.elim fun u78 hI => hI.elim fun u79 hI => hI.elim fun u15 hI => hI.elim fun u16 hI => ?_
                    have ha := hI.1
                    subst ha
                    have hb := hI.2.1
                    have g0 := hI.2.2.1
                    have g1 := hI.2.2.2.1
                    have g2 := hI.2.2.2.2.1
                    have g3 := hI.2.2.2.2.2.1
                    have g4 := hI.2.2.2.2.2.2.1
                    have g5 := hI.2.2.2.2.2.2.2.1
                    have g6 := hI.2.2.2.2.2.2.2.2.1
                    have g7 := hI.2.2.2.2.2.2.2.2.2.1
                    have g8 := hI.2.2.2.2.2.2.2.2.2.2.1
                    have g9 := hI.2.2.2.2.2.2.2.2.2.2.2.1
                    have g10 := hI.2.2.2.2.2.2.2.2.2.2.2.2.1
                    have g11 := hI.2.2.2.2.2.2.2.2.2.2.2.2.2.1
                    have g12 := hI.2.2.2.2.2.2.2.2.2.2.2.2.2.2
                    clear hI
                    dsimp only at hK ⊢
                    go_simp
                    exact hK _ _ ⟨_, _, _, _, _, _, _, _, _, _, rfl, hb, fun _ => rfl, g1, g2, g3, g4, g5, g6, g7, g8, g9, g10, g11, g12⟩
                  · intro L a w' hI hl hd K hK
                    refine hI.elim fun u72 hI => hI.elim fun u73 hI => hI.elim fun u74 hI => hI.elim fun u75 hI => hI.elim fun u76 hI => hI.elim fun u77 hI => hI.elim fun u78 hI => hI.elim fun u79 hI => hI.elim fun u15 hI => hI.elim fun u16 hI => ?_
                    have ha := hI.1
                    subst ha
                    have hb := hI.2.1
                    have g0 := hI.2.2.1
                    have g1 := hI.2.2.2.1
                    have g2 := hI.2.2.2.2.1
                    have g3 := hI.2.2.2.2.2.1
                    have g4 := hI.2.2.2.2.2.2.1
                    have g5 := hI.2.2.2.2.2.2.2.1
                    have g6 := hI.2.2.2.2.2.2.2.2.1
                    have g7 := hI.2.2.2.2.2.2.2.2.2.1
                    have g8 := hI.2.2.2.2.2.2.2.2.2.2.1
                    have g9 := hI.2.2.2.2.2.2.2.2.2.2.2.1
                    have g10 := hI.2.2.2.2.2.2.2.2.2.2.2.2.1
                    have g11 := hI.2.2.2.2.2.2.2.2.2.2.2.2.2.1
                    have g12 := hI.2.2.2.2.2.2.2.2.2.2.2.2.2.2
                    clear hI
                    dsimp only at hK ⊢
                    go_simp
                    exact hK _ _ ⟨_, _, _, _, _, _, _, _, _, _, rfl, hb, g0, fun _ => rfl, g2, g3, g4, g5, g6, g7, g8, g9, g10, g11, g12⟩
                  · intro L a w' hI hl hd K hK
                    refine hI.elim fun u72 hI => hI.elim fun u73 hI => hI.elim fun u74 hI => hI.elim fun u75 hI => hI.elim fun u76 hI => hI.elim fun u77 hI => hI.elim fun u78 hI => hI.elim fun u79 hI => hI.elim fun u15 hI => hI.elim fun u16 hI => ?_
                    have ha := hI.1
                    subst ha
                    have hb := hI.2.1
                    have g0 := hI.2.2.1
                    have g1 := hI.2.2.2.1
                    have g2 := hI.2.2.2.2.1
                    have g3 := hI.2.2.2.2.2.1
                    have g4 := hI.2.2.2.2.2.2.1
                    have g5 := hI.2.2.2.2.2.2.2.1
                    have g6 := hI.2.2.2.2.2.2.2.2.1
                    have g7 := hI.2.2.2.2.2.2.2.2.2.1
                    have g8 := hI.2.2.2.2.2.2.2.2.2.2.1
                    have g9 := hI.2.2.2.2.2.2.2.2.2.2.2.1
                    have g10 := hI.2.2.2.2.2.2.2.2.2.2.2.2.1
                    have g11 := hI.2.2.2.2.2.2.2.2.2.2.2.2.2.1
                    have g12 := hI.2.2.2.2.2.2.2.2.2.2.2.2.2.2
                    clear hI
                    simp [Region.binds] at hd
                    dsimp only at hK ⊢
                    have e0 := g0 (by simp [hd])
                    subst e0
                    have e1 := g1 (by simp [hd])
                    subst e1
                    go_simp
                    exact hK _ _ ⟨_, _, _, _, _, _, _, _, _, _, rfl, hb, g0, g1, fun _ => rfl, g3, g4, g5, g6, g7, g8, g9, g10, g11, g12⟩
                  · intro L a w' hI hl hd K hK
                    refine hI.elim fun u72 hI => hI.elim fun u73 hI => hI.elim fun u74 hI => hI.elim fun u75 hI => hI.elim fun u76 hI => hI.elim fun u77 hI => hI.elim fun u78 hI => hI.elim fun u79 hI => hI.elim fun u15 hI => hI.elim fun u16 hI => ?_
                    have ha := hI.1
                    subst ha
                    have hb := hI.2.1
                    have g0 := hI.2.2.1
                    have g1 := hI.2.2.2.1
                    have g2 := hI.2.2.2.2.1
                    have g3 := hI.2.2.2.2.2.1
                    have g4 := hI.2.2.2.2.2.2.1
                    have g5 := hI.2.2.2.2.2.2.2.1
                    have g6 := hI.2.2.2.2.2.2.2.2.1
                    have g7 := hI.2.2.2.2.2.2.2.2.2.1
                    have g8 := hI.2.2.2.2.2.2.2.2.2.2.1
                    have g9 := hI.2.2.2.2.2.2.2.2.2.2.2.1
                    have g10 := hI.2.2.2.2.2.2.2.2.2.2.2.2.1
                    have g11 := hI.2.2.2.2.2.2.2.2.2.2.2.2.2.1
                    have g12 := hI.2.2.2.2.2.2.2.2.2.2.2.2.2.2
                    clear hI
                    simp [Region.binds] at hd
                    dsimp only at hK ⊢
                    have e2 := g2 (by simp [hd])
                    subst e2
                    obtain ⟨_, c0, c1, c2, c3, c4, c5, c6, c7, c8, c9, c10, c11⟩ := EX.out.below hb
                    go_simp
                    exact hK _ _ ⟨_, _, _, _, _, _, _, _, _, _, rfl, hb, g0, g1, g2, fun _ => rfl, g4, g5, g6, g7, g8, g9, g10, g11, g12⟩
                  · intro L a w' hI hl hd K hK
                    refine hI.elim fun u72 hI => hI.elim fun u73 hI => hI.elim fun u74 hI => hI.elim fun u75 hI => hI.elim fun u76 hI => hI.elim fun u77 hI => hI.elim fun u78 hI => hI.elim fun u79 hI => hI.elim fun u15 hI => hI.elim fun u16 hI => ?_
                    have ha := hI.1
                    subst ha
                    have hb := hI.2.1
                    have g0 := hI.2.2.1
                    have g1 := hI.2.2.2.1
                    have g2 := hI.2.2.2.2.1
                    have g3 := hI.2.2.2.2.2.1
                    have g4 := hI.2.2.2.2.2.2.1
                    have g5 := hI.2.2.2.2.2.2.2.1
                    have g6 := hI.2.2.2.2.2.2.2.2.1
                    have g7 := hI.2.2.2.2.2.2.2.2.2.1
                    have g8 := hI.2.2.2.2.2.2.2.2.2.2.1
                    have g9 := hI.2.2.2.2.2.2.2.2.2.2.2.1
                    have g10 := hI.2.2.2.2.2.2.2.2.2.2.2.2.1
                    have g11 := hI.2.2.2.2.2.2.2.2.2.2.2.2.2.1
                    have g12 := hI.2.2.2.2.2.2.2.2.2.2.2.2.2.2
                    clear hI
                    dsimp only at hK ⊢
                    go_simp
                    exact hK _ _ ⟨_, _, _, _, _, _, _, _, _, _, rfl, hb, g0, g1, g2, g3, fun _ => rfl, g5, g6, g7, g8, g9, g10, g11, g12⟩
                  · intro L a w' hI hl hd K hK
                    refine hI.elim fun u72 hI => hI.elim fun u73 hI => hI.elim fun u74 hI => hI.elim fun u75 hI => hI.elim fun u76 hI => hI.elim fun u77 hI => hI.elim fun u78 hI => hI.elim fun u79 hI => hI.elim fun u15 hI => hI.elim fun u16 hI => ?_
                    have ha := hI.1
                    subst ha
                    have hb := hI.2.1
                    have g0 := hI.2.2.1
                    have g1 := hI.2.2.2.1
                    have g2 := hI.2.2.2.2.1
                    have g3 := hI.2.2.2.2.2.1
                    have g4 := hI.2.2.2.2.2.2.1
                    have g5 := hI.2.2.2.2.2.2.2.1
                    have g6 := hI.2.2.2.2.2.2.2.2.1
                    have g7 := hI.2.2.2.2.2.2.2.2.2.1
                    have g8 := hI.2.2.2.2.2.2.2.2.2.2.1
                    have g9 := hI.2.2.2.2.2.2.2.2.2.2.2.1
                    have g10 := hI.2.2.2.2.2.2.2.2.2.2.2.2.1
                    have g11 := hI.2.2.2.2.2.2.2.2.2.2.2.2.2.1
                    have g12 := hI.2.2.2.2.2.2.2.2.2.2.2.2.2.2
                    clear hI
                    dsimp only at hK ⊢
                    go_simp
                    exact hK _ _ ⟨_, _, _, _, _, _, _, _, _, _, rfl, hb, g0, g1, g2, g3, g4, fun _ => rfl, g6, g7, g8, g9, g10, g11, g12⟩
                  · intro L a w' hI hl hd K hK
                    refine hI.elim fun u72 hI => hI.elim fun u73 hI => hI.elim fun u74 hI => hI.elim fun u75 hI => hI.elim fun u76 hI => hI.elim fun u77 hI => hI.elim fun u78 hI => hI.elim fun u79 hI => hI.elim fun u15 hI => hI.elim fun u16 hI => ?_
                    have ha := hI.1
                    subst ha
                    have hb := hI.2.1
                    have g0 := hI.2.2.1
                    have g1 := hI.2.2.2.1
                    have g2 := hI.2.2.2.2.1
                    have g3 := hI.2.2.2.2.2.1
                    have g4 := hI.2.2.2.2.2.2.1
                    have g5 := hI.2.2.2.2.2.2.2.1
                    have g6 := hI.2.2.2.2.2.2.2.2.1
                    have g7 := hI.2.2.2.2.2.2.2.2.2.1
                    have g8 := hI.2.2.2.2.2.2.2.2.2.2.1
                    have g9 := hI.2.2.2.2.2.2.2.2.2.2.2.1
                    have g10 := hI.2.2.2.2.2.2.2.2.2.2.2.2.1
                    have g11 := hI.2.2.2.2.2.2.2.2.2.2.2.2.2.1
                    have g12 := hI.2.2.2.2.2.2.2.2.2.2.2.2.2.2
                    clear hI
                    simp [Region.binds] at hd
                    dsimp only at hK ⊢
                    have e4 := g4 (by simp [hd])
                    subst e4
                    have e5 := g5 (by simp [hd])
                    subst e5
                    go_simp
                    exact hK _ _ ⟨_, _, _, _, _, _, _, _, _, _, rfl, hb, g0, g1, g2, g3, g4, g5, fun _ => rfl, g7, g8, g9, g10, g11, g12⟩
                  · intro L a w' hI hl hd K hK
                    refine hI.elim fun u72 hI => hI.elim fun u73 hI => hI.elim fun u74 hI => hI.elim fun u75 hI => hI.elim fun u76 hI => hI.elim fun u77 hI => hI.elim fun u78 hI => hI.elim fun u79 hI => hI.elim fun u15 hI => hI.elim fun u16 hI => ?_
                    have ha := hI.1
                    subst ha
                    have hb := hI.2.1
                    have g0 := hI.2.2.1
                    have g1 := hI.2.2.2.1
                    have g2 := hI.2.2.2.2.1
                    have g3 := hI.2.2.2.2.2.1
                    have g4 := hI.2.2.2.2.2.2.1
                    have g5 := hI.2.2.2.2.2.2.2.1
                    have g6 := hI.2.2.2.2.2.2.2.2.1
                    have g7 := hI.2.2.2.2.2.2.2.2.2.1
                    have g8 := hI.2.2.2.2.2.2.2.2.2.2.1
                    have g9 := hI.2.2.2.2.2.2.2.2.2.2.2.1
                    have g10 := hI.2.2.2.2.2.2.2.2.2.2.2.2.1
                    have g11 := hI.2.2.2.2.2.2.2.2.2.2.2.2.2.1
                    have g12 := hI.2.2.2.2.2.2.2.2.2.2.2.2.2.2
                    clear hI
                    simp [Region.binds] at hd
                    dsimp only at hK ⊢
                    have e6 := g6 (by simp [hd])
                    subst e6
                    obtain ⟨_, c0, c1, c2, c3, c4, c5, c6, c7, c8, c9, c10, c11⟩ := EY.out.below hb
                    go_simp
                    exact hK _ _ ⟨_, _, _, _, _, _, _, _, _, _, rfl, hb, g0, g1, g2, g3, g4, g5, g6, fun _ => rfl, g8, g9, g10, g11, g12⟩
                  · intro L a w' hI hl hd K hK
                    refine hI.elim fun u72 hI => hI.elim fun u73 hI => hI.elim fun u74 hI => hI.elim fun u75 hI => hI.elim fun u76 hI => hI.elim fun u77 hI => hI.elim fun u78 hI => hI.elim fun u79 hI => hI.elim fun u15 hI => hI.elim fun u16 hI => ?_
                    have ha := hI.1
                    subst ha
                    have hb := hI.2.1
                    have g0 := hI.2.2.1
                    have g1 := hI.2.2.2.1
                    have g2 := hI.2.2.2.2.1
                    have g3 := hI.2.2.2.2.2.1
                    have g4 := hI.2.2.2.2.2.2.1
                    have g5 := hI.2.2.2.2.2.2.2.1
                    have g6 := hI.2.2.2.2.2.2.2.2.1
                    have g7 := hI.2.2.2.2.2.2.2.2.2.1
                    have g8 := hI.2.2.2.2.2.2.2.2.2.2.1
                    have g9 := hI.2.2.2.2.2.2.2.2.2.2.2.1
                    have g10 := hI.2.2.2.2.2.2.2.2.2.2.2.2.1
                    have g11 := hI.2.2.2.2.2.2.2.2.2.2.2.2.2.1
                    have g12 := hI.2.2.2.2.2.2.2.2.2.2.2.2.2.2
                    clear hI
                    dsimp only at hK ⊢
                    have h10 : L 10 = false := by
                      cases h : L 10 with
                      | false => rfl
                      | true => have := g11 h; rw [hl] at this; cases this
                    go_simp
                    exact hK _ _ ⟨_, _, _, _, _, _, _, _, _, _, rfl, hb.alloc hb.size _, g0, g1, g2, g3, g4, g5, g6, g7, fun _ => ⟨w'.heap.size, rfl, hb.size, by show Blk _ _ _ (if L 10 = true then _ else _); rw [if_neg (by rw [h10]; simp)]; exact Blk.new _ _ _⟩, fun h => by
            obtain ⟨A, q1, q2, q3⟩ := g9 h
            exact ⟨A, q1, q2, q3.alloc _⟩, fun _ h9 => by
            obtain ⟨A, q1, q2, q3⟩ := g9 h9
            rw [q1]
            intro e
            injection e with e
            injection e with e
            injection e with e
            have := q3.lt
            omega, fun h => absurd (show L 10 = true from h) (by rw [h10]; simp), g12⟩
                  · intro L a w' hI hl hd K hK
                    refine hI.elim fun u72 hI => hI.elim fun u73 hI => hI.elim fun u74 hI => hI.elim fun u75 hI => hI.elim fun u76 hI => hI.elim fun u77 hI => hI.elim fun u78 hI => hI.elim fun u79 hI => hI.elim fun u15 hI => hI.elim fun u16 hI => ?_
                    have ha := hI.1
                    subst ha
                    have hb := hI.2.1
                    have g0 := hI.2.2.1
                    have g1 := hI.2.2.2.1
                    have g2 := hI.2.2.2.2.1
                    have g3 := hI.2.2.2.2.2.1
                    have g4 := hI.2.2.2.2.2.2.1
                    have g5 := hI.2.2.2.2.2.2.2.1
                    have g6 := hI.2.2.2.2.2.2.2.2.1
                    have g7 := hI.2.2.2.2.2.2.2.2.2.1
                    have g8 := hI.2.2.2.2.2.2.2.2.2.2.1
                    have g9 := hI.2.2.2.2.2.2.2.2.2.2.2.1
                    have g10 := hI.2.2.2.2.2.2.2.2.2.2.2.2.1
                    have g11 := hI.2.2.2.2.2.2.2.2.2.2.2.2.2.1
                    have g12 := hI.2.2.2.2.2.2.2.2.2.2.2.2.2.2
                    clear hI
                    dsimp only at hK ⊢
                    have h11 : L 11 = false := by
                      cases h : L 11 with
                      | false => rfl
                      | true => have := g12 h; rw [hl] at this; cases this
                    go_simp
                    exact hK _ _ ⟨_, _, _, _, _, _, _, _, _, _, rfl, hb.alloc hb.size _, g0, g1, g2, g3, g4, g5, g6, g7, fun h => by
            obtain ⟨A, q1, q2, q3⟩ := g8 h
            exact ⟨A, q1, q2, q3.alloc _⟩, fun _ => ⟨w'.heap.size, rfl, hb.size, by show Blk _ _ _ (if L 11 = true then _ else _); rw [if_neg (by rw [h11]; simp)]; exact Blk.new _ _ _⟩, fun h8 _ => by
            obtain ⟨A, q1, q2, q3⟩ := g8 h8
            rw [q1]
            intro e
            injection e with e
            injection e with e
            injection e with e
            have := q3.lt
            omega, g11, fun h => absurd (show L 11 = true from h) (by rw [h11]; simp)⟩
                  · intro L a w' hI hl hd K hK
                    refine hI.elim fun u72 hI => hI.elim fun u73 hI => hI.elim fun u74 hI => hI.elim fun u75 hI => hI.elim fun u76 hI => hI.elim fun u77 hI => hI.elim fun u78 hI => hI.elim fun u79 hI => hI.elim fun u15 hI => hI.elim fun u16 hI => ?_
                    have ha := hI.1
                    subst ha
                    have hb := hI.2.1
                    have g0 := hI.2.2.1
                    have g1 := hI.2.2.2.1
                    have g2 := hI.2.2.2.2.1
                    have g3 := hI.2.2.2.2.2.1
                    have g4 := hI.2.2.2.2.2.2.1
                    have g5 := hI.2.2.2.2.2.2.2.1
                    have g6 := hI.2.2.2.2.2.2.2.2.1
                    have g7 := hI.2.2.2.2.2.2.2.2.2.1
                    have g8 := hI.2.2.2.2.2.2.2.2.2.2.1
                    have g9 := hI.2.2.2.2.2.2.2.2.2.2.2.1
                    have g10 := hI.2.2.2.2.2.2.2.2.2.2.2.2.1
                    have g11 := hI.2.2.2.2.2.2.2.2.2.2.2.2.2.1
                    have g12 := hI.2.2.2.2.2.2.2.2.2.2.2.2.2.2
                    clear hI
                    simp [Region.binds] at hd
                    dsimp only at hK ⊢
                    have e3 := g3 (by simp [hd])
                    subst e3
                    have hdA : L 8 = true := by simp [hd]
                    obtain ⟨A, e1, e2, e3⟩ := g8 hdA
                    subst e1
                    rw [if_neg (by rw [hl]; simp)] at e3
                    have f0 := e3.frozen 0
                    have f1 := e3.frozen 1
                    have f2 := e3.frozen 2
                    have f3 := e3.frozen 3
                    have f4 := e3.frozen 4
                    have f5 := e3.frozen 5
                    have f6 := e3.frozen 6
                    have f7 := e3.frozen 7
                    have f8 := e3.frozen 8
                    have f9 := e3.frozen 9
                    have f10 := e3.frozen 10
                    have f11 := e3.frozen 11
                    have c0 := e3.cell 0
                    have c1 := e3.cell 1
                    have c2 := e3.cell 2
                    have c3 := e3.cell 3
                    have c4 := e3.cell 4
                    have c5 := e3.cell 5
                    have c6 := e3.cell 6
                    have c7 := e3.cell 7
                    have c8 := e3.cell 8
                    have c9 := e3.cell 9
                    have c10 := e3.cell 10
                    have c11 := e3.cell 11
                    simp only [List.getElem?_toArray, List.getElem?_cons_zero, List.getElem?_cons_succ] at c0 c1 c2 c3 c4 c5 c6 c7 c8 c9 c10 c11
                    have hlt9 := e3.lt
                    go_simp
                    have kg := grown12 w' A (.int .i64 ex.id) (.int .i64 ex.rows) (.int .i64 ex.live) (.bool ex.lo.null) (.int .i64 ex.lo.n) (.string ex.lo.s) (.int .i64 ex.lo.seq) (.bool ex.hi.null) (.int .i64 ex.hi.n) (.string ex.hi.s) (.int .i64 ex.hi.seq) (.int .i64 ex.del)
                    have kb := blk12 (.int .i64 ex.id) (.int .i64 ex.rows) (.int .i64 ex.live) (.bool ex.lo.null) (.int .i64 ex.lo.n) (.string ex.lo.s) (.int .i64 ex.lo.seq) (.bool ex.hi.null) (.int .i64 ex.hi.n) (.string ex.hi.s) (.int .i64 ex.hi.seq) (.int .i64 ex.del) e3
                    exact hK _ _ ⟨_, _, _, _, _, _, _, _, _, _, rfl, below_row hb kg e2 hb.size, g0, g1, g2, g3, g4, g5, g6, g7, fun _ => ⟨A, rfl, e2, by show Blk _ _ _ (if upd L 10 10 = true then _ else _); rw [if_pos (by simp [upd])]; exact kb⟩, fun h => by
            obtain ⟨B, q1, q2, q3⟩ := g9 h
            refine ⟨B, q1, q2, q3.row kg fun e => ?_⟩
            subst e
            exact g10 hdA h q1.symm, g10, fun _ => hdA, g12⟩
                  · intro L a w' hI hl hd K hK
                    refine hI.elim fun u72 hI => hI.elim fun u73 hI => hI.elim fun u74 hI => hI.elim fun u75 hI => hI.elim fun u76 hI => hI.elim fun u77 hI => hI.elim fun u78 hI => hI.elim fun u79 hI => hI.elim fun u15 hI => hI.elim fun u16 hI => ?_
                    have ha := hI.1
                    subst ha
                    have hb := hI.2.1
                    have g0 := hI.2.2.1
                    have g1 := hI.2.2.2.1
                    have g2 := hI.2.2.2.2.1
                    have g3 := hI.2.2.2.2.2.1
                    have g4 := hI.2.2.2.2.2.2.1
                    have g5 := hI.2.2.2.2.2.2.2.1
                    have g6 := hI.2.2.2.2.2.2.2.2.1
                    have g7 := hI.2.2.2.2.2.2.2.2.2.1
                    have g8 := hI.2.2.2.2.2.2.2.2.2.2.1
                    have g9 := hI.2.2.2.2.2.2.2.2.2.2.2.1
                    have g10 := hI.2.2.2.2.2.2.2.2.2.2.2.2.1
                    have g11 := hI.2.2.2.2.2.2.2.2.2.2.2.2.2.1
                    have g12 := hI.2.2.2.2.2.2.2.2.2.2.2.2.2.2
                    clear hI
                    simp [Region.binds] at hd
                    dsimp only at hK ⊢
                    have e7 := g7 (by simp [hd])
                    subst e7
                    have hdA : L 9 = true := by simp [hd]
                    obtain ⟨A, e1, e2, e3⟩ := g9 hdA
                    subst e1
                    rw [if_neg (by rw [hl]; simp)] at e3
                    have f0 := e3.frozen 0
                    have f1 := e3.frozen 1
                    have f2 := e3.frozen 2
                    have f3 := e3.frozen 3
                    have f4 := e3.frozen 4
                    have f5 := e3.frozen 5
                    have f6 := e3.frozen 6
                    have f7 := e3.frozen 7
                    have f8 := e3.frozen 8
                    have f9 := e3.frozen 9
                    have f10 := e3.frozen 10
                    have f11 := e3.frozen 11
                    have c0 := e3.cell 0
                    have c1 := e3.cell 1
                    have c2 := e3.cell 2
                    have c3 := e3.cell 3
                    have c4 := e3.cell 4
                    have c5 := e3.cell 5
                    have c6 := e3.cell 6
                    have c7 := e3.cell 7
                    have c8 := e3.cell 8
                    have c9 := e3.cell 9
                    have c10 := e3.cell 10
                    have c11 := e3.cell 11
                    simp only [List.getElem?_toArray, List.getElem?_cons_zero, List.getElem?_cons_succ] at c0 c1 c2 c3 c4 c5 c6 c7 c8 c9 c10 c11
                    have hlt9 := e3.lt
                    go_simp
                    have kg := grown12 w' A (.int .i64 ey.id) (.int .i64 ey.rows) (.int .i64 ey.live) (.bool ey.lo.null) (.int .i64 ey.lo.n) (.string ey.lo.s) (.int .i64 ey.lo.seq) (.bool ey.hi.null) (.int .i64 ey.hi.n) (.string ey.hi.s) (.int .i64 ey.hi.seq) (.int .i64 ey.del)
                    have kb := blk12 (.int .i64 ey.id) (.int .i64 ey.rows) (.int .i64 ey.live) (.bool ey.lo.null) (.int .i64 ey.lo.n) (.string ey.lo.s) (.int .i64 ey.lo.seq) (.bool ey.hi.null) (.int .i64 ey.hi.n) (.string ey.hi.s) (.int .i64 ey.hi.seq) (.int .i64 ey.del) e3
                    exact hK _ _ ⟨_, _, _, _, _, _, _, _, _, _, rfl, below_row hb kg e2 hb.size, g0, g1, g2, g3, g4, g5, g6, g7, fun h => by
            obtain ⟨B, q1, q2, q3⟩ := g8 h
            refine ⟨B, q1, q2, q3.row kg fun e => ?_⟩
            subst e
            exact g10 h hdA q1, fun _ => ⟨A, rfl, e2, by show Blk _ _ _ (if upd L 11 11 = true then _ else _); rw [if_pos (by simp [upd])]; exact kb⟩, g10, g11, fun _ => hdA⟩
                intro a w6 hI
                refine hI.elim fun u72 hI => hI.elim fun u73 hI => hI.elim fun u74 hI => hI.elim fun u75 hI => hI.elim fun u76 hI => hI.elim fun u77 hI => hI.elim fun u78 hI => hI.elim fun u79 hI => hI.elim fun u15 hI => hI.elim fun u16 hI => ?_
                have ha := hI.1
                subst ha
                have hb := hI.2.1
                have g0 := hI.2.2.1
                have g1 := hI.2.2.2.1
                have g2 := hI.2.2.2.2.1
                have g3 := hI.2.2.2.2.2.1
                have g4 := hI.2.2.2.2.2.2.1
                have g5 := hI.2.2.2.2.2.2.2.1
                have g6 := hI.2.2.2.2.2.2.2.2.1
                have g7 := hI.2.2.2.2.2.2.2.2.2.1
                have g8 := hI.2.2.2.2.2.2.2.2.2.2.1
                have g9 := hI.2.2.2.2.2.2.2.2.2.2.2.1
                have g10 := hI.2.2.2.2.2.2.2.2.2.2.2.2.1
                have g11 := hI.2.2.2.2.2.2.2.2.2.2.2.2.2.1
                have g12 := hI.2.2.2.2.2.2.2.2.2.2.2.2.2.2
                clear hI
                have e0 := g0 rfl
                subst e0
                have e1 := g1 rfl
                subst e1
                have e2 := g2 rfl
                subst e2
                have e3 := g3 rfl
                subst e3
                have e4 := g4 rfl
                subst e4
                have e5 := g5 rfl
                subst e5
                have e6 := g6 rfl
                subst e6
                have e7 := g7 rfl
                subst e7
                obtain ⟨P1, e8, hP1, bP1⟩ := g8 rfl
                obtain ⟨P2, e9, hP2, bP2⟩ := g9 rfl
                subst e8
                subst e9
                rw [if_pos rfl] at bP1 bP2
                have M1 := Lib.hid bP1
                have M2 := Lib.hid bP2
                have K16 := Lib.hid (K15.out.below hb K15.out.lt)
                have K26 := Lib.hid (K25.out.below hb K25.out.lt)
                have KB6 := Lib.hid (bst KB5.out hb)
                have hNP1 : N1 + 1 < P1 := Nat.lt_of_lt_of_le K25.out.lt hP1
                have hNP2 : N1 + 1 < P2 := Nat.lt_of_lt_of_le K25.out.lt hP2
                clear g0 g1 g2 g3 g4 g5 g6 g7 g8 g9 g10 g11 g12 bP1 bP2 hb hpx hpy hplX hplY
                go_upto_region 13 with (fail)
                go_cut [108] from 80 to 107 (fun r wx => r = .bool (rawB t S (ex, ey)) ∧ Below w6.heap.size w6 wx)
                case first =>
                  cases S with
                  | none =>
                    simp only [Option.isSome_none]
                    go_quiet (fail)
                    go_wp2
                    go_meet
                    exact ⟨rfl, below_drewN (Below.refl _ _) _⟩
                  | some s =>
                    obtain ⟨sa, sb⟩ := s
                    simp only [Option.isSome_some]
                    simp only [show (pairE (some (sa, sb))).1 = sa from rfl] at K16
                    simp only [show (pairE (some (sa, sb))).2 = sb from rfl] at K26
                    obtain ⟨k1, hk1⟩ : ∃ q, cmpR t ex.lo sa.lo = q := ⟨_, rfl⟩
                    obtain ⟨k2, hk2⟩ : ∃ q, cmpR t ey.lo sb.lo = q := ⟨_, rfl⟩
                    obtain ⟨o1, ho1⟩ : ∃ q, ordI ex.id sa.id = q := ⟨_, rfl⟩
                    obtain ⟨o2, ho2⟩ : ∃ q, ordI ey.id sb.id = q := ⟨_, rfl⟩
                    have C1 := Lib.hid (fun (X : World) => show Calls Try.prog 46 #[.int .i64 t, .agg #[.bool ex.lo.null, .int .i64 ex.lo.n, .string ex.lo.s, .int .i64 ex.lo.seq], .agg #[.bool sa.lo.null, .int .i64 sa.lo.n, .string sa.lo.s, .int .i64 sa.lo.seq]] X (RetN X k1) by rw [← hk1]; exact bcmp_any t ex.lo sa.lo X)
                    have C2 := Lib.hid (fun (X : World) => show Calls Try.prog 46 #[.int .i64 t, .agg #[.bool ey.lo.null, .int .i64 ey.lo.n, .string ey.lo.s, .int .i64 ey.lo.seq], .agg #[.bool sb.lo.null, .int .i64 sb.lo.n, .string sb.lo.s, .int .i64 sb.lo.seq]] X (RetN X k2) by rw [← hk2]; exact bcmp_any t ey.lo sb.lo X)
                    have D1 := Lib.hid (fun (X : World) => show Calls Try.prog 37 #[.int .i64 ex.id, .int .i64 sa.id] X (RetI0 X o1) by rw [← ho1]; exact cmpJ_any ex.id sa.id X)
                    have D2 := Lib.hid (fun (X : World) => show Calls Try.prog 37 #[.int .i64 ey.id, .int .i64 sb.id] X (RetI0 X o2) by rw [← ho2]; exact cmpJ_any ey.id sb.id X)
                    obtain ⟨sr, hsr⟩ : ∃ q, decide (orV [k1, o1, k2, o2] < 0) = q := ⟨_, rfl⟩
                    have HSR := Lib.hid hsr
                    have HRB := Lib.hid (show rawB t (some (sa, sb)) (ex, ey) = sr by show decide (orV [cmpR t ex.lo sa.lo, ordI ex.id sa.id, cmpR t ey.lo sb.lo, ordI ey.id sb.id] < 0) = sr; rw [hk1, hk2, ho1, ho2, hsr])
                    clear hk1 hk2 ho1 ho2 hsr
                    refine wp_region_inv (by kernel_rfl) (by kernel_rfl) (fun L a w' => ∃ u80 u81 u82 u83 u84 u85 u86 u87 u88 u89 u90 u91 u92 u93 u94 u95 u96 u97 u98 u99 u100 u101 u102 u103 u104 u105 u106 u107 u108 : Value, a = ⟨#[.int .i64 t, .slice (some ad) l.length c, .int .i64 rows, undef, undef, undef, .int .i64 0, .int .i64 0, .bool true, .pointer (some ⟨N1, 0, none⟩), .pointer (some ⟨N1 + 1, 0, none⟩), .int .i64 m, .int .i64 n, .int .i64 x, .int .i64 y, .pointer (some ⟨P1, 0, none⟩), .pointer (some ⟨P2, 0, none⟩), .int .i64 t, .slice (some ad) l.length c, .bool true, .bool false, .slice (some ad) l.length c, .int .i64 l.length, .int .i64 m, .bool true, .int .i64 m, .int .i64 m, .int .i64 n, .bool true, .int .i64 n, u30, u31, u32, u33, u34, u35, u36, u37, u38, u39, u40, u41, u42, u43, u44, u45, u46, u47, u48, u49, u50, u51, u52, u53, u54, u55, u56, u57, u58, u59, u60, u61, u62, .bool false, .tuple #[.int .i64 x, .int .i64 y], .int .i64 t, .slice (some ad) l.length c, .int .i64 m, .int .i64 n, .tuple #[.int .i64 x, .int .i64 y], .int .i64 x, .int .i64 y, .slice (some ad) l.length c, .int .i64 x, .pointer (some px), .agg #[.int .i64 ex.id, .int .i64 ex.rows, .int .i64 ex.live, .bool ex.lo.null, .int .i64 ex.lo.n, .string ex.lo.s, .int .i64 ex.lo.seq, .bool ex.hi.null, .int .i64 ex.hi.n, .string ex.hi.s, .int .i64 ex.hi.seq, .int .i64 ex.del], .slice (some ad) l.length c, .int .i64 y, .pointer (some py), .agg #[.int .i64 ey.id, .int .i64 ey.rows, .int .i64 ey.live, .bool ey.lo.null, .int .i64 ey.lo.n, .string ey.lo.s, .int .i64 ey.lo.seq, .bool ey.hi.null, .int .i64 ey.hi.n, .string ey.hi.s, .int .i64 ey.hi.seq, .int .i64 ey.del], u80, u81, u82, u83, u84, u85, u86, u87, u88, u89, u90, u91, u92, u93, u94, u95, u96, u97, u98, u99, u100, u101, u102, u103, u104, u105, u106, u107, u108, u109, u110, u111, u112, undef, undef, undef, undef, undef], []⟩ ∧
                        Below w6.heap.size w6 w' ∧ Got (L 0) u80 (.bool true) ∧ Got (L 1) u81 (.bool false) ∧ Got (L 2) u82 (.bool false) ∧ Got (L 3) u83 (.int .i64 t) ∧ Got (L 4) u84 (.pointer (some ⟨P1, 3, none⟩)) ∧ Got (L 5) u85 (.agg #[.bool ex.lo.null, .int .i64 ex.lo.n, .string ex.lo.s, .int .i64 ex.lo.seq]) ∧ Got (L 6) u86 (.pointer (some ⟨N1, 3, none⟩)) ∧ Got (L 7) u87 (.agg #[.bool sa.lo.null, .int .i64 sa.lo.n, .string sa.lo.s, .int .i64 sa.lo.seq]) ∧ Got (L 8) u88 (.int .i64 k1) ∧ Got (L 9) u89 (.pointer (some ⟨P1, 0, none⟩)) ∧ Got (L 10) u90 (.int .i64 ex.id) ∧ Got (L 11) u91 (.pointer (some ⟨N1, 0, none⟩)) ∧ Got (L 12) u92 (.int .i64 sa.id) ∧ Got (L 13) u93 (.int .i64 o1) ∧ Got (L 14) u94 (.int .i64 t) ∧ Got (L 15) u95 (.pointer (some ⟨P2, 3, none⟩)) ∧ Got (L 16) u96 (.agg #[.bool ey.lo.null, .int .i64 ey.lo.n, .string ey.lo.s, .int .i64 ey.lo.seq]) ∧ Got (L 17) u97 (.pointer (some ⟨N1 + 1, 3, none⟩)) ∧ Got (L 18) u98 (.agg #[.bool sb.lo.null, .int .i64 sb.lo.n, .string sb.lo.s, .int .i64 sb.lo.seq]) ∧ Got (L 19) u99 (.int .i64 k2) ∧ Got (L 20) u100 (.pointer (some ⟨P2, 0, none⟩)) ∧ Got (L 21) u101 (.int .i64 ey.id) ∧ Got (L 22) u102 (.pointer (some ⟨N1 + 1, 0, none⟩)) ∧ Got (L 23) u103 (.int .i64 sb.id) ∧ Got (L 24) u104 (.int .i64 o2) ∧ GotRow (L 25) w6.heap.size u105 4 3 #[.int .i64 k1, .int .i64 o1, .int .i64 k2, .int .i64 o2] w' ∧ Got (L 26) u106 (.int .i64 (orV [k1, o1, k2, o2])) ∧ Got (L 27) u107 (.bool sr) ∧ Got (L 28) u108 (.bool sr))
                      ?_ ?_ ?_
                    · exact ⟨_, _, _, _, _, _, _, _, _, _, _, _, _, _, _, _, _, _, _, _, _, _, _, _, _, _, _, _, _, rfl, (Below.refl _ _).drew, nofun, nofun, nofun, nofun, nofun, nofun, nofun, nofun, nofun, nofun, nofun, nofun, nofun, nofun, nofun, nofun, nofun, nofun, nofun, nofun, nofun, nofun, nofun, nofun, nofun, nofun, nofun, nofun, nofun⟩
                    · refine ⟨?_, ?_, ?_, ?_, ?_, ?_, ?_, ?_, ?_, ?_, ?_, ?_, ?_, ?_, ?_, ?_, ?_, ?_, ?_, ?_, ?_, ?_, ?_, ?_, ?_, ?_, ?_, ?_, ?_, trivial⟩
                      · intro L a w' hI hl hd K hK
                        refine hI.elim fun u80 hI => hI.elim fun u81 hI => hI.elim fun u82 hI => hI.elim fun u83 hI => hI.elim fun u84 hI => hI.elim fun u85 hI => hI.elim fun u86 hI => hI.elim fun u87 hI => hI.elim fun u88 hI => hI.elim fun u89 hI => hI.elim fun u90 hI => hI.elim fun u91 hI => hI.elim fun u92 hI => hI.elim fun u93 hI => hI.elim fun u94 hI => hI.elim fun u95 hI => hI.elim fun u96 hI => hI.elim fun u97 hI => hI.elim fun u98 hI => hI.elim fun u99 hI => hI.elim fun u100 hI => hI.elim fun u101 hI => hI.elim fun u102 hI => hI.elim fun u103 hI => hI.elim fun u104 hI => hI.elim fun u105 hI => hI.elim fun u106 hI => hI.elim fun u107 hI => hI.elim fun u108 hI => ?_
                        have ha := hI.1
                        subst ha
                        have hb := hI.2.1
                        have g0 := hI.2.2.1
                        have g1 := hI.2.2.2.1
                        have g2 := hI.2.2.2.2.1
                        have g3 := hI.2.2.2.2.2.1
                        have g4 := hI.2.2.2.2.2.2.1
                        have g5 := hI.2.2.2.2.2.2.2.1
                        have g6 := hI.2.2.2.2.2.2.2.2.1
                        have g7 := hI.2.2.2.2.2.2.2.2.2.1
                        have g8 := hI.2.2.2.2.2.2.2.2.2.2.1
                        have g9 := hI.2.2.2.2.2.2.2.2.2.2.2.1
                        have g10 := hI.2.2.2.2.2.2.2.2.2.2.2.2.1
                        have g11 := hI.2.2.2.2.2.2.2.2.2.2.2.2.2.1
                        have g12 := hI.2.2.2.2.2.2.2.2.2.2.2.2.2.2.1
                        have g13 := hI.2.2.2.2.2.2.2.2.2.2.2.2.2.2.2.1
                        have g14 := hI.2.2.2.2.2.2.2.2.2.2.2.2.2.2.2.2.1
                        have g15 := hI.2.2.2.2.2.2.2.2.2.2.2.2.2.2.2.2.2.1
                        have g16 := hI.2.2.2.2.2.2.2.2.2.2.2.2.2.2.2.2.2.2.1
                        have g17 := hI.2.2.2.2.2.2.2.2.2.2.2.2.2.2.2.2.2.2.2.1
                        have g18 := hI.2.2.2.2.2.2.2.2.2.2.2.2.2.2.2.2.2.2.2.2.1
                        have g19 := hI.2.2.2.2.2.2.2.2.2.2.2.2.2.2.2.2.2.2.2.2.2.1
                        have g20 := hI.2.2.2.2.2.2.2.2.2.2.2.2.2.2.2.2.2.2.2.2.2.2.1
                        have g21 := hI.2.2.2.2.2.2.2.2.2.2.2.2.2.2.2.2.2.2.2.2.2.2.2.1
                        have g22 := hI.2.2.2.2.2.2.2.2.2.2.2.2.2.2.2.2.2.2.2.2.2.2.2.2.1
                        have g23 := hI.2.2.2.2.2.2.2.2.2.2.2.2.2.2.2.2.2.2.2.2.2.2.2.2.2.1
                        have g24 := hI.2.2.2.2.2.2.2.2.2.2.2.2.2.2.2.2.2.2.2.2.2.2.2.2.2.2.1
                        have g25 := hI.2.2.2.2.2.2.2.2.2.2.2.2.2.2.2.2.2.2.2.2.2.2.2.2.2.2.2.1
                        have g26 := hI.2.2.2.2.2.2.2.2.2.2.2.2.2.2.2.2.2.2.2.2.2.2.2.2.2.2.2.2.1
                        have g27 := hI.2.2.2.2.2.2.2.2.2.2.2.2.2.2.2.2.2.2.2.2.2.2.2.2.2.2.2.2.2.1
                        have g28 := hI.2.2.2.2.2.2.2.2.2.2.2.2.2.2.2.2.2.2.2.2.2.2.2.2.2.2.2.2.2.2
                        clear hI
                        dsimp only at hK ⊢
                        go_simp
                        exact hK _ _ ⟨_, _, _, _, _, _, _, _, _, _, _, _, _, _, _, _, _, _, _, _, _, _, _, _, _, _, _, _, _, rfl, hb, fun _ => rfl, g1, g2, g3, g4, g5, g6, g7, g8, g9, g10, g11, g12, g13, g14, g15, g16, g17, g18, g19, g20, g21, g22, g23, g24, g25, g26, g27, g28⟩
                      · intro L a w' hI hl hd K hK
                        refine hI.elim fun u80 hI => hI.elim fun u81 hI => hI.elim fun u82 hI => hI.elim fun u83 hI => hI.elim fun u84 hI => hI.elim fun u85 hI => hI.elim fun u86 hI => hI.elim fun u87 hI => hI.elim fun u88 hI => hI.elim fun u89 hI => hI.elim fun u90 hI => hI.elim fun u91 hI => hI.elim fun u92 hI => hI.elim fun u93 hI => hI.elim fun u94 hI => hI.elim fun u95 hI => hI.elim fun u96 hI => hI.elim fun u97 hI => hI.elim fun u98 hI => hI.elim fun u99 hI => hI.elim fun u100 hI => hI.elim fun u101 hI => hI.elim fun u102 hI => hI.elim fun u103 hI => hI.elim fun u104 hI => hI.elim fun u105 hI => hI.elim fun u106 hI => hI.elim fun u107 hI => hI.elim fun u108 hI => ?_
                        have ha := hI.1
                        subst ha
                        have hb := hI.2.1
                        have g0 := hI.2.2.1
                        have g1 := hI.2.2.2.1
                        have g2 := hI.2.2.2.2.1
                        have g3 := hI.2.2.2.2.2.1
                        have g4 := hI.2.2.2.2.2.2.1
                        have g5 := hI.2.2.2.2.2.2.2.1
                        have g6 := hI.2.2.2.2.2.2.2.2.1
                        have g7 := hI.2.2.2.2.2.2.2.2.2.1
                        have g8 := hI.2.2.2.2.2.2.2.2.2.2.1
                        have g9 := hI.2.2.2.2.2.2.2.2.2.2.2.1
                        have g10 := hI.2.2.2.2.2.2.2.2.2.2.2.2.1
                        have g11 := hI.2.2.2.2.2.2.2.2.2.2.2.2.2.1
                        have g12 := hI.2.2.2.2.2.2.2.2.2.2.2.2.2.2.1
                        have g13 := hI.2.2.2.2.2.2.2.2.2.2.2.2.2.2.2.1
                        have g14 := hI.2.2.2.2.2.2.2.2.2.2.2.2.2.2.2.2.1
                        have g15 := hI.2.2.2.2.2.2.2.2.2.2.2.2.2.2.2.2.2.1
                        have g16 := hI.2.2.2.2.2.2.2.2.2.2.2.2.2.2.2.2.2.2.1
                        have g17 := hI.2.2.2.2.2.2.2.2.2.2.2.2.2.2.2.2.2.2.2.1
                        have g18 := hI.2.2.2.2.2.2.2.2.2.2.2.2.2.2.2.2.2.2.2.2.1
                        have g19 := hI.2.2.2.2.2.2.2.2.2.2.2.2.2.2.2.2.2.2.2.2.2.1
                        have g20 := hI.2.2.2.2.2.2.2.2.2.2.2.2.2.2.2.2.2.2.2.2.2.2.1
                        have g21 := hI.2.2.2.2.2.2.2.2.2.2.2.2.2.2.2.2.2.2.2.2.2.2.2.1
                        have g22 := hI.2.2.2.2.2.2.2.2.2.2.2.2.2.2.2.2.2.2.2.2.2.2.2.2.1
                        have g23 := hI.2.2.2.2.2.2.2.2.2.2.2.2.2.2.2.2.2.2.2.2.2.2.2.2.2.1
                        have g24 := hI.2.2.2.2.2.2.2.2.2.2.2.2.2.2.2.2.2.2.2.2.2.2.2.2.2.2.1
                        have g25 := hI.2.2.2.2.2.2.2.2.2.2.2.2.2.2.2.2.2.2.2.2.2.2.2.2.2.2.2.1
                        have g26 := hI.2.2.2.2.2.2.2.2.2.2.2.2.2.2.2.2.2.2.2.2.2.2.2.2.2.2.2.2.1
                        have g27 := hI.2.2.2.2.2.2.2.2.2.2.2.2.2.2.2.2.2.2.2.2.2.2.2.2.2.2.2.2.2.1
                        have g28 := hI.2.2.2.2.2.2.2.2.2.2.2.2.2.2.2.2.2.2.2.2.2.2.2.2.2.2.2.2.2.2
                        clear hI
                        simp [Region.binds] at hd
                        dsimp only at hK ⊢
                        have e0 := g0 (by simp [hd])
                        subst e0
                        go_simp
                        exact hK _ _ ⟨_, _, _, _, _, _, _, _, _, _, _, _, _, _, _, _, _, _, _, _, _, _, _, _, _, _, _, _, _, rfl, hb, g0, fun _ => rfl, g2, g3, g4, g5, g6, g7, g8, g9, g10, g11, g12, g13, g14, g15, g16, g17, g18, g19, g20, g21, g22, g23, g24, g25, g26, g27, g28⟩
                      · intro L a w' hI hl hd K hK
                        refine hI.elim fun u80 hI => hI.elim fun u81 hI => hI.elim fun u82 hI => hI.elim fun u83 hI => hI.elim fun u84 hI => hI.elim fun u85 hI => hI.elim fun u86 hI => hI.elim fun u87 hI => hI.elim fun u88 hI => hI.elim fun u89 hI => hI.elim fun u90 hI => hI.elim fun u91 hI => hI.elim fun u92 hI => hI.elim fun u93 hI => hI.elim fun u94 hI => hI.elim fun u95 hI => hI.elim fun u96 hI => hI.elim fun u97 hI => hI.elim fun u98 hI => hI.elim fun u99 hI => hI.elim fun u100 hI => hI.elim fun u101 hI => hI.elim fun u102 hI => hI.elim fun u103 hI => hI.elim fun u104 hI => hI.elim fun u105 hI => hI.elim fun u106 hI => hI.elim fun u107 hI => hI.elim fun u108 hI => ?_
                        have ha := hI.1
                        subst ha
                        have hb := hI.2.1
                        have g0 := hI.2.2.1
                        have g1 := hI.2.2.2.1
                        have g2 := hI.2.2.2.2.1
                        have g3 := hI.2.2.2.2.2.1
                        have g4 := hI.2.2.2.2.2.2.1
                        have g5 := hI.2.2.2.2.2.2.2.1
                        have g6 := hI.2.2.2.2.2.2.2.2.1
                        have g7 := hI.2.2.2.2.2.2.2.2.2.1
                        have g8 := hI.2.2.2.2.2.2.2.2.2.2.1
                        have g9 := hI.2.2.2.2.2.2.2.2.2.2.2.1
                        have g10 := hI.2.2.2.2.2.2.2.2.2.2.2.2.1
                        have g11 := hI.2.2.2.2.2.2.2.2.2.2.2.2.2.1
                        have g12 := hI.2.2.2.2.2.2.2.2.2.2.2.2.2.2.1
                        have g13 := hI.2.2.2.2.2.2.2.2.2.2.2.2.2.2.2.1
                        have g14 := hI.2.2.2.2.2.2.2.2.2.2.2.2.2.2.2.2.1
                        have g15 := hI.2.2.2.2.2.2.2.2.2.2.2.2.2.2.2.2.2.1
                        have g16 := hI.2.2.2.2.2.2.2.2.2.2.2.2.2.2.2.2.2.2.1
                        have g17 := hI.2.2.2.2.2.2.2.2.2.2.2.2.2.2.2.2.2.2.2.1
                        have g18 := hI.2.2.2.2.2.2.2.2.2.2.2.2.2.2.2.2.2.2.2.2.1
                        have g19 := hI.2.2.2.2.2.2.2.2.2.2.2.2.2.2.2.2.2.2.2.2.2.1
                        have g20 := hI.2.2.2.2.2.2.2.2.2.2.2.2.2.2.2.2.2.2.2.2.2.2.1
                        have g21 := hI.2.2.2.2.2.2.2.2.2.2.2.2.2.2.2.2.2.2.2.2.2.2.2.1
                        have g22 := hI.2.2.2.2.2.2.2.2.2.2.2.2.2.2.2.2.2.2.2.2.2.2.2.2.1
                        have g23 := hI.2.2.2.2.2.2.2.2.2.2.2.2.2.2.2.2.2.2.2.2.2.2.2.2.2.1
                        have g24 := hI.2.2.2.2.2.2.2.2.2.2.2.2.2.2.2.2.2.2.2.2.2.2.2.2.2.2.1
                        have g25 := hI.2.2.2.2.2.2.2.2.2.2.2.2.2.2.2.2.2.2.2.2.2.2.2.2.2.2.2.1
                        have g26 := hI.2.2.2.2.2.2.2.2.2.2.2.2.2.2.2.2.2.2.2.2.2.2.2.2.2.2.2.2.1
                        have g27 := hI.2.2.2.2.2.2.2.2.2.2.2.2.2.2.2.2.2.2.2.2.2.2.2.2.2.2.2.2.2.1
                        have g28 := hI.2.2.2.2.2.2.2.2.2.2.2.2.2.2.2.2.2.2.2.2.2.2.2.2.2.2.2.2.2.2
                        clear hI
                        simp [Region.binds] at hd
                        dsimp only at hK ⊢
                        have e1 := g1 (by simp [hd])
                        subst e1
                        go_simp
                        exact hK _ _ ⟨_, _, _, _, _, _, _, _, _, _, _, _, _, _, _, _, _, _, _, _, _, _, _, _, _, _, _, _, _, rfl, hb, g0, g1, fun _ => rfl, g3, g4, g5, g6, g7, g8, g9, g10, g11, g12, g13, g14, g15, g16, g17, g18, g19, g20, g21, g22, g23, g24, g25, g26, g27, g28⟩
                      · intro L a w' hI hl hd K hK
                        refine hI.elim fun u80 hI => hI.elim fun u81 hI => hI.elim fun u82 hI => hI.elim fun u83 hI => hI.elim fun u84 hI => hI.elim fun u85 hI => hI.elim fun u86 hI => hI.elim fun u87 hI => hI.elim fun u88 hI => hI.elim fun u89 hI => hI.elim fun u90 hI => hI.elim fun u91 hI => hI.elim fun u92 hI => hI.elim fun u93 hI => hI.elim fun u94 hI => hI.elim fun u95 hI => hI.elim fun u96 hI => hI.elim fun u97 hI => hI.elim fun u98 hI => hI.elim fun u99 hI => hI.elim fun u100 hI => hI.elim fun u101 hI => hI.elim fun u102 hI => hI.elim fun u103 hI => hI.elim fun u104 hI => hI.elim fun u105 hI => hI.elim fun u106 hI => hI.elim fun u107 hI => hI.elim fun u108 hI => ?_
                        have ha := hI.1
                        subst ha
                        have hb := hI.2.1
                        have g0 := hI.2.2.1
                        have g1 := hI.2.2.2.1
                        have g2 := hI.2.2.2.2.1
                        have g3 := hI.2.2.2.2.2.1
                        have g4 := hI.2.2.2.2.2.2.1
                        have g5 := hI.2.2.2.2.2.2.2.1
                        have g6 := hI.2.2.2.2.2.2.2.2.1
                        have g7 := hI.2.2.2.2.2.2.2.2.2.1
                        have g8 := hI.2.2.2.2.2.2.2.2.2.2.1
                        have g9 := hI.2.2.2.2.2.2.2.2.2.2.2.1
                        have g10 := hI.2.2.2.2.2.2.2.2.2.2.2.2.1
                        have g11 := hI.2.2.2.2.2.2.2.2.2.2.2.2.2.1
                        have g12 := hI.2.2.2.2.2.2.2.2.2.2.2.2.2.2.1
                        have g13 := hI.2.2.2.2.2.2.2.2.2.2.2.2.2.2.2.1
                        have g14 := hI.2.2.2.2.2.2.2.2.2.2.2.2.2.2.2.2.1
                        have g15 := hI.2.2.2.2.2.2.2.2.2.2.2.2.2.2.2.2.2.1
                        have g16 := hI.2.2.2.2.2.2.2.2.2.2.2.2.2.2.2.2.2.2.1
                        have g17 := hI.2.2.2.2.2.2.2.2.2.2.2.2.2.2.2.2.2.2.2.1
                        have g18 := hI.2.2.2.2.2.2.2.2.2.2.2.2.2.2.2.2.2.2.2.2.1
                        have g19 := hI.2.2.2.2.2.2.2.2.2.2.2.2.2.2.2.2.2.2.2.2.2.1
                        have g20 := hI.2.2.2.2.2.2.2.2.2.2.2.2.2.2.2.2.2.2.2.2.2.2.1
                        have g21 := hI.2.2.2.2.2.2.2.2.2.2.2.2.2.2.2.2.2.2.2.2.2.2.2.1
                        have g22 := hI.2.2.2.2.2.2.2.2.2.2.2.2.2.2.2.2.2.2.2.2.2.2.2.2.1
                        have g23 := hI.2.2.2.2.2.2.2.2.2.2.2.2.2.2.2.2.2.2.2.2.2.2.2.2.2.1
                        have g24 := hI.2.2.2.2.2.2.2.2.2.2.2.2.2.2.2.2.2.2.2.2.2.2.2.2.2.2.1
                        have g25 := hI.2.2.2.2.2.2.2.2.2.2.2.2.2.2.2.2.2.2.2.2.2.2.2.2.2.2.2.1
                        have g26 := hI.2.2.2.2.2.2.2.2.2.2.2.2.2.2.2.2.2.2.2.2.2.2.2.2.2.2.2.2.1
                        have g27 := hI.2.2.2.2.2.2.2.2.2.2.2.2.2.2.2.2.2.2.2.2.2.2.2.2.2.2.2.2.2.1
                        have g28 := hI.2.2.2.2.2.2.2.2.2.2.2.2.2.2.2.2.2.2.2.2.2.2.2.2.2.2.2.2.2.2
                        clear hI
                        simp [Region.binds] at hd
                        dsimp only at hK ⊢
                        have e2 := g2 (by simp [hd])
                        subst e2
                        go_simp
                        exact hK _ _ ⟨_, _, _, _, _, _, _, _, _, _, _, _, _, _, _, _, _, _, _, _, _, _, _, _, _, _, _, _, _, rfl, hb, g0, g1, g2, fun _ => rfl, g4, g5, g6, g7, g8, g9, g10, g11, g12, g13, g14, g15, g16, g17, g18, g19, g20, g21, g22, g23, g24, g25, g26, g27, g28⟩
                      · intro L a w' hI hl hd K hK
                        refine hI.elim fun u80 hI => hI.elim fun u81 hI => hI.elim fun u82 hI => hI.elim fun u83 hI => hI.elim fun u84 hI => hI.elim fun u85 hI => hI.elim fun u86 hI => hI.elim fun u87 hI => hI.elim fun u88 hI => hI.elim fun u89 hI => hI.elim fun u90 hI => hI.elim fun u91 hI => hI.elim fun u92 hI => hI.elim fun u93 hI => hI.elim fun u94 hI => hI.elim fun u95 hI => hI.elim fun u96 hI => hI.elim fun u97 hI => hI.elim fun u98 hI => hI.elim fun u99 hI => hI.elim fun u100 hI => hI.elim fun u101 hI => hI.elim fun u102 hI => hI.elim fun u103 hI => hI.elim fun u104 hI => hI.elim fun u105 hI => hI.elim fun u106 hI => hI.elim fun u107 hI => hI.elim fun u108 hI => ?_
                        have ha := hI.1
                        subst ha
                        have hb := hI.2.1
                        have g0 := hI.2.2.1
                        have g1 := hI.2.2.2.1
                        have g2 := hI.2.2.2.2.1
                        have g3 := hI.2.2.2.2.2.1
                        have g4 := hI.2.2.2.2.2.2.1
                        have g5 := hI.2.2.2.2.2.2.2.1
                        have g6 := hI.2.2.2.2.2.2.2.2.1
                        have g7 := hI.2.2.2.2.2.2.2.2.2.1
                        have g8 := hI.2.2.2.2.2.2.2.2.2.2.1
                        have g9 := hI.2.2.2.2.2.2.2.2.2.2.2.1
                        have g10 := hI.2.2.2.2.2.2.2.2.2.2.2.2.1
                        have g11 := hI.2.2.2.2.2.2.2.2.2.2.2.2.2.1
                        have g12 := hI.2.2.2.2.2.2.2.2.2.2.2.2.2.2.1
                        have g13 := hI.2.2.2.2.2.2.2.2.2.2.2.2.2.2.2.1
                        have g14 := hI.2.2.2.2.2.2.2.2.2.2.2.2.2.2.2.2.1
                        have g15 := hI.2.2.2.2.2.2.2.2.2.2.2.2.2.2.2.2.2.1
                        have g16 := hI.2.2.2.2.2.2.2.2.2.2.2.2.2.2.2.2.2.2.1
                        have g17 := hI.2.2.2.2.2.2.2.2.2.2.2.2.2.2.2.2.2.2.2.1
                        have g18 := hI.2.2.2.2.2.2.2.2.2.2.2.2.2.2.2.2.2.2.2.2.1
                        have g19 := hI.2.2.2.2.2.2.2.2.2.2.2.2.2.2.2.2.2.2.2.2.2.1
                        have g20 := hI.2.2.2.2.2.2.2.2.2.2.2.2.2.2.2.2.2.2.2.2.2.2.1
                        have g21 := hI.2.2.2.2.2.2.2.2.2.2.2.2.2.2.2.2.2.2.2.2.2.2.2.1
                        have g22 := hI.2.2.2.2.2.2.2.2.2.2.2.2.2.2.2.2.2.2.2.2.2.2.2.2.1
                        have g23 := hI.2.2.2.2.2.2.2.2.2.2.2.2.2.2.2.2.2.2.2.2.2.2.2.2.2.1
                        have g24 := hI.2.2.2.2.2.2.2.2.2.2.2.2.2.2.2.2.2.2.2.2.2.2.2.2.2.2.1
                        have g25 := hI.2.2.2.2.2.2.2.2.2.2.2.2.2.2.2.2.2.2.2.2.2.2.2.2.2.2.2.1
                        have g26 := hI.2.2.2.2.2.2.2.2.2.2.2.2.2.2.2.2.2.2.2.2.2.2.2.2.2.2.2.2.1
                        have g27 := hI.2.2.2.2.2.2.2.2.2.2.2.2.2.2.2.2.2.2.2.2.2.2.2.2.2.2.2.2.2.1
                        have g28 := hI.2.2.2.2.2.2.2.2.2.2.2.2.2.2.2.2.2.2.2.2.2.2.2.2.2.2.2.2.2.2
                        clear hI
                        simp [Region.binds] at hd
                        dsimp only at hK ⊢
                        have e2 := g2 (by simp [hd])
                        subst e2
                        go_simp
                        exact hK _ _ ⟨_, _, _, _, _, _, _, _, _, _, _, _, _, _, _, _, _, _, _, _, _, _, _, _, _, _, _, _, _, rfl, hb, g0, g1, g2, g3, fun _ => rfl, g5, g6, g7, g8, g9, g10, g11, g12, g13, g14, g15, g16, g17, g18, g19, g20, g21, g22, g23, g24, g25, g26, g27, g28⟩
                      · intro L a w' hI hl hd K hK
                        refine hI.elim fun u80 hI => hI.elim fun u81 hI => hI.elim fun u82 hI => hI.elim fun u83 hI => hI.elim fun u84 hI => hI.elim fun u85 hI => hI.elim fun u86 hI => hI.elim fun u87 hI => hI.elim fun u88 hI => hI.elim fun u89 hI => hI.elim fun u90 hI => hI.elim fun u91 hI => hI.elim fun u92 hI => hI.elim fun u93 hI => hI.elim fun u94 hI => hI.elim fun u95 hI => hI.elim fun u96 hI => hI.elim fun u97 hI => hI.elim fun u98 hI => hI.elim fun u99 hI => hI.elim fun u100 hI => hI.elim fun u101 hI => hI.elim fun u102 hI => hI.elim fun u103 hI => hI.elim fun u104 hI => hI.elim fun u105 hI => hI.elim fun u106 hI => hI.elim fun u107 hI => hI.elim fun u108 hI => ?_
                        have ha := hI.1
                        subst ha
                        have hb := hI.2.1
                        have g0 := hI.2.2.1
                        have g1 := hI.2.2.2.1
                        have g2 := hI.2.2.2.2.1
                        have g3 := hI.2.2.2.2.2.1
                        have g4 := hI.2.2.2.2.2.2.1
                        have g5 := hI.2.2.2.2.2.2.2.1
                        have g6 := hI.2.2.2.2.2.2.2.2.1
                        have g7 := hI.2.2.2.2.2.2.2.2.2.1
                        have g8 := hI.2.2.2.2.2.2.2.2.2.2.1
                        have g9 := hI.2.2.2.2.2.2.2.2.2.2.2.1
                        have g10 := hI.2.2.2.2.2.2.2.2.2.2.2.2.1
                        have g11 := hI.2.2.2.2.2.2.2.2.2.2.2.2.2.1
                        have g12 := hI.2.2.2.2.2.2.2.2.2.2.2.2.2.2.1
                        have g13 := hI.2.2.2.2.2.2.2.2.2.2.2.2.2.2.2.1
                        have g14 := hI.2.2.2.2.2.2.2.2.2.2.2.2.2.2.2.2.1
                        have g15 := hI.2.2.2.2.2.2.2.2.2.2.2.2.2.2.2.2.2.1
                        have g16 := hI.2.2.2.2.2.2.2.2.2.2.2.2.2.2.2.2.2.2.1
                        have g17 := hI.2.2.2.2.2.2.2.2.2.2.2.2.2.2.2.2.2.2.2.1
                        have g18 := hI.2.2.2.2.2.2.2.2.2.2.2.2.2.2.2.2.2.2.2.2.1
                        have g19 := hI.2.2.2.2.2.2.2.2.2.2.2.2.2.2.2.2.2.2.2.2.2.1
                        have g20 := hI.2.2.2.2.2.2.2.2.2.2.2.2.2.2.2.2.2.2.2.2.2.2.1
                        have g21 := hI.2.2.2.2.2.2.2.2.2.2.2.2.2.2.2.2.2.2.2.2.2.2.2.1
                        have g22 := hI.2.2.2.2.2.2.2.2.2.2.2.2.2.2.2.2.2.2.2.2.2.2.2.2.1
                        have g23 := hI.2.2.2.2.2.2.2.2.2.2.2.2.2.2.2.2.2.2.2.2.2.2.2.2.2.1
                        have g24 := hI.2.2.2.2.2.2.2.2.2.2.2.2.2.2.2.2.2.2.2.2.2.2.2.2.2.2.1
                        have g25 := hI.2.2.2.2.2.2.2.2.2.2.2.2.2.2.2.2.2.2.2.2.2.2.2.2.2.2.2.1
                        have g26 := hI.2.2.2.2.2.2.2.2.2.2.2.2.2.2.2.2.2.2.2.2.2.2.2.2.2.2.2.2.1
                        have g27 := hI.2.2.2.2.2.2.2.2.2.2.2.2.2.2.2.2.2.2.2.2.2.2.2.2.2.2.2.2.2.1
                        have g28 := hI.2.2.2.2.2.2.2.2.2.2.2.2.2.2.2.2.2.2.2.2.2.2.2.2.2.2.2.2.2.2
                        clear hI
                        simp [Region.binds] at hd
                        dsimp only at hK ⊢
                        have e2 := g2 (by simp [hd])
                        subst e2
                        have e4 := g4 (by simp [hd])
                        subst e4
                        have bb := M1.out.below hb M1.out.lt
                        have c3 := bb.cell 3
                        have c4 := bb.cell 4
                        have c5 := bb.cell 5
                        have c6 := bb.cell 6
                        simp only [List.getElem?_toArray, List.getElem?_cons_zero, List.getElem?_cons_succ] at c3 c4 c5 c6
                        go_simp
                        exact hK _ _ ⟨_, _, _, _, _, _, _, _, _, _, _, _, _, _, _, _, _, _, _, _, _, _, _, _, _, _, _, _, _, rfl, hb, g0, g1, g2, g3, g4, fun _ => rfl, g6, g7, g8, g9, g10, g11, g12, g13, g14, g15, g16, g17, g18, g19, g20, g21, g22, g23, g24, g25, g26, g27, g28⟩
                      · intro L a w' hI hl hd K hK
                        refine hI.elim fun u80 hI => hI.elim fun u81 hI => hI.elim fun u82 hI => hI.elim fun u83 hI => hI.elim fun u84 hI => hI.elim fun u85 hI => hI.elim fun u86 hI => hI.elim fun u87 hI => hI.elim fun u88 hI => hI.elim fun u89 hI => hI.elim fun u90 hI => hI.elim fun u91 hI => hI.elim fun u92 hI => hI.elim fun u93 hI => hI.elim fun u94 hI => hI.elim fun u95 hI => hI.elim fun u96 hI => hI.elim fun u97 hI => hI.elim fun u98 hI => hI.elim fun u99 hI => hI.elim fun u100 hI => hI.elim fun u101 hI => hI.elim fun u102 hI => hI.elim fun u103 hI => hI.elim fun u104 hI => hI.elim fun u105 hI => hI.elim fun u106 hI => hI.elim fun u107 hI => hI.elim fun u108 hI => ?_
                        have ha := hI.1
                        subst ha
                        have hb := hI.2.1
                        have g0 := hI.2.2.1
                        have g1 := hI.2.2.2.1
                        have g2 := hI.2.2.2.2.1
                        have g3 := hI.2.2.2.2.2.1
                        have g4 := hI.2.2.2.2.2.2.1
                        have g5 := hI.2.2.2.2.2.2.2.1
                        have g6 := hI.2.2.2.2.2.2.2.2.1
                        have g7 := hI.2.2.2.2.2.2.2.2.2.1
                        have g8 := hI.2.2.2.2.2.2.2.2.2.2.1
                        have g9 := hI.2.2.2.2.2.2.2.2.2.2.2.1
                        have g10 := hI.2.2.2.2.2.2.2.2.2.2.2.2.1
                        have g11 := hI.2.2.2.2.2.2.2.2.2.2.2.2.2.1
                        have g12 := hI.2.2.2.2.2.2.2.2.2.2.2.2.2.2.1
                        have g13 := hI.2.2.2.2.2.2.2.2.2.2.2.2.2.2.2.1
                        have g14 := hI.2.2.2.2.2.2.2.2.2.2.2.2.2.2.2.2.1
                        have g15 := hI.2.2.2.2.2.2.2.2.2.2.2.2.2.2.2.2.2.1
                        have g16 := hI.2.2.2.2.2.2.2.2.2.2.2.2.2.2.2.2.2.2.1
                        have g17 := hI.2.2.2.2.2.2.2.2.2.2.2.2.2.2.2.2.2.2.2.1
                        have g18 := hI.2.2.2.2.2.2.2.2.2.2.2.2.2.2.2.2.2.2.2.2.1
                        have g19 := hI.2.2.2.2.2.2.2.2.2.2.2.2.2.2.2.2.2.2.2.2.2.1
                        have g20 := hI.2.2.2.2.2.2.2.2.2.2.2.2.2.2.2.2.2.2.2.2.2.2.1
                        have g21 := hI.2.2.2.2.2.2.2.2.2.2.2.2.2.2.2.2.2.2.2.2.2.2.2.1
                        have g22 := hI.2.2.2.2.2.2.2.2.2.2.2.2.2.2.2.2.2.2.2.2.2.2.2.2.1
                        have g23 := hI.2.2.2.2.2.2.2.2.2.2.2.2.2.2.2.2.2.2.2.2.2.2.2.2.2.1
                        have g24 := hI.2.2.2.2.2.2.2.2.2.2.2.2.2.2.2.2.2.2.2.2.2.2.2.2.2.2.1
                        have g25 := hI.2.2.2.2.2.2.2.2.2.2.2.2.2.2.2.2.2.2.2.2.2.2.2.2.2.2.2.1
                        have g26 := hI.2.2.2.2.2.2.2.2.2.2.2.2.2.2.2.2.2.2.2.2.2.2.2.2.2.2.2.2.1
                        have g27 := hI.2.2.2.2.2.2.2.2.2.2.2.2.2.2.2.2.2.2.2.2.2.2.2.2.2.2.2.2.2.1
                        have g28 := hI.2.2.2.2.2.2.2.2.2.2.2.2.2.2.2.2.2.2.2.2.2.2.2.2.2.2.2.2.2.2
                        clear hI
                        simp [Region.binds] at hd
                        dsimp only at hK ⊢
                        have e2 := g2 (by simp [hd])
                        subst e2
                        go_simp
                        exact hK _ _ ⟨_, _, _, _, _, _, _, _, _, _, _, _, _, _, _, _, _, _, _, _, _, _, _, _, _, _, _, _, _, rfl, hb, g0, g1, g2, g3, g4, g5, fun _ => rfl, g7, g8, g9, g10, g11, g12, g13, g14, g15, g16, g17, g18, g19, g20, g21, g22, g23, g24, g25, g26, g27, g28⟩
                      · intro L a w' hI hl hd K hK
                        refine hI.elim fun u80 hI => hI.elim fun u81 hI => hI.elim fun u82 hI => hI.elim fun u83 hI => hI.elim fun u84 hI => hI.elim fun u85 hI => hI.elim fun u86 hI => hI.elim fun u87 hI => hI.elim fun u88 hI => hI.elim fun u89 hI => hI.elim fun u90 hI => hI.elim fun u91 hI => hI.elim fun u92 hI => hI.elim fun u93 hI => hI.elim fun u94 hI => hI.elim fun u95 hI => hI.elim fun u96 hI => hI.elim fun u97 hI => hI.elim fun u98 hI => hI.elim fun u99 hI => hI.elim fun u100 hI => hI.elim fun u101 hI => hI.elim fun u102 hI => hI.elim fun u103 hI => hI.elim fun u104 hI => hI.elim fun u105 hI => hI.elim fun u106 hI => hI.elim fun u107 hI => hI.elim fun u108 hI => ?_
                        have ha := hI.1
                        subst ha
                        have hb := hI.2.1
                        have g0 := hI.2.2.1
                        have g1 := hI.2.2.2.1
                        have g2 := hI.2.2.2.2.1
                        have g3 := hI.2.2.2.2.2.1
                        have g4 := hI.2.2.2.2.2.2.1
                        have g5 := hI.2.2.2.2.2.2.2.1
                        have g6 := hI.2.2.2.2.2.2.2.2.1
                        have g7 := hI.2.2.2.2.2.2.2.2.2.1
                        have g8 := hI.2.2.2.2.2.2.2.2.2.2.1
                        have g9 := hI.2.2.2.2.2.2.2.2.2.2.2.1
                        have g10 := hI.2.2.2.2.2.2.2.2.2.2.2.2.1
                        have g11 := hI.2.2.2.2.2.2.2.2.2.2.2.2.2.1
                        have g12 := hI.2.2.2.2.2.2.2.2.2.2.2.2.2.2.1
                        have g13 := hI.2.2.2.2.2.2.2.2.2.2.2.2.2.2.2.1
                        have g14 := hI.2.2.2.2.2.2.2.2.2.2.2.2.2.2.2.2.1
                        have g15 := hI.2.2.2.2.2.2.2.2.2.2.2.2.2.2.2.2.2.1
                        have g16 := hI.2.2.2.2.2.2.2.2.2.2.2.2.2.2.2.2.2.2.1
                        have g17 := hI.2.2.2.2.2.2.2.2.2.2.2.2.2.2.2.2.2.2.2.1
                        have g18 := hI.2.2.2.2.2.2.2.2.2.2.2.2.2.2.2.2.2.2.2.2.1
                        have g19 := hI.2.2.2.2.2.2.2.2.2.2.2.2.2.2.2.2.2.2.2.2.2.1
                        have g20 := hI.2.2.2.2.2.2.2.2.2.2.2.2.2.2.2.2.2.2.2.2.2.2.1
                        have g21 := hI.2.2.2.2.2.2.2.2.2.2.2.2.2.2.2.2.2.2.2.2.2.2.2.1
                        have g22 := hI.2.2.2.2.2.2.2.2.2.2.2.2.2.2.2.2.2.2.2.2.2.2.2.2.1
                        have g23 := hI.2.2.2.2.2.2.2.2.2.2.2.2.2.2.2.2.2.2.2.2.2.2.2.2.2.1
                        have g24 := hI.2.2.2.2.2.2.2.2.2.2.2.2.2.2.2.2.2.2.2.2.2.2.2.2.2.2.1
                        have g25 := hI.2.2.2.2.2.2.2.2.2.2.2.2.2.2.2.2.2.2.2.2.2.2.2.2.2.2.2.1
                        have g26 := hI.2.2.2.2.2.2.2.2.2.2.2.2.2.2.2.2.2.2.2.2.2.2.2.2.2.2.2.2.1
                        have g27 := hI.2.2.2.2.2.2.2.2.2.2.2.2.2.2.2.2.2.2.2.2.2.2.2.2.2.2.2.2.2.1
                        have g28 := hI.2.2.2.2.2.2.2.2.2.2.2.2.2.2.2.2.2.2.2.2.2.2.2.2.2.2.2.2.2.2
                        clear hI
                        simp [Region.binds] at hd
                        dsimp only at hK ⊢
                        have e2 := g2 (by simp [hd])
                        subst e2
                        have e6 := g6 (by simp [hd])
                        subst e6
                        have bb := K16.out.below hb K16.out.lt
                        have c3 := bb.cell 3
                        have c4 := bb.cell 4
                        have c5 := bb.cell 5
                        have c6 := bb.cell 6
                        simp only [List.getElem?_toArray, List.getElem?_cons_zero, List.getElem?_cons_succ] at c3 c4 c5 c6
                        go_simp
                        exact hK _ _ ⟨_, _, _, _, _, _, _, _, _, _, _, _, _, _, _, _, _, _, _, _, _, _, _, _, _, _, _, _, _, rfl, hb, g0, g1, g2, g3, g4, g5, g6, fun _ => rfl, g8, g9, g10, g11, g12, g13, g14, g15, g16, g17, g18, g19, g20, g21, g22, g23, g24, g25, g26, g27, g28⟩
                      · intro L a w' hI hl hd K hK
                        refine hI.elim fun u80 hI => hI.elim fun u81 hI => hI.elim fun u82 hI => hI.elim fun u83 hI => hI.elim fun u84 hI => hI.elim fun u85 hI => hI.elim fun u86 hI => hI.elim fun u87 hI => hI.elim fun u88 hI => hI.elim fun u89 hI => hI.elim fun u90 hI => hI.elim fun u91 hI => hI.elim fun u92 hI => hI.elim fun u93 hI => hI.elim fun u94 hI => hI.elim fun u95 hI => hI.elim fun u96 hI => hI.elim fun u97 hI => hI.elim fun u98 hI => hI.elim fun u99 hI => hI.elim fun u100 hI => hI.elim fun u101 hI => hI.elim fun u102 hI => hI.elim fun u103 hI => hI.elim fun u104 hI => hI.elim fun u105 hI => hI.elim fun u106 hI => hI.elim fun u107 hI => hI.elim fun u108 hI => ?_
                        have ha := hI.1
                        subst ha
                        have hb := hI.2.1
                        have g0 := hI.2.2.1
                        have g1 := hI.2.2.2.1
                        have g2 := hI.2.2.2.2.1
                        have g3 := hI.2.2.2.2.2.1
                        have g4 := hI.2.2.2.2.2.2.1
                        have g5 := hI.2.2.2.2.2.2.2.1
                        have g6 := hI.2.2.2.2.2.2.2.2.1
                        have g7 := hI.2.2.2.2.2.2.2.2.2.1
                        have g8 := hI.2.2.2.2.2.2.2.2.2.2.1
                        have g9 := hI.2.2.2.2.2.2.2.2.2.2.2.1
                        have g10 := hI.2.2.2.2.2.2.2.2.2.2.2.2.1
                        have g11 := hI.2.2.2.2.2.2.2.2.2.2.2.2.2.1
                        have g12 := hI.2.2.2.2.2.2.2.2.2.2.2.2.2.2.1
                        have g13 := hI.2.2.2.2.2.2.2.2.2.2.2.2.2.2.2.1
                        have g14 := hI.2.2.2.2.2.2.2.2.2.2.2.2.2.2.2.2.1
                        have g15 := hI.2.2.2.2.2.2.2.2.2.2.2.2.2.2.2.2.2.1
                        have g16 := hI.2.2.2.2.2.2.2.2.2.2.2.2.2.2.2.2.2.2.1
                        have g17 := hI.2.2.2.2.2.2.2.2.2.2.2.2.2.2.2.2.2.2.2.1
                        have g18 := hI.2.2.2.2.2.2.2.2.2.2.2.2.2.2.2.2.2.2.2.2.1
                        have g19 := hI.2.2.2.2.2.2.2.2.2.2.2.2.2.2.2.2.2.2.2.2.2.1
                        have g20 := hI.2.2.2.2.2.2.2.2.2.2.2.2.2.2.2.2.2.2.2.2.2.2.1
                        have g21 := hI.2.2.2.2.2.2.2.2.2.2.2.2.2.2.2.2.2.2.2.2.2.2.2.1
                        have g22 := hI.2.2.2.2.2.2.2.2.2.2.2.2.2.2.2.2.2.2.2.2.2.2.2.2.1
                        have g23 := hI.2.2.2.2.2.2.2.2.2.2.2.2.2.2.2.2.2.2.2.2.2.2.2.2.2.1
                        have g24 := hI.2.2.2.2.2.2.2.2.2.2.2.2.2.2.2.2.2.2.2.2.2.2.2.2.2.2.1
                        have g25 := hI.2.2.2.2.2.2.2.2.2.2.2.2.2.2.2.2.2.2.2.2.2.2.2.2.2.2.2.1
                        have g26 := hI.2.2.2.2.2.2.2.2.2.2.2.2.2.2.2.2.2.2.2.2.2.2.2.2.2.2.2.2.1
                        have g27 := hI.2.2.2.2.2.2.2.2.2.2.2.2.2.2.2.2.2.2.2.2.2.2.2.2.2.2.2.2.2.1
                        have g28 := hI.2.2.2.2.2.2.2.2.2.2.2.2.2.2.2.2.2.2.2.2.2.2.2.2.2.2.2.2.2.2
                        clear hI
                        simp [Region.binds] at hd
                        dsimp only at hK ⊢
                        have e2 := g2 (by simp [hd])
                        subst e2
                        have e3 := g3 (by simp [hd])
                        subst e3
                        have e5 := g5 (by simp [hd])
                        subst e5
                        have e7 := g7 (by simp [hd])
                        subst e7
                        go_wp2_with fail
                        refine (C1.out w').mono ?_
                        rintro _ w4 ⟨rfl, hb4⟩
                        exact hK _ _ ⟨_, _, _, _, _, _, _, _, _, _, _, _, _, _, _, _, _, _, _, _, _, _, _, _, _, _, _, _, _, rfl, bst hb hb4, g0, g1, g2, g3, g4, g5, g6, g7, fun _ => rfl, g9, g10, g11, g12, g13, g14, g15, g16, g17, g18, g19, g20, g21, g22, g23, g24, g25.below hb4, g26, g27, g28⟩
                      · intro L a w' hI hl hd K hK
                        refine hI.elim fun u80 hI => hI.elim fun u81 hI => hI.elim fun u82 hI => hI.elim fun u83 hI => hI.elim fun u84 hI => hI.elim fun u85 hI => hI.elim fun u86 hI => hI.elim fun u87 hI => hI.elim fun u88 hI => hI.elim fun u89 hI => hI.elim fun u90 hI => hI.elim fun u91 hI => hI.elim fun u92 hI => hI.elim fun u93 hI => hI.elim fun u94 hI => hI.elim fun u95 hI => hI.elim fun u96 hI => hI.elim fun u97 hI => hI.elim fun u98 hI => hI.elim fun u99 hI => hI.elim fun u100 hI => hI.elim fun u101 hI => hI.elim fun u102 hI => hI.elim fun u103 hI => hI.elim fun u104 hI => hI.elim fun u105 hI => hI.elim fun u106 hI => hI.elim fun u107 hI => hI.elim fun u108 hI => ?_
                        have ha := hI.1
                        subst ha
                        have hb := hI.2.1
                        have g0 := hI.2.2.1
                        have g1 := hI.2.2.2.1
                        have g2 := hI.2.2.2.2.1
                        have g3 := hI.2.2.2.2.2.1
                        have g4 := hI.2.2.2.2.2.2.1
                        have g5 := hI.2.2.2.2.2.2.2.1
                        have g6 := hI.2.2.2.2.2.2.2.2.1
                        have g7 := hI.2.2.2.2.2.2.2.2.2.1
                        have g8 := hI.2.2.2.2.2.2.2.2.2.2.1
                        have g9 := hI.2.2.2.2.2.2.2.2.2.2.2.1
                        have g10 := hI.2.2.2.2.2.2.2.2.2.2.2.2.1
                        have g11 := hI.2.2.2.2.2.2.2.2.2.2.2.2.2.1
                        have g12 := hI.2.2.2.2.2.2.2.2.2.2.2.2.2.2.1
                        have g13 := hI.2.2.2.2.2.2.2.2.2.2.2.2.2.2.2.1
                        have g14 := hI.2.2.2.2.2.2.2.2.2.2.2.2.2.2.2.2.1
                        have g15 := hI.2.2.2.2.2.2.2.2.2.2.2.2.2.2.2.2.2.1
                        have g16 := hI.2.2.2.2.2.2.2.2.2.2.2.2.2.2.2.2.2.2.1
                        have g17 := hI.2.2.2.2.2.2.2.2.2.2.2.2.2.2.2.2.2.2.2.1
                        have g18 := hI.2.2.2.2.2.2.2.2.2.2.2.2.2.2.2.2.2.2.2.2.1
                        have g19 := hI.2.2.2.2.2.2.2.2.2.2.2.2.2.2.2.2.2.2.2.2.2.1
                        have g20 := hI.2.2.2.2.2.2.2.2.2.2.2.2.2.2.2.2.2.2.2.2.2.2.1
                        have g21 := hI.2.2.2.2.2.2.2.2.2.2.2.2.2.2.2.2.2.2.2.2.2.2.2.1
                        have g22 := hI.2.2.2.2.2.2.2.2.2.2.2.2.2.2.2.2.2.2.2.2.2.2.2.2.1
                        have g23 := hI.2.2.2.2.2.2.2.2.2.2.2.2.2.2.2.2.2.2.2.2.2.2.2.2.2.1
                        have g24 := hI.2.2.2.2.2.2.2.2.2.2.2.2.2.2.2.2.2.2.2.2.2.2.2.2.2.2.1
                        have g25 := hI.2.2.2.2.2.2.2.2.2.2.2.2.2.2.2.2.2.2.2.2.2.2.2.2.2.2.2.1
                        have g26 := hI.2.2.2.2.2.2.2.2.2.2.2.2.2.2.2.2.2.2.2.2.2.2.2.2.2.2.2.2.1
                        have g27 := hI.2.2.2.2.2.2.2.2.2.2.2.2.2.2.2.2.2.2.2.2.2.2.2.2.2.2.2.2.2.1
                        have g28 := hI.2.2.2.2.2.2.2.2.2.2.2.2.2.2.2.2.2.2.2.2.2.2.2.2.2.2.2.2.2.2
                        clear hI
                        simp [Region.binds] at hd
                        dsimp only at hK ⊢
                        have e2 := g2 (by simp [hd])
                        subst e2
                        go_simp
                        exact hK _ _ ⟨_, _, _, _, _, _, _, _, _, _, _, _, _, _, _, _, _, _, _, _, _, _, _, _, _, _, _, _, _, rfl, hb, g0, g1, g2, g3, g4, g5, g6, g7, g8, fun _ => rfl, g10, g11, g12, g13, g14, g15, g16, g17, g18, g19, g20, g21, g22, g23, g24, g25, g26, g27, g28⟩
                      · intro L a w' hI hl hd K hK
                        refine hI.elim fun u80 hI => hI.elim fun u81 hI => hI.elim fun u82 hI => hI.elim fun u83 hI => hI.elim fun u84 hI => hI.elim fun u85 hI => hI.elim fun u86 hI => hI.elim fun u87 hI => hI.elim fun u88 hI => hI.elim fun u89 hI => hI.elim fun u90 hI => hI.elim fun u91 hI => hI.elim fun u92 hI => hI.elim fun u93 hI => hI.elim fun u94 hI => hI.elim fun u95 hI => hI.elim fun u96 hI => hI.elim fun u97 hI => hI.elim fun u98 hI => hI.elim fun u99 hI => hI.elim fun u100 hI => hI.elim fun u101 hI => hI.elim fun u102 hI => hI.elim fun u103 hI => hI.elim fun u104 hI => hI.elim fun u105 hI => hI.elim fun u106 hI => hI.elim fun u107 hI => hI.elim fun u108 hI => ?_
                        have ha := hI.1
                        subst ha
                        have hb := hI.2.1
                        have g0 := hI.2.2.1
                        have g1 := hI.2.2.2.1
                        have g2 := hI.2.2.2.2.1
                        have g3 := hI.2.2.2.2.2.1
                        have g4 := hI.2.2.2.2.2.2.1
                        have g5 := hI.2.2.2.2.2.2.2.1
                        have g6 := hI.2.2.2.2.2.2.2.2.1
                        have g7 := hI.2.2.2.2.2.2.2.2.2.1
                        have g8 := hI.2.2.2.2.2.2.2.2.2.2.1
                        have g9 := hI.2.2.2.2.2.2.2.2.2.2.2.1
                        have g10 := hI.2.2.2.2.2.2.2.2.2.2.2.2.1
                        have g11 := hI.2.2.2.2.2.2.2.2.2.2.2.2.2.1
                        have g12 := hI.2.2.2.2.2.2.2.2.2.2.2.2.2.2.1
                        have g13 := hI.2.2.2.2.2.2.2.2.2.2.2.2.2.2.2.1
                        have g14 := hI.2.2.2.2.2.2.2.2.2.2.2.2.2.2.2.2.1
                        have g15 := hI.2.2.2.2.2.2.2.2.2.2.2.2.2.2.2.2.2.1
                        have g16 := hI.2.2.2.2.2.2.2.2.2.2.2.2.2.2.2.2.2.2.1
                        have g17 := hI.2.2.2.2.2.2.2.2.2.2.2.2.2.2.2.2.2.2.2.1
                        have g18 := hI.2.2.2.2.2.2.2.2.2.2.2.2.2.2.2.2.2.2.2.2.1
                        have g19 := hI.2.2.2.2.2.2.2.2.2.2.2.2.2.2.2.2.2.2.2.2.2.1
                        have g20 := hI.2.2.2.2.2.2.2.2.2.2.2.2.2.2.2.2.2.2.2.2.2.2.1
                        have g21 := hI.2.2.2.2.2.2.2.2.2.2.2.2.2.2.2.2.2.2.2.2.2.2.2.1
                        have g22 := hI.2.2.2.2.2.2.2.2.2.2.2.2.2.2.2.2.2.2.2.2.2.2.2.2.1
                        have g23 := hI.2.2.2.2.2.2.2.2.2.2.2.2.2.2.2.2.2.2.2.2.2.2.2.2.2.1
                        have g24 := hI.2.2.2.2.2.2.2.2.2.2.2.2.2.2.2.2.2.2.2.2.2.2.2.2.2.2.1
                        have g25 := hI.2.2.2.2.2.2.2.2.2.2.2.2.2.2.2.2.2.2.2.2.2.2.2.2.2.2.2.1
                        have g26 := hI.2.2.2.2.2.2.2.2.2.2.2.2.2.2.2.2.2.2.2.2.2.2.2.2.2.2.2.2.1
                        have g27 := hI.2.2.2.2.2.2.2.2.2.2.2.2.2.2.2.2.2.2.2.2.2.2.2.2.2.2.2.2.2.1
                        have g28 := hI.2.2.2.2.2.2.2.2.2.2.2.2.2.2.2.2.2.2.2.2.2.2.2.2.2.2.2.2.2.2
                        clear hI
                        simp [Region.binds] at hd
                        dsimp only at hK ⊢
                        have e2 := g2 (by simp [hd])
                        subst e2
                        have e9 := g9 (by simp [hd])
                        subst e9
                        have bb := M1.out.below hb M1.out.lt
                        have c0 := bb.cell 0
                        simp only [List.getElem?_toArray, List.getElem?_cons_zero] at c0
                        go_simp
                        exact hK _ _ ⟨_, _, _, _, _, _, _, _, _, _, _, _, _, _, _, _, _, _, _, _, _, _, _, _, _, _, _, _, _, rfl, hb, g0, g1, g2, g3, g4, g5, g6, g7, g8, g9, fun _ => rfl, g11, g12, g13, g14, g15, g16, g17, g18, g19, g20, g21, g22, g23, g24, g25, g26, g27, g28⟩
                      · intro L a w' hI hl hd K hK
                        refine hI.elim fun u80 hI => hI.elim fun u81 hI => hI.elim fun u82 hI => hI.elim fun u83 hI => hI.elim fun u84 hI => hI.elim fun u85 hI => hI.elim fun u86 hI => hI.elim fun u87 hI => hI.elim fun u88 hI => hI.elim fun u89 hI => hI.elim fun u90 hI => hI.elim fun u91 hI => hI.elim fun u92 hI => hI.elim fun u93 hI => hI.elim fun u94 hI => hI.elim fun u95 hI => hI.elim fun u96 hI => hI.elim fun u97 hI => hI.elim fun u98 hI => hI.elim fun u99 hI => hI.elim fun u100 hI => hI.elim fun u101 hI => hI.elim fun u102 hI => hI.elim fun u103 hI => hI.elim fun u104 hI => hI.elim fun u105 hI => hI.elim fun u106 hI => hI.elim fun u107 hI => hI.elim fun u108 hI => ?_
                        have ha := hI.1
                        subst ha
                        have hb := hI.2.1
                        have g0 := hI.2.2.1
                        have g1 := hI.2.2.2.1
                        have g2 := hI.2.2.2.2.1
                        have g3 := hI.2.2.2.2.2.1
                        have g4 := hI.2.2.2.2.2.2.1
                        have g5 := hI.2.2.2.2.2.2.2.1
                        have g6 := hI.2.2.2.2.2.2.2.2.1
                        have g7 := hI.2.2.2.2.2.2.2.2.2.1
                        have g8 := hI.2.2.2.2.2.2.2.2.2.2.1
                        have g9 := hI.2.2.2.2.2.2.2.2.2.2.2.1
                        have g10 := hI.2.2.2.2.2.2.2.2.2.2.2.2.1
                        have g11 := hI.2.2.2.2.2.2.2.2.2.2.2.2.2.1
                        have g12 := hI.2.2.2.2.2.2.2.2.2.2.2.2.2.2.1
                        have g13 := hI.2.2.2.2.2.2.2.2.2.2.2.2.2.2.2.1
                        have g14 := hI.2.2.2.2.2.2.2.2.2.2.2.2.2.2.2.2.1
                        have g15 := hI.2.2.2.2.2.2.2.2.2.2.2.2.2.2.2.2.2.1
                        have g16 := hI.2.2.2.2.2.2.2.2.2.2.2.2.2.2.2.2.2.2.1
                        have g17 := hI.2.2.2.2.2.2.2.2.2.2.2.2.2.2.2.2.2.2.2.1
                        have g18 := hI.2.2.2.2.2.2.2.2.2.2.2.2.2.2.2.2.2.2.2.2.1
                        have g19 := hI.2.2.2.2.2.2.2.2.2.2.2.2.2.2.2.2.2.2.2.2.2.1
                        have g20 := hI.2.2.2.2.2.2.2.2.2.2.2.2.2.2.2.2.2.2.2.2.2.2.1
                        have g21 := hI.2.2.2.2.2.2.2.2.2.2.2.2.2.2.2.2.2.2.2.2.2.2.2.1
                        have g22 := hI.2.2.2.2.2.2.2.2.2.2.2.2.2.2.2.2.2.2.2.2.2.2.2.2.1
                        have g23 := hI.2.2.2.2.2.2.2.2.2.2.2.2.2.2.2.2.2.2.2.2.2.2.2.2.2.1
                        have g24 := hI.2.2.2.2.2.2.2.2.2.2.2.2.2.2.2.2.2.2.2.2.2.2.2.2.2.2.1
                        have g25 := hI.2.2.2.2.2.2.2.2.2.2.2.2.2.2.2.2.2.2.2.2.2.2.2.2.2.2.2.1
                        have g26 := hI.2.2.2.2.2.2.2.2.2.2.2.2.2.2.2.2.2.2.2.2.2.2.2.2.2.2.2.2.1
                        have g27 := hI.2.2.2.2.2.2.2.2.2.2.2.2.2.2.2.2.2.2.2.2.2.2.2.2.2.2.2.2.2.1
                        have g28 := hI.2.2.2.2.2.2.2.2.2.2.2.2.2.2.2.2.2.2.2.2.2.2.2.2.2.2.2.2.2.2
                        clear hI
                        simp [Region.binds] at hd
                        dsimp only at hK ⊢
                        have e2 := g2 (by simp [hd])
                        subst e2
                        go_simp
                        exact hK _ _ ⟨_, _, _, _, _, _, _, _, _, _, _, _, _, _, _, _, _, _, _, _, _, _, _, _, _, _, _, _, _, rfl, hb, g0, g1, g2, g3, g4, g5, g6, g7, g8, g9, g10, fun _ => rfl, g12, g13, g14, g15, g16, g17, g18, g19, g20, g21, g22, g23, g24, g25, g26, g27, g28⟩
                      · intro L a w' hI hl hd K hK
                        refine hI.elim fun u80 hI => hI.elim fun u81 hI => hI.elim fun u82 hI => hI.elim fun u83 hI => hI.elim fun u84 hI => hI.elim fun u85 hI => hI.elim fun u86 hI => hI.elim fun u87 hI => hI.elim fun u88 hI => hI.elim fun u89 hI => hI.elim fun u90 hI => hI.elim fun u91 hI => hI.elim fun u92 hI => hI.elim fun u93 hI => hI.elim fun u94 hI => hI.elim fun u95 hI => hI.elim fun u96 hI => hI.elim fun u97 hI => hI.elim fun u98 hI => hI.elim fun u99 hI => hI.elim fun u100 hI => hI.elim fun u101 hI => hI.elim fun u102 hI => hI.elim fun u103 hI => hI.elim fun u104 hI => hI.elim fun u105 hI => hI.elim fun u106 hI => hI.elim fun u107 hI => hI.elim fun u108 hI => ?_
                        have ha := hI.1
                        subst ha
                        have hb := hI.2.1
                        have g0 := hI.2.2.1
                        have g1 := hI.2.2.2.1
                        have g2 := hI.2.2.2.2.1
                        have g3 := hI.2.2.2.2.2.1
                        have g4 := hI.2.2.2.2.2.2.1
                        have g5 := hI.2.2.2.2.2.2.2.1
                        have g6 := hI.2.2.2.2.2.2.2.2.1
                        have g7 := hI.2.2.2.2.2.2.2.2.2.1
                        have g8 := hI.2.2.2.2.2.2.2.2.2.2.1
                        have g9 := hI.2.2.2.2.2.2.2.2.2.2.2.1
                        have g10 := hI.2.2.2.2.2.2.2.2.2.2.2.2.1
                        have g11 := hI.2.2.2.2.2.2.2.2.2.2.2.2.2.1
                        have g12 := hI.2.2.2.2.2.2.2.2.2.2.2.2.2.2.1
                        have g13 := hI.2.2.2.2.2.2.2.2.2.2.2.2.2.2.2.1
                        have g14 := hI.2.2.2.2.2.2.2.2.2.2.2.2.2.2.2.2.1
                        have g15 := hI.2.2.2.2.2.2.2.2.2.2.2.2.2.2.2.2.2.1
                        have g16 := hI.2.2.2.2.2.2.2.2.2.2.2.2.2.2.2.2.2.2.1
                        have g17 := hI.2.2.2.2.2.2.2.2.2.2.2.2.2.2.2.2.2.2.2.1
                        have g18 := hI.2.2.2.2.2.2.2.2.2.2.2.2.2.2.2.2.2.2.2.2.1
                        have g19 := hI.2.2.2.2.2.2.2.2.2.2.2.2.2.2.2.2.2.2.2.2.2.1
                        have g20 := hI.2.2.2.2.2.2.2.2.2.2.2.2.2.2.2.2.2.2.2.2.2.2.1
                        have g21 := hI.2.2.2.2.2.2.2.2.2.2.2.2.2.2.2.2.2.2.2.2.2.2.2.1
                        have g22 := hI.2.2.2.2.2.2.2.2.2.2.2.2.2.2.2.2.2.2.2.2.2.2.2.2.1
                        have g23 := hI.2.2.2.2.2.2.2.2.2.2.2.2.2.2.2.2.2.2.2.2.2.2.2.2.2.1
                        have g24 := hI.2.2.2.2.2.2.2.2.2.2.2.2.2.2.2.2.2.2.2.2.2.2.2.2.2.2.1
                        have g25 := hI.2.2.2.2.2.2.2.2.2.2.2.2.2.2.2.2.2.2.2.2.2.2.2.2.2.2.2.1
                        have g26 := hI.2.2.2.2.2.2.2.2.2.2.2.2.2.2.2.2.2.2.2.2.2.2.2.2.2.2.2.2.1
                        have g27 := hI.2.2.2.2.2.2.2.2.2.2.2.2.2.2.2.2.2.2.2.2.2.2.2.2.2.2.2.2.2.1
                        have g28 := hI.2.2.2.2.2.2.2.2.2.2.2.2.2.2.2.2.2.2.2.2.2.2.2.2.2.2.2.2.2.2
                        clear hI
                        simp [Region.binds] at hd
                        dsimp only at hK ⊢
                        have e2 := g2 (by simp [hd])
                        subst e2
                        have e11 := g11 (by simp [hd])
                        subst e11
                        have bb := K16.out.below hb K16.out.lt
                        have c0 := bb.cell 0
                        simp only [List.getElem?_toArray, List.getElem?_cons_zero] at c0
                        go_simp
                        exact hK _ _ ⟨_, _, _, _, _, _, _, _, _, _, _, _, _, _, _, _, _, _, _, _, _, _, _, _, _, _, _, _, _, rfl, hb, g0, g1, g2, g3, g4, g5, g6, g7, g8, g9, g10, g11, fun _ => rfl, g13, g14, g15, g16, g17, g18, g19, g20, g21, g22, g23, g24, g25, g26, g27, g28⟩
                      · intro L a w' hI hl hd K hK
                        refine hI.elim fun u80 hI => hI.elim fun u81 hI => hI.elim fun u82 hI => hI.elim fun u83 hI => hI.elim fun u84 hI => hI.elim fun u85 hI => hI.elim fun u86 hI => hI.elim fun u87 hI => hI.elim fun u88 hI => hI.elim fun u89 hI => hI.elim fun u90 hI => hI.elim fun u91 hI => hI.elim fun u92 hI => hI.elim fun u93 hI => hI.elim fun u94 hI => hI.elim fun u95 hI => hI.elim fun u96 hI => hI.elim fun u97 hI => hI.elim fun u98 hI => hI.elim fun u99 hI => hI.elim fun u100 hI => hI.elim fun u101 hI => hI.elim fun u102 hI => hI.elim fun u103 hI => hI.elim fun u104 hI => hI.elim fun u105 hI => hI.elim fun u106 hI => hI.elim fun u107 hI => hI.elim fun u108 hI => ?_
                        have ha := hI.1
                        subst ha
                        have hb := hI.2.1
                        have g0 := hI.2.2.1
                        have g1 := hI.2.2.2.1
                        have g2 := hI.2.2.2.2.1
                        have g3 := hI.2.2.2.2.2.1
                        have g4 := hI.2.2.2.2.2.2.1
                        have g5 := hI.2.2.2.2.2.2.2.1
                        have g6 := hI.2.2.2.2.2.2.2.2.1
                        have g7 := hI.2.2.2.2.2.2.2.2.2.1
                        have g8 := hI.2.2.2.2.2.2.2.2.2.2.1
                        have g9 := hI.2.2.2.2.2.2.2.2.2.2.2.1
                        have g10 := hI.2.2.2.2.2.2.2.2.2.2.2.2.1
                        have g11 := hI.2.2.2.2.2.2.2.2.2.2.2.2.2.1
                        have g12 := hI.2.2.2.2.2.2.2.2.2.2.2.2.2.2.1
                        have g13 := hI.2.2.2.2.2.2.2.2.2.2.2.2.2.2.2.1
                        have g14 := hI.2.2.2.2.2.2.2.2.2.2.2.2.2.2.2.2.1
                        have g15 := hI.2.2.2.2.2.2.2.2.2.2.2.2.2.2.2.2.2.1
                        have g16 := hI.2.2.2.2.2.2.2.2.2.2.2.2.2.2.2.2.2.2.1
                        have g17 := hI.2.2.2.2.2.2.2.2.2.2.2.2.2.2.2.2.2.2.2.1
                        have g18 := hI.2.2.2.2.2.2.2.2.2.2.2.2.2.2.2.2.2.2.2.2.1
                        have g19 := hI.2.2.2.2.2.2.2.2.2.2.2.2.2.2.2.2.2.2.2.2.2.1
                        have g20 := hI.2.2.2.2.2.2.2.2.2.2.2.2.2.2.2.2.2.2.2.2.2.2.1
                        have g21 := hI.2.2.2.2.2.2.2.2.2.2.2.2.2.2.2.2.2.2.2.2.2.2.2.1
                        have g22 := hI.2.2.2.2.2.2.2.2.2.2.2.2.2.2.2.2.2.2.2.2.2.2.2.2.1
                        have g23 := hI.2.2.2.2.2.2.2.2.2.2.2.2.2.2.2.2.2.2.2.2.2.2.2.2.2.1
                        have g24 := hI.2.2.2.2.2.2.2.2.2.2.2.2.2.2.2.2.2.2.2.2.2.2.2.2.2.2.1
                        have g25 := hI.2.2.2.2.2.2.2.2.2.2.2.2.2.2.2.2.2.2.2.2.2.2.2.2.2.2.2.1
                        have g26 := hI.2.2.2.2.2.2.2.2.2.2.2.2.2.2.2.2.2.2.2.2.2.2.2.2.2.2.2.2.1
                        have g27 := hI.2.2.2.2.2.2.2.2.2.2.2.2.2.2.2.2.2.2.2.2.2.2.2.2.2.2.2.2.2.1
                        have g28 := hI.2.2.2.2.2.2.2.2.2.2.2.2.2.2.2.2.2.2.2.2.2.2.2.2.2.2.2.2.2.2
                        clear hI
                        simp [Region.binds] at hd
                        dsimp only at hK ⊢
                        have e2 := g2 (by simp [hd])
                        subst e2
                        have e10 := g10 (by simp [hd])
                        subst e10
                        have e12 := g12 (by simp [hd])
                        subst e12
                        go_wp2_with fail
                        refine (D1.out w').mono ?_
                        rintro _ w4 ⟨rfl, rfl⟩
                        exact hK _ _ ⟨_, _, _, _, _, _, _, _, _, _, _, _, _, _, _, _, _, _, _, _, _, _, _, _, _, _, _, _, _, rfl, hb, g0, g1, g2, g3, g4, g5, g6, g7, g8, g9, g10, g11, g12, fun _ => rfl, g14, g15, g16, g17, g18, g19, g20, g21, g22, g23, g24, g25, g26, g27, g28⟩
                      · intro L a w' hI hl hd K hK
                        refine hI.elim fun u80 hI => hI.elim fun u81 hI => hI.elim fun u82 hI => hI.elim fun u83 hI => hI.elim fun u84 hI => hI.elim fun u85 hI => hI.elim fun u86 hI => hI.elim fun u87 hI => hI.elim fun u88 hI => hI.elim fun u89 hI => hI.elim fun u90 hI => hI.elim fun u91 hI => hI.elim fun u92 hI => hI.elim fun u93 hI => hI.elim fun u94 hI => hI.elim fun u95 hI => hI.elim fun u96 hI => hI.elim fun u97 hI => hI.elim fun u98 hI => hI.elim fun u99 hI => hI.elim fun u100 hI => hI.elim fun u101 hI => hI.elim fun u102 hI => hI.elim fun u103 hI => hI.elim fun u104 hI => hI.elim fun u105 hI => hI.elim fun u106 hI => hI.elim fun u107 hI => hI.elim fun u108 hI => ?_
                        have ha := hI.1
                        subst ha
                        have hb := hI.2.1
                        have g0 := hI.2.2.1
                        have g1 := hI.2.2.2.1
                        have g2 := hI.2.2.2.2.1
                        have g3 := hI.2.2.2.2.2.1
                        have g4 := hI.2.2.2.2.2.2.1
                        have g5 := hI.2.2.2.2.2.2.2.1
                        have g6 := hI.2.2.2.2.2.2.2.2.1
                        have g7 := hI.2.2.2.2.2.2.2.2.2.1
                        have g8 := hI.2.2.2.2.2.2.2.2.2.2.1
                        have g9 := hI.2.2.2.2.2.2.2.2.2.2.2.1
                        have g10 := hI.2.2.2.2.2.2.2.2.2.2.2.2.1
                        have g11 := hI.2.2.2.2.2.2.2.2.2.2.2.2.2.1
                        have g12 := hI.2.2.2.2.2.2.2.2.2.2.2.2.2.2.1
                        have g13 := hI.2.2.2.2.2.2.2.2.2.2.2.2.2.2.2.1
                        have g14 := hI.2.2.2.2.2.2.2.2.2.2.2.2.2.2.2.2.1
                        have g15 := hI.2.2.2.2.2.2.2.2.2.2.2.2.2.2.2.2.2.1
                        have g16 := hI.2.2.2.2.2.2.2.2.2.2.2.2.2.2.2.2.2.2.1
                        have g17 := hI.2.2.2.2.2.2.2.2.2.2.2.2.2.2.2.2.2.2.2.1
                        have g18 := hI.2.2.2.2.2.2.2.2.2.2.2.2.2.2.2.2.2.2.2.2.1
                        have g19 := hI.2.2.2.2.2.2.2.2.2.2.2.2.2.2.2.2.2.2.2.2.2.1
                        have g20 := hI.2.2.2.2.2.2.2.2.2.2.2.2.2.2.2.2.2.2.2.2.2.2.1
                        have g21 := hI.2.2.2.2.2.2.2.2.2.2.2.2.2.2.2.2.2.2.2.2.2.2.2.1
                        have g22 := hI.2.2.2.2.2.2.2.2.2.2.2.2.2.2.2.2.2.2.2.2.2.2.2.2.1
                        have g23 := hI.2.2.2.2.2.2.2.2.2.2.2.2.2.2.2.2.2.2.2.2.2.2.2.2.2.1
                        have g24 := hI.2.2.2.2.2.2.2.2.2.2.2.2.2.2.2.2.2.2.2.2.2.2.2.2.2.2.1
                        have g25 := hI.2.2.2.2.2.2.2.2.2.2.2.2.2.2.2.2.2.2.2.2.2.2.2.2.2.2.2.1
                        have g26 := hI.2.2.2.2.2.2.2.2.2.2.2.2.2.2.2.2.2.2.2.2.2.2.2.2.2.2.2.2.1
                        have g27 := hI.2.2.2.2.2.2.2.2.2.2.2.2.2.2.2.2.2.2.2.2.2.2.2.2.2.2.2.2.2.1
                        have g28 := hI.2.2.2.2.2.2.2.2.2.2.2.2.2.2.2.2.2.2.2.2.2.2.2.2.2.2.2.2.2.2
                        clear hI
                        simp [Region.binds] at hd
                        dsimp only at hK ⊢
                        have e2 := g2 (by simp [hd])
                        subst e2
                        go_simp
                        exact hK _ _ ⟨_, _, _, _, _, _, _, _, _, _, _, _, _, _, _, _, _, _, _, _, _, _, _, _, _, _, _, _, _, rfl, hb, g0, g1, g2, g3, g4, g5, g6, g7, g8, g9, g10, g11, g12, g13, fun _ => rfl, g15, g16, g17, g18, g19, g20, g21, g22, g23, g24, g25, g26, g27, g28⟩
                      · intro L a w' hI hl hd K hK
                        refine hI.elim fun u80 hI => hI.elim fun u81 hI => hI.elim fun u82 hI => hI.elim fun u83 hI => hI.elim fun u84 hI => hI.elim fun u85 hI => hI.elim fun u86 hI => hI.elim fun u87 hI => hI.elim fun u88 hI => hI.elim fun u89 hI => hI.elim fun u90 hI => hI.elim fun u91 hI => hI.elim fun u92 hI => hI.elim fun u93 hI => hI.elim fun u94 hI => hI.elim fun u95 hI => hI.elim fun u96 hI => hI.elim fun u97 hI => hI.elim fun u98 hI => hI.elim fun u99 hI => hI.elim fun u100 hI => hI.elim fun u101 hI => hI.elim fun u102 hI => hI.elim fun u103 hI => hI.elim fun u104 hI => hI.elim fun u105 hI => hI.elim fun u106 hI => hI.elim fun u107 hI => hI.elim fun u108 hI => ?_
                        have ha := hI.1
                        subst ha
                        have hb := hI.2.1
                        have g0 := hI.2.2.1
                        have g1 := hI.2.2.2.1
                        have g2 := hI.2.2.2.2.1
                        have g3 := hI.2.2.2.2.2.1
                        have g4 := hI.2.2.2.2.2.2.1
                        have g5 := hI.2.2.2.2.2.2.2.1
                        have g6 := hI.2.2.2.2.2.2.2.2.1
                        have g7 := hI.2.2.2.2.2.2.2.2.2.1
                        have g8 := hI.2.2.2.2.2.2.2.2.2.2.1
                        have g9 := hI.2.2.2.2.2.2.2.2.2.2.2.1
                        have g10 := hI.2.2.2.2.2.2.2.2.2.2.2.2.1
                        have g11 := hI.2.2.2.2.2.2.2.2.2.2.2.2.2.1
                        have g12 := hI.2.2.2.2.2.2.2.2.2.2.2.2.2.2.1
                        have g13 := hI.2.2.2.2.2.2.2.2.2.2.2.2.2.2.2.1
                        have g14 := hI.2.2.2.2.2.2.2.2.2.2.2.2.2.2.2.2.1
                        have g15 := hI.2.2.2.2.2.2.2.2.2.2.2.2.2.2.2.2.2.1
                        have g16 := hI.2.2.2.2.2.2.2.2.2.2.2.2.2.2.2.2.2.2.1
                        have g17 := hI.2.2.2.2.2.2.2.2.2.2.2.2.2.2.2.2.2.2.2.1
                        have g18 := hI.2.2.2.2.2.2.2.2.2.2.2.2.2.2.2.2.2.2.2.2.1
                        have g19 := hI.2.2.2.2.2.2.2.2.2.2.2.2.2.2.2.2.2.2.2.2.2.1
                        have g20 := hI.2.2.2.2.2.2.2.2.2.2.2.2.2.2.2.2.2.2.2.2.2.2.1
                        have g21 := hI.2.2.2.2.2.2.2.2.2.2.2.2.2.2.2.2.2.2.2.2.2.2.2.1
                        have g22 := hI.2.2.2.2.2.2.2.2.2.2.2.2.2.2.2.2.2.2.2.2.2.2.2.2.1
                        have g23 := hI.2.2.2.2.2.2.2.2.2.2.2.2.2.2.2.2.2.2.2.2.2.2.2.2.2.1
                        have g24 := hI.2.2.2.2.2.2.2.2.2.2.2.2.2.2.2.2.2.2.2.2.2.2.2.2.2.2.1
                        have g25 := hI.2.2.2.2.2.2.2.2.2.2.2.2.2.2.2.2.2.2.2.2.2.2.2.2.2.2.2.1
                        have g26 := hI.2.2.2.2.2.2.2.2.2.2.2.2.2.2.2.2.2.2.2.2.2.2.2.2.2.2.2.2.1
                        have g27 := hI.2.2.2.2.2.2.2.2.2.2.2.2.2.2.2.2.2.2.2.2.2.2.2.2.2.2.2.2.2.1
                        have g28 := hI.2.2.2.2.2.2.2.2.2.2.2.2.2.2.2.2.2.2.2.2.2.2.2.2.2.2.2.2.2.2
                        clear hI
                        simp [Region.binds] at hd
                        dsimp only at hK ⊢
                        have e2 := g2 (by simp [hd])
                        subst e2
                        go_simp
                        exact hK _ _ ⟨_, _, _, _, _, _, _, _, _, _, _, _, _, _, _, _, _, _, _, _, _, _, _, _, _, _, _, _, _, rfl, hb, g0, g1, g2, g3, g4, g5, g6, g7, g8, g9, g10, g11, g12, g13, g14, fun _ => rfl, g16, g17, g18, g19, g20, g21, g22, g23, g24, g25, g26, g27, g28⟩
                      · intro L a w' hI hl hd K hK
                        refine hI.elim fun u80 hI => hI.elim fun u81 hI => hI.elim fun u82 hI => hI.elim fun u83 hI => hI.elim fun u84 hI => hI.elim fun u85 hI => hI.elim fun u86 hI => hI.elim fun u87 hI => hI.elim fun u88 hI => hI.elim fun u89 hI => hI.elim fun u90 hI => hI.elim fun u91 hI => hI.elim fun u92 hI => hI.elim fun u93 hI => hI.elim fun u94 hI => hI.elim fun u95 hI => hI.elim fun u96 hI => hI.elim fun u97 hI => hI.elim fun u98 hI => hI.elim fun u99 hI => hI.elim fun u100 hI => hI.elim fun u101 hI => hI.elim fun u102 hI => hI.elim fun u103 hI => hI.elim fun u104 hI => hI.elim fun u105 hI => hI.elim fun u106 hI => hI.elim fun u107 hI => hI.elim fun u108 hI => ?_
                        have ha := hI.1
                        subst ha
                        have hb := hI.2.1
                        have g0 := hI.2.2.1
                        have g1 := hI.2.2.2.1
                        have g2 := hI.2.2.2.2.1
                        have g3 := hI.2.2.2.2.2.1
                        have g4 := hI.2.2.2.2.2.2.1
                        have g5 := hI.2.2.2.2.2.2.2.1
                        have g6 := hI.2.2.2.2.2.2.2.2.1
                        have g7 := hI.2.2.2.2.2.2.2.2.2.1
                        have g8 := hI.2.2.2.2.2.2.2.2.2.2.1
                        have g9 := hI.2.2.2.2.2.2.2.2.2.2.2.1
                        have g10 := hI.2.2.2.2.2.2.2.2.2.2.2.2.1
                        have g11 := hI.2.2.2.2.2.2.2.2.2.2.2.2.2.1
                        have g12 := hI.2.2.2.2.2.2.2.2.2.2.2.2.2.2.1
                        have g13 := hI.2.2.2.2.2.2.2.2.2.2.2.2.2.2.2.1
                        have g14 := hI.2.2.2.2.2.2.2.2.2.2.2.2.2.2.2.2.1
                        have g15 := hI.2.2.2.2.2.2.2.2.2.2.2.2.2.2.2.2.2.1
                        have g16 := hI.2.2.2.2.2.2.2.2.2.2.2.2.2.2.2.2.2.2.1
                        have g17 := hI.2.2.2.2.2.2.2.2.2.2.2.2.2.2.2.2.2.2.2.1
                        have g18 := hI.2.2.2.2.2.2.2.2.2.2.2.2.2.2.2.2.2.2.2.2.1
                        have g19 := hI.2.2.2.2.2.2.2.2.2.2.2.2.2.2.2.2.2.2.2.2.2.1
                        have g20 := hI.2.2.2.2.2.2.2.2.2.2.2.2.2.2.2.2.2.2.2.2.2.2.1
                        have g21 := hI.2.2.2.2.2.2.2.2.2.2.2.2.2.2.2.2.2.2.2.2.2.2.2.1
                        have g22 := hI.2.2.2.2.2.2.2.2.2.2.2.2.2.2.2.2.2.2.2.2.2.2.2.2.1
                        have g23 := hI.2.2.2.2.2.2.2.2.2.2.2.2.2.2.2.2.2.2.2.2.2.2.2.2.2.1
                        have g24 := hI.2.2.2.2.2.2.2.2.2.2.2.2.2.2.2.2.2.2.2.2.2.2.2.2.2.2.1
                        have g25 := hI.2.2.2.2.2.2.2.2.2.2.2.2.2.2.2.2.2.2.2.2.2.2.2.2.2.2.2.1
                        have g26 := hI.2.2.2.2.2.2.2.2.2.2.2.2.2.2.2.2.2.2.2.2.2.2.2.2.2.2.2.2.1
                        have g27 := hI.2.2.2.2.2.2.2.2.2.2.2.2.2.2.2.2.2.2.2.2.2.2.2.2.2.2.2.2.2.1
                        have g28 := hI.2.2.2.2.2.2.2.2.2.2.2.2.2.2.2.2.2.2.2.2.2.2.2.2.2.2.2.2.2.2
                        clear hI
                        simp [Region.binds] at hd
                        dsimp only at hK ⊢
                        have e2 := g2 (by simp [hd])
                        subst e2
                        have e15 := g15 (by simp [hd])
                        subst e15
                        have bb := M2.out.below hb M2.out.lt
                        have c3 := bb.cell 3
                        have c4 := bb.cell 4
                        have c5 := bb.cell 5
                        have c6 := bb.cell 6
                        simp only [List.getElem?_toArray, List.getElem?_cons_zero, List.getElem?_cons_succ] at c3 c4 c5 c6
                        go_simp
                        exact hK _ _ ⟨_, _, _, _, _, _, _, _, _, _, _, _, _, _, _, _, _, _, _, _, _, _, _, _, _, _, _, _, _, rfl, hb, g0, g1, g2, g3, g4, g5, g6, g7, g8, g9, g10, g11, g12, g13, g14, g15, fun _ => rfl, g17, g18, g19, g20, g21, g22, g23, g24, g25, g26, g27, g28⟩
                      · intro L a w' hI hl hd K hK
                        refine hI.elim fun u80 hI => hI.elim fun u81 hI => hI.elim fun u82 hI => hI.elim fun u83 hI => hI.elim fun u84 hI => hI.elim fun u85 hI => hI.elim fun u86 hI => hI.elim fun u87 hI => hI.elim fun u88 hI => hI.elim fun u89 hI => hI.elim fun u90 hI => hI.elim fun u91 hI => hI.elim fun u92 hI => hI.elim fun u93 hI => hI.elim fun u94 hI => hI.elim fun u95 hI => hI.elim fun u96 hI => hI.elim fun u97 hI => hI.elim fun u98 hI => hI.elim fun u99 hI => hI.elim fun u100 hI => hI.elim fun u101 hI => hI.elim fun u102 hI => hI.elim fun u103 hI => hI.elim fun u104 hI => hI.elim fun u105 hI => hI.elim fun u106 hI => hI.elim fun u107 hI => hI.elim fun u108 hI => ?_
                        have ha := hI.1
                        subst ha
                        have hb := hI.2.1
                        have g0 := hI.2.2.1
                        have g1 := hI.2.2.2.1
                        have g2 := hI.2.2.2.2.1
                        have g3 := hI.2.2.2.2.2.1
                        have g4 := hI.2.2.2.2.2.2.1
                        have g5 := hI.2.2.2.2.2.2.2.1
                        have g6 := hI.2.2.2.2.2.2.2.2.1
                        have g7 := hI.2.2.2.2.2.2.2.2.2.1
                        have g8 := hI.2.2.2.2.2.2.2.2.2.2.1
                        have g9 := hI.2.2.2.2.2.2.2.2.2.2.2.1
                        have g10 := hI.2.2.2.2.2.2.2.2.2.2.2.2.1
                        have g11 := hI.2.2.2.2.2.2.2.2.2.2.2.2.2.1
                        have g12 := hI.2.2.2.2.2.2.2.2.2.2.2.2.2.2.1
                        have g13 := hI.2.2.2.2.2.2.2.2.2.2.2.2.2.2.2.1
                        have g14 := hI.2.2.2.2.2.2.2.2.2.2.2.2.2.2.2.2.1
                        have g15 := hI.2.2.2.2.2.2.2.2.2.2.2.2.2.2.2.2.2.1
                        have g16 := hI.2.2.2.2.2.2.2.2.2.2.2.2.2.2.2.2.2.2.1
                        have g17 := hI.2.2.2.2.2.2.2.2.2.2.2.2.2.2.2.2.2.2.2.1
                        have g18 := hI.2.2.2.2.2.2.2.2.2.2.2.2.2.2.2.2.2.2.2.2.1
                        have g19 := hI.2.2.2.2.2.2.2.2.2.2.2.2.2.2.2.2.2.2.2.2.2.1
                        have g20 := hI.2.2.2.2.2.2.2.2.2.2.2.2.2.2.2.2.2.2.2.2.2.2.1
                        have g21 := hI.2.2.2.2.2.2.2.2.2.2.2.2.2.2.2.2.2.2.2.2.2.2.2.1
                        have g22 := hI.2.2.2.2.2.2.2.2.2.2.2.2.2.2.2.2.2.2.2.2.2.2.2.2.1
                        have g23 := hI.2.2.2.2.2.2.2.2.2.2.2.2.2.2.2.2.2.2.2.2.2.2.2.2.2.1
                        have g24 := hI.2.2.2.2.2.2.2.2.2.2.2.2.2.2.2.2.2.2.2.2.2.2.2.2.2.2.1
                        have g25 := hI.2.2.2.2.2.2.2.2.2.2.2.2.2.2.2.2.2.2.2.2.2.2.2.2.2.2.2.1
                        have g26 := hI.2.2.2.2.2.2.2.2.2.2.2.2.2.2.2.2.2.2.2.2.2.2.2.2.2.2.2.2.1
                        have g27 := hI.2.2.2.2.2.2.2.2.2.2.2.2.2.2.2.2.2.2.2.2.2.2.2.2.2.2.2.2.2.1
                        have g28 := hI.2.2.2.2.2.2.2.2.2.2.2.2.2.2.2.2.2.2.2.2.2.2.2.2.2.2.2.2.2.2
                        clear hI
                        simp [Region.binds] at hd
                        dsimp only at hK ⊢
                        have e2 := g2 (by simp [hd])
                        subst e2
                        go_simp
                        exact hK _ _ ⟨_, _, _, _, _, _, _, _, _, _, _, _, _, _, _, _, _, _, _, _, _, _, _, _, _, _, _, _, _, rfl, hb, g0, g1, g2, g3, g4, g5, g6, g7, g8, g9, g10, g11, g12, g13, g14, g15, g16, fun _ => rfl, g18, g19, g20, g21, g22, g23, g24, g25, g26, g27, g28⟩
                      · intro L a w' hI hl hd K hK
                        refine hI.elim fun u80 hI => hI.elim fun u81 hI => hI.elim fun u82 hI => hI.elim fun u83 hI => hI.elim fun u84 hI => hI.elim fun u85 hI => hI.elim fun u86 hI => hI.elim fun u87 hI => hI.elim fun u88 hI => hI.elim fun u89 hI => hI.elim fun u90 hI => hI.elim fun u91 hI => hI.elim fun u92 hI => hI.elim fun u93 hI => hI.elim fun u94 hI => hI.elim fun u95 hI => hI.elim fun u96 hI => hI.elim fun u97 hI => hI.elim fun u98 hI => hI.elim fun u99 hI => hI.elim fun u100 hI => hI.elim fun u101 hI => hI.elim fun u102 hI => hI.elim fun u103 hI => hI.elim fun u104 hI => hI.elim fun u105 hI => hI.elim fun u106 hI => hI.elim fun u107 hI => hI.elim fun u108 hI => ?_
                        have ha := hI.1
                        subst ha
                        have hb := hI.2.1
                        have g0 := hI.2.2.1
                        have g1 := hI.2.2.2.1
                        have g2 := hI.2.2.2.2.1
                        have g3 := hI.2.2.2.2.2.1
                        have g4 := hI.2.2.2.2.2.2.1
                        have g5 := hI.2.2.2.2.2.2.2.1
                        have g6 := hI.2.2.2.2.2.2.2.2.1
                        have g7 := hI.2.2.2.2.2.2.2.2.2.1
                        have g8 := hI.2.2.2.2.2.2.2.2.2.2.1
                        have g9 := hI.2.2.2.2.2.2.2.2.2.2.2.1
                        have g10 := hI.2.2.2.2.2.2.2.2.2.2.2.2.1
                        have g11 := hI.2.2.2.2.2.2.2.2.2.2.2.2.2.1
                        have g12 := hI.2.2.2.2.2.2.2.2.2.2.2.2.2.2.1
                        have g13 := hI.2.2.2.2.2.2.2.2.2.2.2.2.2.2.2.1
                        have g14 := hI.2.2.2.2.2.2.2.2.2.2.2.2.2.2.2.2.1
                        have g15 := hI.2.2.2.2.2.2.2.2.2.2.2.2.2.2.2.2.2.1
                        have g16 := hI.2.2.2.2.2.2.2.2.2.2.2.2.2.2.2.2.2.2.1
                        have g17 := hI.2.2.2.2.2.2.2.2.2.2.2.2.2.2.2.2.2.2.2.1
                        have g18 := hI.2.2.2.2.2.2.2.2.2.2.2.2.2.2.2.2.2.2.2.2.1
                        have g19 := hI.2.2.2.2.2.2.2.2.2.2.2.2.2.2.2.2.2.2.2.2.2.1
                        have g20 := hI.2.2.2.2.2.2.2.2.2.2.2.2.2.2.2.2.2.2.2.2.2.2.1
                        have g21 := hI.2.2.2.2.2.2.2.2.2.2.2.2.2.2.2.2.2.2.2.2.2.2.2.1
                        have g22 := hI.2.2.2.2.2.2.2.2.2.2.2.2.2.2.2.2.2.2.2.2.2.2.2.2.1
                        have g23 := hI.2.2.2.2.2.2.2.2.2.2.2.2.2.2.2.2.2.2.2.2.2.2.2.2.2.1
                        have g24 := hI.2.2.2.2.2.2.2.2.2.2.2.2.2.2.2.2.2.2.2.2.2.2.2.2.2.2.1
                        have g25 := hI.2.2.2.2.2.2.2.2.2.2.2.2.2.2.2.2.2.2.2.2.2.2.2.2.2.2.2.1
                        have g26 := hI.2.2.2.2.2.2.2.2.2.2.2.2.2.2.2.2.2.2.2.2.2.2.2.2.2.2.2.2.1
                        have g27 := hI.2.2.2.2.2.2.2.2.2.2.2.2.2.2.2.2.2.2.2.2.2.2.2.2.2.2.2.2.2.1
                        have g28 := hI.2.2.2.2.2.2.2.2.2.2.2.2.2.2.2.2.2.2.2.2.2.2.2.2.2.2.2.2.2.2
                        clear hI
                        simp [Region.binds] at hd
                        dsimp only at hK ⊢
                        have e2 := g2 (by simp [hd])
                        subst e2
                        have e17 := g17 (by simp [hd])
                        subst e17
                        have bb := K26.out.below hb K26.out.lt
                        have c3 := bb.cell 3
                        have c4 := bb.cell 4
                        have c5 := bb.cell 5
                        have c6 := bb.cell 6
                        simp only [List.getElem?_toArray, List.getElem?_cons_zero, List.getElem?_cons_succ] at c3 c4 c5 c6
                        go_simp
                        exact hK _ _ ⟨_, _, _, _, _, _, _, _, _, _, _, _, _, _, _, _, _, _, _, _, _, _, _, _, _, _, _, _, _, rfl, hb, g0, g1, g2, g3, g4, g5, g6, g7, g8, g9, g10, g11, g12, g13, g14, g15, g16, g17, fun _ => rfl, g19, g20, g21, g22, g23, g24, g25, g26, g27, g28⟩
                      · intro L a w' hI hl hd K hK
                        refine hI.elim fun u80 hI => hI.elim fun u81 hI => hI.elim fun u82 hI => hI.elim fun u83 hI => hI.elim fun u84 hI => hI.elim fun u85 hI => hI.elim fun u86 hI => hI.elim fun u87 hI => hI.elim fun u88 hI => hI.elim fun u89 hI => hI.elim fun u90 hI => hI.elim fun u91 hI => hI.elim fun u92 hI => hI.elim fun u93 hI => hI.elim fun u94 hI => hI.elim fun u95 hI => hI.elim fun u96 hI => hI.elim fun u97 hI => hI.elim fun u98 hI => hI.elim fun u99 hI => hI.elim fun u100 hI => hI.elim fun u101 hI => hI.elim fun u102 hI => hI.elim fun u103 hI => hI.elim fun u104 hI => hI.elim fun u105 hI => hI.elim fun u106 hI => hI.elim fun u107 hI => hI.elim fun u108 hI => ?_
                        have ha := hI.1
                        subst ha
                        have hb := hI.2.1
                        have g0 := hI.2.2.1
                        have g1 := hI.2.2.2.1
                        have g2 := hI.2.2.2.2.1
                        have g3 := hI.2.2.2.2.2.1
                        have g4 := hI.2.2.2.2.2.2.1
                        have g5 := hI.2.2.2.2.2.2.2.1
                        have g6 := hI.2.2.2.2.2.2.2.2.1
                        have g7 := hI.2.2.2.2.2.2.2.2.2.1
                        have g8 := hI.2.2.2.2.2.2.2.2.2.2.1
                        have g9 := hI.2.2.2.2.2.2.2.2.2.2.2.1
                        have g10 := hI.2.2.2.2.2.2.2.2.2.2.2.2.1
                        have g11 := hI.2.2.2.2.2.2.2.2.2.2.2.2.2.1
                        have g12 := hI.2.2.2.2.2.2.2.2.2.2.2.2.2.2.1
                        have g13 := hI.2.2.2.2.2.2.2.2.2.2.2.2.2.2.2.1
                        have g14 := hI.2.2.2.2.2.2.2.2.2.2.2.2.2.2.2.2.1
                        have g15 := hI.2.2.2.2.2.2.2.2.2.2.2.2.2.2.2.2.2.1
                        have g16 := hI.2.2.2.2.2.2.2.2.2.2.2.2.2.2.2.2.2.2.1
                        have g17 := hI.2.2.2.2.2.2.2.2.2.2.2.2.2.2.2.2.2.2.2.1
                        have g18 := hI.2.2.2.2.2.2.2.2.2.2.2.2.2.2.2.2.2.2.2.2.1
                        have g19 := hI.2.2.2.2.2.2.2.2.2.2.2.2.2.2.2.2.2.2.2.2.2.1
                        have g20 := hI.2.2.2.2.2.2.2.2.2.2.2.2.2.2.2.2.2.2.2.2.2.2.1
                        have g21 := hI.2.2.2.2.2.2.2.2.2.2.2.2.2.2.2.2.2.2.2.2.2.2.2.1
                        have g22 := hI.2.2.2.2.2.2.2.2.2.2.2.2.2.2.2.2.2.2.2.2.2.2.2.2.1
                        have g23 := hI.2.2.2.2.2.2.2.2.2.2.2.2.2.2.2.2.2.2.2.2.2.2.2.2.2.1
                        have g24 := hI.2.2.2.2.2.2.2.2.2.2.2.2.2.2.2.2.2.2.2.2.2.2.2.2.2.2.1
                        have g25 := hI.2.2.2.2.2.2.2.2.2.2.2.2.2.2.2.2.2.2.2.2.2.2.2.2.2.2.2.1
                        have g26 := hI.2.2.2.2.2.2.2.2.2.2.2.2.2.2.2.2.2.2.2.2.2.2.2.2.2.2.2.2.1
                        have g27 := hI.2.2.2.2.2.2.2.2.2.2.2.2.2.2.2.2.2.2.2.2.2.2.2.2.2.2.2.2.2.1
                        have g28 := hI.2.2.2.2.2.2.2.2.2.2.2.2.2.2.2.2.2.2.2.2.2.2.2.2.2.2.2.2.2.2
                        clear hI
                        simp [Region.binds] at hd
                        dsimp only at hK ⊢
                        have e2 := g2 (by simp [hd])
                        subst e2
                        have e14 := g14 (by simp [hd])
                        subst e14
                        have e16 := g16 (by simp [hd])
                        subst e16
                        have e18 := g18 (by simp [hd])
                        subst e18
                        go_wp2_with fail
                        refine (C2.out w').mono ?_
                        rintro _ w4 ⟨rfl, hb4⟩
                        exact hK _ _ ⟨_, _, _, _, _, _, _, _, _, _, _, _, _, _, _, _, _, _, _, _, _, _, _, _, _, _, _, _, _, rfl, bst hb hb4, g0, g1, g2, g3, g4, g5, g6, g7, g8, g9, g10, g11, g12, g13, g14, g15, g16, g17, g18, fun _ => rfl, g20, g21, g22, g23, g24, g25.below hb4, g26, g27, g28⟩
                      · intro L a w' hI hl hd K hK
                        refine hI.elim fun u80 hI => hI.elim fun u81 hI => hI.elim fun u82 hI => hI.elim fun u83 hI => hI.elim fun u84 hI => hI.elim fun u85 hI => hI.elim fun u86 hI => hI.elim fun u87 hI => hI.elim fun u88 hI => hI.elim fun u89 hI => hI.elim fun u90 hI => hI.elim fun u91 hI => hI.elim fun u92 hI => hI.elim fun u93 hI => hI.elim fun u94 hI => hI.elim fun u95 hI => hI.elim fun u96 hI => hI.elim fun u97 hI => hI.elim fun u98 hI => hI.elim fun u99 hI => hI.elim fun u100 hI => hI.elim fun u101 hI => hI.elim fun u102 hI => hI.elim fun u103 hI => hI.elim fun u104 hI => hI.elim fun u105 hI => hI.elim fun u106 hI => hI.elim fun u107 hI => hI.elim fun u108 hI => ?_
                        have ha := hI.1
                        subst ha
                        have hb := hI.2.1
                        have g0 := hI.2.2.1
                        have g1 := hI.2.2.2.1
                        have g2 := hI.2.2.2.2.1
                        have g3 := hI.2.2.2.2.2.1
                        have g4 := hI.2.2.2.2.2.2.1
                        have g5 := hI.2.2.2.2.2.2.2.1
                        have g6 := hI.2.2.2.2.2.2.2.2.1
                        have g7 := hI.2.2.2.2.2.2.2.2.2.1
                        have g8 := hI.2.2.2.2.2.2.2.2.2.2.1
                        have g9 := hI.2.2.2.2.2.2.2.2.2.2.2.1
                        have g10 := hI.2.2.2.2.2.2.2.2.2.2.2.2.1
                        have g11 := hI.2.2.2.2.2.2.2.2.2.2.2.2.2.1
                        have g12 := hI.2.2.2.2.2.2.2.2.2.2.2.2.2.2.1
                        have g13 := hI.2.2.2.2.2.2.2.2.2.2.2.2.2.2.2.1
                        have g14 := hI.2.2.2.2.2.2.2.2.2.2.2.2.2.2.2.2.1
                        have g15 := hI.2.2.2.2.2.2.2.2.2.2.2.2.2.2.2.2.2.1
                        have g16 := hI.2.2.2.2.2.2.2.2.2.2.2.2.2.2.2.2.2.2.1
                        have g17 := hI.2.2.2.2.2.2.2.2.2.2.2.2.2.2.2.2.2.2.2.1
                        have g18 := hI.2.2.2.2.2.2.2.2.2.2.2.2.2.2.2.2.2.2.2.2.1
                        have g19 := hI.2.2.2.2.2.2.2.2.2.2.2.2.2.2.2.2.2.2.2.2.2.1
                        have g20 := hI.2.2.2.2.2.2.2.2.2.2.2.2.2.2.2.2.2.2.2.2.2.2.1
                        have g21 := hI.2.2.2.2.2.2.2.2.2.2.2.2.2.2.2.2.2.2.2.2.2.2.2.1
                        have g22 := hI.2.2.2.2.2.2.2.2.2.2.2.2.2.2.2.2.2.2.2.2.2.2.2.2.1
                        have g23 := hI.2.2.2.2.2.2.2.2.2.2.2.2.2.2.2.2.2.2.2.2.2.2.2.2.2.1
                        have g24 := hI.2.2.2.2.2.2.2.2.2.2.2.2.2.2.2.2.2.2.2.2.2.2.2.2.2.2.1
                        have g25 := hI.2.2.2.2.2.2.2.2.2.2.2.2.2.2.2.2.2.2.2.2.2.2.2.2.2.2.2.1
                        have g26 := hI.2.2.2.2.2.2.2.2.2.2.2.2.2.2.2.2.2.2.2.2.2.2.2.2.2.2.2.2.1
                        have g27 := hI.2.2.2.2.2.2.2.2.2.2.2.2.2.2.2.2.2.2.2.2.2.2.2.2.2.2.2.2.2.1
                        have g28 := hI.2.2.2.2.2.2.2.2.2.2.2.2.2.2.2.2.2.2.2.2.2.2.2.2.2.2.2.2.2.2
                        clear hI
                        simp [Region.binds] at hd
                        dsimp only at hK ⊢
                        have e2 := g2 (by simp [hd])
                        subst e2
                        go_simp
                        exact hK _ _ ⟨_, _, _, _, _, _, _, _, _, _, _, _, _, _, _, _, _, _, _, _, _, _, _, _, _, _, _, _, _, rfl, hb, g0, g1, g2, g3, g4, g5, g6, g7, g8, g9, g10, g11, g12, g13, g14, g15, g16, g17, g18, g19, fun _ => rfl, g21, g22, g23, g24, g25, g26, g27, g28⟩
                      · intro L a w' hI hl hd K hK
                        refine hI.elim fun u80 hI => hI.elim fun u81 hI => hI.elim fun u82 hI => hI.elim fun u83 hI => hI.elim fun u84 hI => hI.elim fun u85 hI => hI.elim fun u86 hI => hI.elim fun u87 hI => hI.elim fun u88 hI => hI.elim fun u89 hI => hI.elim fun u90 hI => hI.elim fun u91 hI => hI.elim fun u92 hI => hI.elim fun u93 hI => hI.elim fun u94 hI => hI.elim fun u95 hI => hI.elim fun u96 hI => hI.elim fun u97 hI => hI.elim fun u98 hI => hI.elim fun u99 hI => hI.elim fun u100 hI => hI.elim fun u101 hI => hI.elim fun u102 hI => hI.elim fun u103 hI => hI.elim fun u104 hI => hI.elim fun u105 hI => hI.elim fun u106 hI => hI.elim fun u107 hI => hI.elim fun u108 hI => ?_
                        have ha := hI.1
                        subst ha
                        have hb := hI.2.1
                        have g0 := hI.2.2.1
                        have g1 := hI.2.2.2.1
                        have g2 := hI.2.2.2.2.1
                        have g3 := hI.2.2.2.2.2.1
                        have g4 := hI.2.2.2.2.2.2.1
                        have g5 := hI.2.2.2.2.2.2.2.1
                        have g6 := hI.2.2.2.2.2.2.2.2.1
                        have g7 := hI.2.2.2.2.2.2.2.2.2.1
                        have g8 := hI.2.2.2.2.2.2.2.2.2.2.1
                        have g9 := hI.2.2.2.2.2.2.2.2.2.2.2.1
                        have g10 := hI.2.2.2.2.2.2.2.2.2.2.2.2.1
                        have g11 := hI.2.2.2.2.2.2.2.2.2.2.2.2.2.1
                        have g12 := hI.2.2.2.2.2.2.2.2.2.2.2.2.2.2.1
                        have g13 := hI.2.2.2.2.2.2.2.2.2.2.2.2.2.2.2.1
                        have g14 := hI.2.2.2.2.2.2.2.2.2.2.2.2.2.2.2.2.1
                        have g15 := hI.2.2.2.2.2.2.2.2.2.2.2.2.2.2.2.2.2.1
                        have g16 := hI.2.2.2.2.2.2.2.2.2.2.2.2.2.2.2.2.2.2.1
                        have g17 := hI.2.2.2.2.2.2.2.2.2.2.2.2.2.2.2.2.2.2.2.1
                        have g18 := hI.2.2.2.2.2.2.2.2.2.2.2.2.2.2.2.2.2.2.2.2.1
                        have g19 := hI.2.2.2.2.2.2.2.2.2.2.2.2.2.2.2.2.2.2.2.2.2.1
                        have g20 := hI.2.2.2.2.2.2.2.2.2.2.2.2.2.2.2.2.2.2.2.2.2.2.1
                        have g21 := hI.2.2.2.2.2.2.2.2.2.2.2.2.2.2.2.2.2.2.2.2.2.2.2.1
                        have g22 := hI.2.2.2.2.2.2.2.2.2.2.2.2.2.2.2.2.2.2.2.2.2.2.2.2.1
                        have g23 := hI.2.2.2.2.2.2.2.2.2.2.2.2.2.2.2.2.2.2.2.2.2.2.2.2.2.1
                        have g24 := hI.2.2.2.2.2.2.2.2.2.2.2.2.2.2.2.2.2.2.2.2.2.2.2.2.2.2.1
                        have g25 := hI.2.2.2.2.2.2.2.2.2.2.2.2.2.2.2.2.2.2.2.2.2.2.2.2.2.2.2.1
                        have g26 := hI.2.2.2.2.2.2.2.2.2.2.2.2.2.2.2.2.2.2.2.2.2.2.2.2.2.2.2.2.1
                        have g27 := hI.2.2.2.2.2.2.2.2.2.2.2.2.2.2.2.2.2.2.2.2.2.2.2.2.2.2.2.2.2.1
                        have g28 := hI.2.2.2.2.2.2.2.2.2.2.2.2.2.2.2.2.2.2.2.2.2.2.2.2.2.2.2.2.2.2
                        clear hI
                        simp [Region.binds] at hd
                        dsimp only at hK ⊢
                        have e2 := g2 (by simp [hd])
                        subst e2
                        have e20 := g20 (by simp [hd])
                        subst e20
                        have bb := M2.out.below hb M2.out.lt
                        have c0 := bb.cell 0
                        simp only [List.getElem?_toArray, List.getElem?_cons_zero] at c0
                        go_simp
                        exact hK _ _ ⟨_, _, _, _, _, _, _, _, _, _, _, _, _, _, _, _, _, _, _, _, _, _, _, _, _, _, _, _, _, rfl, hb, g0, g1, g2, g3, g4, g5, g6, g7, g8, g9, g10, g11, g12, g13, g14, g15, g16, g17, g18, g19, g20, fun _ => rfl, g22, g23, g24, g25, g26, g27, g28⟩
                      · intro L a w' hI hl hd K hK
                        refine hI.elim fun u80 hI => hI.elim fun u81 hI => hI.elim fun u82 hI => hI.elim fun u83 hI => hI.elim fun u84 hI => hI.elim fun u85 hI => hI.elim fun u86 hI => hI.elim fun u87 hI => hI.elim fun u88 hI => hI.elim fun u89 hI => hI.elim fun u90 hI => hI.elim fun u91 hI => hI.elim fun u92 hI => hI.elim fun u93 hI => hI.elim fun u94 hI => hI.elim fun u95 hI => hI.elim fun u96 hI => hI.elim fun u97 hI => hI.elim fun u98 hI => hI.elim fun u99 hI => hI.elim fun u100 hI => hI.elim fun u101 hI => hI.elim fun u102 hI => hI.elim fun u103 hI => hI.elim fun u104 hI => hI.elim fun u105 hI => hI.elim fun u106 hI => hI.elim fun u107 hI => hI.elim fun u108 hI => ?_
                        have ha := hI.1
                        subst ha
                        have hb := hI.2.1
                        have g0 := hI.2.2.1
                        have g1 := hI.2.2.2.1
                        have g2 := hI.2.2.2.2.1
                        have g3 := hI.2.2.2.2.2.1
                        have g4 := hI.2.2.2.2.2.2.1
                        have g5 := hI.2.2.2.2.2.2.2.1
                        have g6 := hI.2.2.2.2.2.2.2.2.1
                        have g7 := hI.2.2.2.2.2.2.2.2.2.1
                        have g8 := hI.2.2.2.2.2.2.2.2.2.2.1
                        have g9 := hI.2.2.2.2.2.2.2.2.2.2.2.1
                        have g10 := hI.2.2.2.2.2.2.2.2.2.2.2.2.1
                        have g11 := hI.2.2.2.2.2.2.2.2.2.2.2.2.2.1
                        have g12 := hI.2.2.2.2.2.2.2.2.2.2.2.2.2.2.1
                        have g13 := hI.2.2.2.2.2.2.2.2.2.2.2.2.2.2.2.1
                        have g14 := hI.2.2.2.2.2.2.2.2.2.2.2.2.2.2.2.2.1
                        have g15 := hI.2.2.2.2.2.2.2.2.2.2.2.2.2.2.2.2.2.1
                        have g16 := hI.2.2.2.2.2.2.2.2.2.2.2.2.2.2.2.2.2.2.1
                        have g17 := hI.2.2.2.2.2.2.2.2.2.2.2.2.2.2.2.2.2.2.2.1
                        have g18 := hI.2.2.2.2.2.2.2.2.2.2.2.2.2.2.2.2.2.2.2.2.1
                        have g19 := hI.2.2.2.2.2.2.2.2.2.2.2.2.2.2.2.2.2.2.2.2.2.1
                        have g20 := hI.2.2.2.2.2.2.2.2.2.2.2.2.2.2.2.2.2.2.2.2.2.2.1
                        have g21 := hI.2.2.2.2.2.2.2.2.2.2.2.2.2.2.2.2.2.2.2.2.2.2.2.1
                        have g22 := hI.2.2.2.2.2.2.2.2.2.2.2.2.2.2.2.2.2.2.2.2.2.2.2.2.1
                        have g23 := hI.2.2.2.2.2.2.2.2.2.2.2.2.2.2.2.2.2.2.2.2.2.2.2.2.2.1
                        have g24 := hI.2.2.2.2.2.2.2.2.2.2.2.2.2.2.2.2.2.2.2.2.2.2.2.2.2.2.1
                        have g25 := hI.2.2.2.2.2.2.2.2.2.2.2.2.2.2.2.2.2.2.2.2.2.2.2.2.2.2.2.1
                        have g26 := hI.2.2.2.2.2.2.2.2.2.2.2.2.2.2.2.2.2.2.2.2.2.2.2.2.2.2.2.2.1
                        have g27 := hI.2.2.2.2.2.2.2.2.2.2.2.2.2.2.2.2.2.2.2.2.2.2.2.2.2.2.2.2.2.1
                        have g28 := hI.2.2.2.2.2.2.2.2.2.2.2.2.2.2.2.2.2.2.2.2.2.2.2.2.2.2.2.2.2.2
                        clear hI
                        simp [Region.binds] at hd
                        dsimp only at hK ⊢
                        have e2 := g2 (by simp [hd])
                        subst e2
                        go_simp
                        exact hK _ _ ⟨_, _, _, _, _, _, _, _, _, _, _, _, _, _, _, _, _, _, _, _, _, _, _, _, _, _, _, _, _, rfl, hb, g0, g1, g2, g3, g4, g5, g6, g7, g8, g9, g10, g11, g12, g13, g14, g15, g16, g17, g18, g19, g20, g21, fun _ => rfl, g23, g24, g25, g26, g27, g28⟩
                      · intro L a w' hI hl hd K hK
                        refine hI.elim fun u80 hI => hI.elim fun u81 hI => hI.elim fun u82 hI => hI.elim fun u83 hI => hI.elim fun u84 hI => hI.elim fun u85 hI => hI.elim fun u86 hI => hI.elim fun u87 hI => hI.elim fun u88 hI => hI.elim fun u89 hI => hI.elim fun u90 hI => hI.elim fun u91 hI => hI.elim fun u92 hI => hI.elim fun u93 hI => hI.elim fun u94 hI => hI.elim fun u95 hI => hI.elim fun u96 hI => hI.elim fun u97 hI => hI.elim fun u98 hI => hI.elim fun u99 hI => hI.elim fun u100 hI => hI.elim fun u101 hI => hI.elim fun u102 hI => hI.elim fun u103 hI => hI.elim fun u104 hI => hI.elim fun u105 hI => hI.elim fun u106 hI => hI.elim fun u107 hI => hI.elim fun u108 hI => ?_
                        have ha := hI.1
                        subst ha
                        have hb := hI.2.1
                        have g0 := hI.2.2.1
                        have g1 := hI.2.2.2.1
                        have g2 := hI.2.2.2.2.1
                        have g3 := hI.2.2.2.2.2.1
                        have g4 := hI.2.2.2.2.2.2.1
                        have g5 := hI.2.2.2.2.2.2.2.1
                        have g6 := hI.2.2.2.2.2.2.2.2.1
                        have g7 := hI.2.2.2.2.2.2.2.2.2.1
                        have g8 := hI.2.2.2.2.2.2.2.2.2.2.1
                        have g9 := hI.2.2.2.2.2.2.2.2.2.2.2.1
                        have g10 := hI.2.2.2.2.2.2.2.2.2.2.2.2.1
                        have g11 := hI.2.2.2.2.2.2.2.2.2.2.2.2.2.1
                        have g12 := hI.2.2.2.2.2.2.2.2.2.2.2.2.2.2.1
                        have g13 := hI.2.2.2.2.2.2.2.2.2.2.2.2.2.2.2.1
                        have g14 := hI.2.2.2.2.2.2.2.2.2.2.2.2.2.2.2.2.1
                        have g15 := hI.2.2.2.2.2.2.2.2.2.2.2.2.2.2.2.2.2.1
                        have g16 := hI.2.2.2.2.2.2.2.2.2.2.2.2.2.2.2.2.2.2.1
                        have g17 := hI.2.2.2.2.2.2.2.2.2.2.2.2.2.2.2.2.2.2.2.1
                        have g18 := hI.2.2.2.2.2.2.2.2.2.2.2.2.2.2.2.2.2.2.2.2.1
                        have g19 := hI.2.2.2.2.2.2.2.2.2.2.2.2.2.2.2.2.2.2.2.2.2.1
                        have g20 := hI.2.2.2.2.2.2.2.2.2.2.2.2.2.2.2.2.2.2.2.2.2.2.1
                        have g21 := hI.2.2.2.2.2.2.2.2.2.2.2.2.2.2.2.2.2.2.2.2.2.2.2.1
                        have g22 := hI.2.2.2.2.2.2.2.2.2.2.2.2.2.2.2.2.2.2.2.2.2.2.2.2.1
                        have g23 := hI.2.2.2.2.2.2.2.2.2.2.2.2.2.2.2.2.2.2.2.2.2.2.2.2.2.1
                        have g24 := hI.2.2.2.2.2.2.2.2.2.2.2.2.2.2.2.2.2.2.2.2.2.2.2.2.2.2.1
                        have g25 := hI.2.2.2.2.2.2.2.2.2.2.2.2.2.2.2.2.2.2.2.2.2.2.2.2.2.2.2.1
                        have g26 := hI.2.2.2.2.2.2.2.2.2.2.2.2.2.2.2.2.2.2.2.2.2.2.2.2.2.2.2.2.1
                        have g27 := hI.2.2.2.2.2.2.2.2.2.2.2.2.2.2.2.2.2.2.2.2.2.2.2.2.2.2.2.2.2.1
                        have g28 := hI.2.2.2.2.2.2.2.2.2.2.2.2.2.2.2.2.2.2.2.2.2.2.2.2.2.2.2.2.2.2
                        clear hI
                        simp [Region.binds] at hd
                        dsimp only at hK ⊢
                        have e2 := g2 (by simp [hd])
                        subst e2
                        have e22 := g22 (by simp [hd])
                        subst e22
                        have bb := K26.out.below hb K26.out.lt
                        have c0 := bb.cell 0
                        simp only [List.getElem?_toArray, List.getElem?_cons_zero] at c0
                        go_simp
                        exact hK _ _ ⟨_, _, _, _, _, _, _, _, _, _, _, _, _, _, _, _, _, _, _, _, _, _, _, _, _, _, _, _, _, rfl, hb, g0, g1, g2, g3, g4, g5, g6, g7, g8, g9, g10, g11, g12, g13, g14, g15, g16, g17, g18, g19, g20, g21, g22, fun _ => rfl, g24, g25, g26, g27, g28⟩
                      · intro L a w' hI hl hd K hK
                        refine hI.elim fun u80 hI => hI.elim fun u81 hI => hI.elim fun u82 hI => hI.elim fun u83 hI => hI.elim fun u84 hI => hI.elim fun u85 hI => hI.elim fun u86 hI => hI.elim fun u87 hI => hI.elim fun u88 hI => hI.elim fun u89 hI => hI.elim fun u90 hI => hI.elim fun u91 hI => hI.elim fun u92 hI => hI.elim fun u93 hI => hI.elim fun u94 hI => hI.elim fun u95 hI => hI.elim fun u96 hI => hI.elim fun u97 hI => hI.elim fun u98 hI => hI.elim fun u99 hI => hI.elim fun u100 hI => hI.elim fun u101 hI => hI.elim fun u102 hI => hI.elim fun u103 hI => hI.elim fun u104 hI => hI.elim fun u105 hI => hI.elim fun u106 hI => hI.elim fun u107 hI => hI.elim fun u108 hI => ?_
                        have ha := hI.1
                        subst ha
                        have hb := hI.2.1
                        have g0 := hI.2.2.1
                        have g1 := hI.2.2.2.1
                        have g2 := hI.2.2.2.2.1
                        have g3 := hI.2.2.2.2.2.1
                        have g4 := hI.2.2.2.2.2.2.1
                        have g5 := hI.2.2.2.2.2.2.2.1
                        have g6 := hI.2.2.2.2.2.2.2.2.1
                        have g7 := hI.2.2.2.2.2.2.2.2.2.1
                        have g8 := hI.2.2.2.2.2.2.2.2.2.2.1
                        have g9 := hI.2.2.2.2.2.2.2.2.2.2.2.1
                        have g10 := hI.2.2.2.2.2.2.2.2.2.2.2.2.1
                        have g11 := hI.2.2.2.2.2.2.2.2.2.2.2.2.2.1
                        have g12 := hI.2.2.2.2.2.2.2.2.2.2.2.2.2.2.1
                        have g13 := hI.2.2.2.2.2.2.2.2.2.2.2.2.2.2.2.1
                        have g14 := hI.2.2.2.2.2.2.2.2.2.2.2.2.2.2.2.2.1
                        have g15 := hI.2.2.2.2.2.2.2.2.2.2.2.2.2.2.2.2.2.1
                        have g16 := hI.2.2.2.2.2.2.2.2.2.2.2.2.2.2.2.2.2.2.1
                        have g17 := hI.2.2.2.2.2.2.2.2.2.2.2.2.2.2.2.2.2.2.2.1
                        have g18 := hI.2.2.2.2.2.2.2.2.2.2.2.2.2.2.2.2.2.2.2.2.1
                        have g19 := hI.2.2.2.2.2.2.2.2.2.2.2.2.2.2.2.2.2.2.2.2.2.1
                        have g20 := hI.2.2.2.2.2.2.2.2.2.2.2.2.2.2.2.2.2.2.2.2.2.2.1
                        have g21 := hI.2.2.2.2.2.2.2.2.2.2.2.2.2.2.2.2.2.2.2.2.2.2.2.1
                        have g22 := hI.2.2.2.2.2.2.2.2.2.2.2.2.2.2.2.2.2.2.2.2.2.2.2.2.1
                        have g23 := hI.2.2.2.2.2.2.2.2.2.2.2.2.2.2.2.2.2.2.2.2.2.2.2.2.2.1
                        have g24 := hI.2.2.2.2.2.2.2.2.2.2.2.2.2.2.2.2.2.2.2.2.2.2.2.2.2.2.1
                        have g25 := hI.2.2.2.2.2.2.2.2.2.2.2.2.2.2.2.2.2.2.2.2.2.2.2.2.2.2.2.1
                        have g26 := hI.2.2.2.2.2.2.2.2.2.2.2.2.2.2.2.2.2.2.2.2.2.2.2.2.2.2.2.2.1
                        have g27 := hI.2.2.2.2.2.2.2.2.2.2.2.2.2.2.2.2.2.2.2.2.2.2.2.2.2.2.2.2.2.1
                        have g28 := hI.2.2.2.2.2.2.2.2.2.2.2.2.2.2.2.2.2.2.2.2.2.2.2.2.2.2.2.2.2.2
                        clear hI
                        simp [Region.binds] at hd
                        dsimp only at hK ⊢
                        have e2 := g2 (by simp [hd])
                        subst e2
                        have e21 := g21 (by simp [hd])
                        subst e21
                        have e23 := g23 (by simp [hd])
                        subst e23
                        go_wp2_with fail
                        refine (D2.out w').mono ?_
                        rintro _ w4 ⟨rfl, rfl⟩
                        exact hK _ _ ⟨_, _, _, _, _, _, _, _, _, _, _, _, _, _, _, _, _, _, _, _, _, _, _, _, _, _, _, _, _, rfl, hb, g0, g1, g2, g3, g4, g5, g6, g7, g8, g9, g10, g11, g12, g13, g14, g15, g16, g17, g18, g19, g20, g21, g22, g23, fun _ => rfl, g25, g26, g27, g28⟩
                      · intro L a w' hI hl hd K hK
                        refine hI.elim fun u80 hI => hI.elim fun u81 hI => hI.elim fun u82 hI => hI.elim fun u83 hI => hI.elim fun u84 hI => hI.elim fun u85 hI => hI.elim fun u86 hI => hI.elim fun u87 hI => hI.elim fun u88 hI => hI.elim fun u89 hI => hI.elim fun u90 hI => hI.elim fun u91 hI => hI.elim fun u92 hI => hI.elim fun u93 hI => hI.elim fun u94 hI => hI.elim fun u95 hI => hI.elim fun u96 hI => hI.elim fun u97 hI => hI.elim fun u98 hI => hI.elim fun u99 hI => hI.elim fun u100 hI => hI.elim fun u101 hI => hI.elim fun u102 hI => hI.elim fun u103 hI => hI.elim fun u104 hI => hI.elim fun u105 hI => hI.elim fun u106 hI => hI.elim fun u107 hI => hI.elim fun u108 hI => ?_
                        have ha := hI.1
                        subst ha
                        have hb := hI.2.1
                        have g0 := hI.2.2.1
                        have g1 := hI.2.2.2.1
                        have g2 := hI.2.2.2.2.1
                        have g3 := hI.2.2.2.2.2.1
                        have g4 := hI.2.2.2.2.2.2.1
                        have g5 := hI.2.2.2.2.2.2.2.1
                        have g6 := hI.2.2.2.2.2.2.2.2.1
                        have g7 := hI.2.2.2.2.2.2.2.2.2.1
                        have g8 := hI.2.2.2.2.2.2.2.2.2.2.1
                        have g9 := hI.2.2.2.2.2.2.2.2.2.2.2.1
                        have g10 := hI.2.2.2.2.2.2.2.2.2.2.2.2.1
                        have g11 := hI.2.2.2.2.2.2.2.2.2.2.2.2.2.1
                        have g12 := hI.2.2.2.2.2.2.2.2.2.2.2.2.2.2.1
                        have g13 := hI.2.2.2.2.2.2.2.2.2.2.2.2.2.2.2.1
                        have g14 := hI.2.2.2.2.2.2.2.2.2.2.2.2.2.2.2.2.1
                        have g15 := hI.2.2.2.2.2.2.2.2.2.2.2.2.2.2.2.2.2.1
                        have g16 := hI.2.2.2.2.2.2.2.2.2.2.2.2.2.2.2.2.2.2.1
                        have g17 := hI.2.2.2.2.2.2.2.2.2.2.2.2.2.2.2.2.2.2.2.1
                        have g18 := hI.2.2.2.2.2.2.2.2.2.2.2.2.2.2.2.2.2.2.2.2.1
                        have g19 := hI.2.2.2.2.2.2.2.2.2.2.2.2.2.2.2.2.2.2.2.2.2.1
                        have g20 := hI.2.2.2.2.2.2.2.2.2.2.2.2.2.2.2.2.2.2.2.2.2.2.1
                        have g21 := hI.2.2.2.2.2.2.2.2.2.2.2.2.2.2.2.2.2.2.2.2.2.2.2.1
                        have g22 := hI.2.2.2.2.2.2.2.2.2.2.2.2.2.2.2.2.2.2.2.2.2.2.2.2.1
                        have g23 := hI.2.2.2.2.2.2.2.2.2.2.2.2.2.2.2.2.2.2.2.2.2.2.2.2.2.1
                        have g24 := hI.2.2.2.2.2.2.2.2.2.2.2.2.2.2.2.2.2.2.2.2.2.2.2.2.2.2.1
                        have g25 := hI.2.2.2.2.2.2.2.2.2.2.2.2.2.2.2.2.2.2.2.2.2.2.2.2.2.2.2.1
                        have g26 := hI.2.2.2.2.2.2.2.2.2.2.2.2.2.2.2.2.2.2.2.2.2.2.2.2.2.2.2.2.1
                        have g27 := hI.2.2.2.2.2.2.2.2.2.2.2.2.2.2.2.2.2.2.2.2.2.2.2.2.2.2.2.2.2.1
                        have g28 := hI.2.2.2.2.2.2.2.2.2.2.2.2.2.2.2.2.2.2.2.2.2.2.2.2.2.2.2.2.2.2
                        clear hI
                        simp [Region.binds] at hd
                        dsimp only at hK ⊢
                        have e2 := g2 (by simp [hd])
                        subst e2
                        have e8 := g8 (by simp [hd])
                        subst e8
                        have e13 := g13 (by simp [hd])
                        subst e13
                        have e19 := g19 (by simp [hd])
                        subst e19
                        have e24 := g24 (by simp [hd])
                        subst e24
                        go_simp
                        exact hK _ _ ⟨_, _, _, _, _, _, _, _, _, _, _, _, _, _, _, _, _, _, _, _, _, _, _, _, _, _, _, _, _, rfl, hb.alloc hb.size _, g0, g1, g2, g3, g4, g5, g6, g7, g8, g9, g10, g11, g12, g13, g14, g15, g16, g17, g18, g19, g20, g21, g22, g23, g24, fun _ => ⟨_, rfl, hb.size, Blk.new _ _ _⟩, g26, g27, g28⟩
                      · intro L a w' hI hl hd K hK
                        refine hI.elim fun u80 hI => hI.elim fun u81 hI => hI.elim fun u82 hI => hI.elim fun u83 hI => hI.elim fun u84 hI => hI.elim fun u85 hI => hI.elim fun u86 hI => hI.elim fun u87 hI => hI.elim fun u88 hI => hI.elim fun u89 hI => hI.elim fun u90 hI => hI.elim fun u91 hI => hI.elim fun u92 hI => hI.elim fun u93 hI => hI.elim fun u94 hI => hI.elim fun u95 hI => hI.elim fun u96 hI => hI.elim fun u97 hI => hI.elim fun u98 hI => hI.elim fun u99 hI => hI.elim fun u100 hI => hI.elim fun u101 hI => hI.elim fun u102 hI => hI.elim fun u103 hI => hI.elim fun u104 hI => hI.elim fun u105 hI => hI.elim fun u106 hI => hI.elim fun u107 hI => hI.elim fun u108 hI => ?_
                        have ha := hI.1
                        subst ha
                        have hb := hI.2.1
                        have g0 := hI.2.2.1
                        have g1 := hI.2.2.2.1
                        have g2 := hI.2.2.2.2.1
                        have g3 := hI.2.2.2.2.2.1
                        have g4 := hI.2.2.2.2.2.2.1
                        have g5 := hI.2.2.2.2.2.2.2.1
                        have g6 := hI.2.2.2.2.2.2.2.2.1
                        have g7 := hI.2.2.2.2.2.2.2.2.2.1
                        have g8 := hI.2.2.2.2.2.2.2.2.2.2.1
                        have g9 := hI.2.2.2.2.2.2.2.2.2.2.2.1
                        have g10 := hI.2.2.2.2.2.2.2.2.2.2.2.2.1
                        have g11 := hI.2.2.2.2.2.2.2.2.2.2.2.2.2.1
                        have g12 := hI.2.2.2.2.2.2.2.2.2.2.2.2.2.2.1
                        have g13 := hI.2.2.2.2.2.2.2.2.2.2.2.2.2.2.2.1
                        have g14 := hI.2.2.2.2.2.2.2.2.2.2.2.2.2.2.2.2.1
                        have g15 := hI.2.2.2.2.2.2.2.2.2.2.2.2.2.2.2.2.2.1
                        have g16 := hI.2.2.2.2.2.2.2.2.2.2.2.2.2.2.2.2.2.2.1
                        have g17 := hI.2.2.2.2.2.2.2.2.2.2.2.2.2.2.2.2.2.2.2.1
                        have g18 := hI.2.2.2.2.2.2.2.2.2.2.2.2.2.2.2.2.2.2.2.2.1
                        have g19 := hI.2.2.2.2.2.2.2.2.2.2.2.2.2.2.2.2.2.2.2.2.2.1
                        have g20 := hI.2.2.2.2.2.2.2.2.2.2.2.2.2.2.2.2.2.2.2.2.2.2.1
                        have g21 := hI.2.2.2.2.2.2.2.2.2.2.2.2.2.2.2.2.2.2.2.2.2.2.2.1
                        have g22 := hI.2.2.2.2.2.2.2.2.2.2.2.2.2.2.2.2.2.2.2.2.2.2.2.2.1
                        have g23 := hI.2.2.2.2.2.2.2.2.2.2.2.2.2.2.2.2.2.2.2.2.2.2.2.2.2.1
                        have g24 := hI.2.2.2.2.2.2.2.2.2.2.2.2.2.2.2.2.2.2.2.2.2.2.2.2.2.2.1
                        have g25 := hI.2.2.2.2.2.2.2.2.2.2.2.2.2.2.2.2.2.2.2.2.2.2.2.2.2.2.2.1
                        have g26 := hI.2.2.2.2.2.2.2.2.2.2.2.2.2.2.2.2.2.2.2.2.2.2.2.2.2.2.2.2.1
                        have g27 := hI.2.2.2.2.2.2.2.2.2.2.2.2.2.2.2.2.2.2.2.2.2.2.2.2.2.2.2.2.2.1
                        have g28 := hI.2.2.2.2.2.2.2.2.2.2.2.2.2.2.2.2.2.2.2.2.2.2.2.2.2.2.2.2.2.2
                        clear hI
                        simp [Region.binds] at hd
                        dsimp only at hK ⊢
                        have e2 := g2 (by simp [hd])
                        subst e2
                        obtain ⟨A, e33, hA, hB⟩ := g25 (by simp [hd])
                        subst e33
                        go_wp2_with fail
                        refine (or_any _ [k1, o1, k2, o2] w' (show Sl w' 1 _ 4 (ints [k1, o1, k2, o2]) from blk_sl1 hB rfl (by decide)) (by simp)).mono ?_
                        rintro _ w4 ⟨rfl, rfl⟩
                        exact hK _ _ ⟨_, _, _, _, _, _, _, _, _, _, _, _, _, _, _, _, _, _, _, _, _, _, _, _, _, _, _, _, _, rfl, hb, g0, g1, g2, g3, g4, g5, g6, g7, g8, g9, g10, g11, g12, g13, g14, g15, g16, g17, g18, g19, g20, g21, g22, g23, g24, fun _ => ⟨_, rfl, hA, hB⟩, fun _ => rfl, g27, g28⟩
                      · intro L a w' hI hl hd K hK
                        refine hI.elim fun u80 hI => hI.elim fun u81 hI => hI.elim fun u82 hI => hI.elim fun u83 hI => hI.elim fun u84 hI => hI.elim fun u85 hI => hI.elim fun u86 hI => hI.elim fun u87 hI => hI.elim fun u88 hI => hI.elim fun u89 hI => hI.elim fun u90 hI => hI.elim fun u91 hI => hI.elim fun u92 hI => hI.elim fun u93 hI => hI.elim fun u94 hI => hI.elim fun u95 hI => hI.elim fun u96 hI => hI.elim fun u97 hI => hI.elim fun u98 hI => hI.elim fun u99 hI => hI.elim fun u100 hI => hI.elim fun u101 hI => hI.elim fun u102 hI => hI.elim fun u103 hI => hI.elim fun u104 hI => hI.elim fun u105 hI => hI.elim fun u106 hI => hI.elim fun u107 hI => hI.elim fun u108 hI => ?_
                        have ha := hI.1
                        subst ha
                        have hb := hI.2.1
                        have g0 := hI.2.2.1
                        have g1 := hI.2.2.2.1
                        have g2 := hI.2.2.2.2.1
                        have g3 := hI.2.2.2.2.2.1
                        have g4 := hI.2.2.2.2.2.2.1
                        have g5 := hI.2.2.2.2.2.2.2.1
                        have g6 := hI.2.2.2.2.2.2.2.2.1
                        have g7 := hI.2.2.2.2.2.2.2.2.2.1
                        have g8 := hI.2.2.2.2.2.2.2.2.2.2.1
                        have g9 := hI.2.2.2.2.2.2.2.2.2.2.2.1
                        have g10 := hI.2.2.2.2.2.2.2.2.2.2.2.2.1
                        have g11 := hI.2.2.2.2.2.2.2.2.2.2.2.2.2.1
                        have g12 := hI.2.2.2.2.2.2.2.2.2.2.2.2.2.2.1
                        have g13 := hI.2.2.2.2.2.2.2.2.2.2.2.2.2.2.2.1
                        have g14 := hI.2.2.2.2.2.2.2.2.2.2.2.2.2.2.2.2.1
                        have g15 := hI.2.2.2.2.2.2.2.2.2.2.2.2.2.2.2.2.2.1
                        have g16 := hI.2.2.2.2.2.2.2.2.2.2.2.2.2.2.2.2.2.2.1
                        have g17 := hI.2.2.2.2.2.2.2.2.2.2.2.2.2.2.2.2.2.2.2.1
                        have g18 := hI.2.2.2.2.2.2.2.2.2.2.2.2.2.2.2.2.2.2.2.2.1
                        have g19 := hI.2.2.2.2.2.2.2.2.2.2.2.2.2.2.2.2.2.2.2.2.2.1
                        have g20 := hI.2.2.2.2.2.2.2.2.2.2.2.2.2.2.2.2.2.2.2.2.2.2.1
                        have g21 := hI.2.2.2.2.2.2.2.2.2.2.2.2.2.2.2.2.2.2.2.2.2.2.2.1
                        have g22 := hI.2.2.2.2.2.2.2.2.2.2.2.2.2.2.2.2.2.2.2.2.2.2.2.2.1
                        have g23 := hI.2.2.2.2.2.2.2.2.2.2.2.2.2.2.2.2.2.2.2.2.2.2.2.2.2.1
                        have g24 := hI.2.2.2.2.2.2.2.2.2.2.2.2.2.2.2.2.2.2.2.2.2.2.2.2.2.2.1
                        have g25 := hI.2.2.2.2.2.2.2.2.2.2.2.2.2.2.2.2.2.2.2.2.2.2.2.2.2.2.2.1
                        have g26 := hI.2.2.2.2.2.2.2.2.2.2.2.2.2.2.2.2.2.2.2.2.2.2.2.2.2.2.2.2.1
                        have g27 := hI.2.2.2.2.2.2.2.2.2.2.2.2.2.2.2.2.2.2.2.2.2.2.2.2.2.2.2.2.2.1
                        have g28 := hI.2.2.2.2.2.2.2.2.2.2.2.2.2.2.2.2.2.2.2.2.2.2.2.2.2.2.2.2.2.2
                        clear hI
                        simp [Region.binds] at hd
                        dsimp only at hK ⊢
                        have e2 := g2 (by simp [hd])
                        subst e2
                        have e26 := g26 (by simp [hd])
                        subst e26
                        go_simp
                        exact hK _ _ ⟨_, _, _, _, _, _, _, _, _, _, _, _, _, _, _, _, _, _, _, _, _, _, _, _, _, _, _, _, _, rfl, hb, g0, g1, g2, g3, g4, g5, g6, g7, g8, g9, g10, g11, g12, g13, g14, g15, g16, g17, g18, g19, g20, g21, g22, g23, g24, g25, g26, fun _ => congrArg Value.bool HSR.out, g28⟩
                      · intro L a w' hI hl hd K hK
                        refine hI.elim fun u80 hI => hI.elim fun u81 hI => hI.elim fun u82 hI => hI.elim fun u83 hI => hI.elim fun u84 hI => hI.elim fun u85 hI => hI.elim fun u86 hI => hI.elim fun u87 hI => hI.elim fun u88 hI => hI.elim fun u89 hI => hI.elim fun u90 hI => hI.elim fun u91 hI => hI.elim fun u92 hI => hI.elim fun u93 hI => hI.elim fun u94 hI => hI.elim fun u95 hI => hI.elim fun u96 hI => hI.elim fun u97 hI => hI.elim fun u98 hI => hI.elim fun u99 hI => hI.elim fun u100 hI => hI.elim fun u101 hI => hI.elim fun u102 hI => hI.elim fun u103 hI => hI.elim fun u104 hI => hI.elim fun u105 hI => hI.elim fun u106 hI => hI.elim fun u107 hI => hI.elim fun u108 hI => ?_
                        have ha := hI.1
                        subst ha
                        have hb := hI.2.1
                        have g0 := hI.2.2.1
                        have g1 := hI.2.2.2.1
                        have g2 := hI.2.2.2.2.1
                        have g3 := hI.2.2.2.2.2.1
                        have g4 := hI.2.2.2.2.2.2.1
                        have g5 := hI.2.2.2.2.2.2.2.1
                        have g6 := hI.2.2.2.2.2.2.2.2.1
                        have g7 := hI.2.2.2.2.2.2.2.2.2.1
                        have g8 := hI.2.2.2.2.2.2.2.2.2.2.1
                        have g9 := hI.2.2.2.2.2.2.2.2.2.2.2.1
                        have g10 := hI.2.2.2.2.2.2.2.2.2.2.2.2.1
                        have g11 := hI.2.2.2.2.2.2.2.2.2.2.2.2.2.1
                        have g12 := hI.2.2.2.2.2.2.2.2.2.2.2.2.2.2.1
                        have g13 := hI.2.2.2.2.2.2.2.2.2.2.2.2.2.2.2.1
                        have g14 := hI.2.2.2.2.2.2.2.2.2.2.2.2.2.2.2.2.1
                        have g15 := hI.2.2.2.2.2.2.2.2.2.2.2.2.2.2.2.2.2.1
                        have g16 := hI.2.2.2.2.2.2.2.2.2.2.2.2.2.2.2.2.2.2.1
                        have g17 := hI.2.2.2.2.2.2.2.2.2.2.2.2.2.2.2.2.2.2.2.1
                        have g18 := hI.2.2.2.2.2.2.2.2.2.2.2.2.2.2.2.2.2.2.2.2.1
                        have g19 := hI.2.2.2.2.2.2.2.2.2.2.2.2.2.2.2.2.2.2.2.2.2.1
                        have g20 := hI.2.2.2.2.2.2.2.2.2.2.2.2.2.2.2.2.2.2.2.2.2.2.1
                        have g21 := hI.2.2.2.2.2.2.2.2.2.2.2.2.2.2.2.2.2.2.2.2.2.2.2.1
                        have g22 := hI.2.2.2.2.2.2.2.2.2.2.2.2.2.2.2.2.2.2.2.2.2.2.2.2.1
                        have g23 := hI.2.2.2.2.2.2.2.2.2.2.2.2.2.2.2.2.2.2.2.2.2.2.2.2.2.1
                        have g24 := hI.2.2.2.2.2.2.2.2.2.2.2.2.2.2.2.2.2.2.2.2.2.2.2.2.2.2.1
                        have g25 := hI.2.2.2.2.2.2.2.2.2.2.2.2.2.2.2.2.2.2.2.2.2.2.2.2.2.2.2.1
                        have g26 := hI.2.2.2.2.2.2.2.2.2.2.2.2.2.2.2.2.2.2.2.2.2.2.2.2.2.2.2.2.1
                        have g27 := hI.2.2.2.2.2.2.2.2.2.2.2.2.2.2.2.2.2.2.2.2.2.2.2.2.2.2.2.2.2.1
                        have g28 := hI.2.2.2.2.2.2.2.2.2.2.2.2.2.2.2.2.2.2.2.2.2.2.2.2.2.2.2.2.2.2
                        clear hI
                        simp [Region.binds] at hd
                        dsimp only at hK ⊢
                        have e2 := g2 (by simp [hd])
                        subst e2
                        have e27 := g27 (by simp [hd])
                        subst e27
                        go_simp
                        exact hK _ _ ⟨_, _, _, _, _, _, _, _, _, _, _, _, _, _, _, _, _, _, _, _, _, _, _, _, _, _, _, _, _, rfl, hb, g0, g1, g2, g3, g4, g5, g6, g7, g8, g9, g10, g11, g12, g13, g14, g15, g16, g17, g18, g19, g20, g21, g22, g23, g24, g25, g26, g27, fun _ => rfl⟩
                    intro a w7 hI
                    refine hI.elim fun u80 hI => hI.elim fun u81 hI => hI.elim fun u82 hI => hI.elim fun u83 hI => hI.elim fun u84 hI => hI.elim fun u85 hI => hI.elim fun u86 hI => hI.elim fun u87 hI => hI.elim fun u88 hI => hI.elim fun u89 hI => hI.elim fun u90 hI => hI.elim fun u91 hI => hI.elim fun u92 hI => hI.elim fun u93 hI => hI.elim fun u94 hI => hI.elim fun u95 hI => hI.elim fun u96 hI => hI.elim fun u97 hI => hI.elim fun u98 hI => hI.elim fun u99 hI => hI.elim fun u100 hI => hI.elim fun u101 hI => hI.elim fun u102 hI => hI.elim fun u103 hI => hI.elim fun u104 hI => hI.elim fun u105 hI => hI.elim fun u106 hI => hI.elim fun u107 hI => hI.elim fun u108 hI => ?_
                    have ha := hI.1
                    subst ha
                    have hb := hI.2.1
                    have g0 := hI.2.2.1
                    have g1 := hI.2.2.2.1
                    have g2 := hI.2.2.2.2.1
                    have g3 := hI.2.2.2.2.2.1
                    have g4 := hI.2.2.2.2.2.2.1
                    have g5 := hI.2.2.2.2.2.2.2.1
                    have g6 := hI.2.2.2.2.2.2.2.2.1
                    have g7 := hI.2.2.2.2.2.2.2.2.2.1
                    have g8 := hI.2.2.2.2.2.2.2.2.2.2.1
                    have g9 := hI.2.2.2.2.2.2.2.2.2.2.2.1
                    have g10 := hI.2.2.2.2.2.2.2.2.2.2.2.2.1
                    have g11 := hI.2.2.2.2.2.2.2.2.2.2.2.2.2.1
                    have g12 := hI.2.2.2.2.2.2.2.2.2.2.2.2.2.2.1
                    have g13 := hI.2.2.2.2.2.2.2.2.2.2.2.2.2.2.2.1
                    have g14 := hI.2.2.2.2.2.2.2.2.2.2.2.2.2.2.2.2.1
                    have g15 := hI.2.2.2.2.2.2.2.2.2.2.2.2.2.2.2.2.2.1
                    have g16 := hI.2.2.2.2.2.2.2.2.2.2.2.2.2.2.2.2.2.2.1
                    have g17 := hI.2.2.2.2.2.2.2.2.2.2.2.2.2.2.2.2.2.2.2.1
                    have g18 := hI.2.2.2.2.2.2.2.2.2.2.2.2.2.2.2.2.2.2.2.2.1
                    have g19 := hI.2.2.2.2.2.2.2.2.2.2.2.2.2.2.2.2.2.2.2.2.2.1
                    have g20 := hI.2.2.2.2.2.2.2.2.2.2.2.2.2.2.2.2.2.2.2.2.2.2.1
                    have g21 := hI.2.2.2.2.2.2.2.2.2.2.2.2.2.2.2.2.2.2.2.2.2.2.2.1
                    have g22 := hI.2.2.2.2.2.2.2.2.2.2.2.2.2.2.2.2.2.2.2.2.2.2.2.2.1
                    have g23 := hI.2.2.2.2.2.2.2.2.2.2.2.2.2.2.2.2.2.2.2.2.2.2.2.2.2.1
                    have g24 := hI.2.2.2.2.2.2.2.2.2.2.2.2.2.2.2.2.2.2.2.2.2.2.2.2.2.2.1
                    have g25 := hI.2.2.2.2.2.2.2.2.2.2.2.2.2.2.2.2.2.2.2.2.2.2.2.2.2.2.2.1
                    have g26 := hI.2.2.2.2.2.2.2.2.2.2.2.2.2.2.2.2.2.2.2.2.2.2.2.2.2.2.2.2.1
                    have g27 := hI.2.2.2.2.2.2.2.2.2.2.2.2.2.2.2.2.2.2.2.2.2.2.2.2.2.2.2.2.2.1
                    have g28 := hI.2.2.2.2.2.2.2.2.2.2.2.2.2.2.2.2.2.2.2.2.2.2.2.2.2.2.2.2.2.2
                    clear hI
                    have e28 := g28 rfl
                    subst e28
                    have HX7 := Lib.hid hb
                    clear g0 g1 g2 g3 g4 g5 g6 g7 g8 g9 g10 g11 g12 g13 g14 g15 g16 g17 g18 g19 g20 g21 g22 g23 g24 g25 g26 g27 g28 hb
                    go_wp2
                    go_meet
                    exact ⟨by rw [HRB.out], HX7.out⟩
                case rest =>
                  obtain ⟨rfl, hbc2⟩ := hcut
                  obtain ⟨bt, hbt⟩ : ∃ b, rawB t S (ex, ey) = b := ⟨_, rfl⟩
                  rw [hbt] at HN ⊢
                  have J1 := Lib.hid (K16.out.below hbc2 K16.out.lt)
                  have J2 := Lib.hid (K26.out.below hbc2 K26.out.lt)
                  have JX := Lib.hid (M1.out.below hbc2 M1.out.lt)
                  have JY := Lib.hid (M2.out.below hbc2 M2.out.lt)
                  have JB := Lib.hid (bst KB6.out hbc2)
                  clear hbt hbc2
                  cases bt with
                  | false =>
                    have HN := Lib.hid (show minOf (rawLt t) (candQ t l rows m ++ rowQ t l rows m a (n + 1)) = S from HN.out)
                    go_wp2
                    go_roundw
                    case rel => exact ⟨n + 1, S, HNT.out, by go_num, rfl, HN, J1.out, J2.out, JB.out⟩
                    case measure => have := HNT.out; simp [intOf]; omega
                  | true =>
                    have HN := Lib.hid (show minOf (rawLt t) (candQ t l rows m ++ rowQ t l rows m a (n + 1)) = some (ex, ey) from HN.out)
                    go_upto_region 14 with (fail)
                    refine wp_region_inv (by kernel_rfl) (by kernel_rfl) (fun L a w' => ∃ u109 u110 u8 : Value, a = ⟨#[.int .i64 t, .slice (some ad) l.length c, .int .i64 rows, undef, undef, undef, .int .i64 0, .int .i64 0, u8, .pointer (some ⟨N1, 0, none⟩), .pointer (some ⟨N1 + 1, 0, none⟩), .int .i64 m, .int .i64 n, .int .i64 x, .int .i64 y, .pointer (some ⟨P1, 0, none⟩), .pointer (some ⟨P2, 0, none⟩), .int .i64 t, .slice (some ad) l.length c, .bool true, .bool false, .slice (some ad) l.length c, .int .i64 l.length, .int .i64 m, .bool true, .int .i64 m, .int .i64 m, .int .i64 n, .bool true, .int .i64 n, u30, u31, u32, u33, u34, u35, u36, u37, u38, u39, u40, u41, u42, u43, u44, u45, u46, u47, u48, u49, u50, u51, u52, u53, u54, u55, u56, u57, u58, u59, u60, u61, u62, .bool false, .tuple #[.int .i64 x, .int .i64 y], .int .i64 t, .slice (some ad) l.length c, .int .i64 m, .int .i64 n, .tuple #[.int .i64 x, .int .i64 y], .int .i64 x, .int .i64 y, .slice (some ad) l.length c, .int .i64 x, .pointer (some px), .agg #[.int .i64 ex.id, .int .i64 ex.rows, .int .i64 ex.live, .bool ex.lo.null, .int .i64 ex.lo.n, .string ex.lo.s, .int .i64 ex.lo.seq, .bool ex.hi.null, .int .i64 ex.hi.n, .string ex.hi.s, .int .i64 ex.hi.seq, .int .i64 ex.del], .slice (some ad) l.length c, .int .i64 y, .pointer (some py), .agg #[.int .i64 ey.id, .int .i64 ey.rows, .int .i64 ey.live, .bool ey.lo.null, .int .i64 ey.lo.n, .string ey.lo.s, .int .i64 ey.lo.seq, .bool ey.hi.null, .int .i64 ey.hi.n, .string ey.hi.s, .int .i64 ey.hi.seq, .int .i64 ey.del], u80, u81, u82, u83, u84, u85, u86, u87, u88, u89, u90, u91, u92, u93, u94, u95, u96, u97, u98, u99, u100, u101, u102, u103, u104, u105, u106, u107, .bool true, u109, u110, u111, u112, undef, undef, undef, undef, undef], []⟩ ∧
                        Below w.heap.size w w' ∧ Got (L 0) u109 (.agg #[.int .i64 ex.id, .int .i64 ex.rows, .int .i64 ex.live, .bool ex.lo.null, .int .i64 ex.lo.n, .string ex.lo.s, .int .i64 ex.lo.seq, .bool ex.hi.null, .int .i64 ex.hi.n, .string ex.hi.s, .int .i64 ex.hi.seq, .int .i64 ex.del]) ∧ Got (L 1) u110 (.agg #[.int .i64 ey.id, .int .i64 ey.rows, .int .i64 ey.live, .bool ey.lo.null, .int .i64 ey.lo.n, .string ey.lo.s, .int .i64 ey.lo.seq, .bool ey.hi.null, .int .i64 ey.hi.n, .string ey.hi.s, .int .i64 ey.hi.seq, .int .i64 ey.del]) ∧ Blk w' P1 41 #[.int .i64 ex.id, .int .i64 ex.rows, .int .i64 ex.live, .bool ex.lo.null, .int .i64 ex.lo.n, .string ex.lo.s, .int .i64 ex.lo.seq, .bool ex.hi.null, .int .i64 ex.hi.n, .string ex.hi.s, .int .i64 ex.hi.seq, .int .i64 ex.del] ∧ Blk w' P2 41 #[.int .i64 ey.id, .int .i64 ey.rows, .int .i64 ey.live, .bool ey.lo.null, .int .i64 ey.lo.n, .string ey.lo.s, .int .i64 ey.lo.seq, .bool ey.hi.null, .int .i64 ey.hi.n, .string ey.hi.s, .int .i64 ey.hi.seq, .int .i64 ey.del] ∧ (L 2 = false → Blk w' N1 41 #[.int .i64 (pairE S).1.id, .int .i64 (pairE S).1.rows, .int .i64 (pairE S).1.live, .bool (pairE S).1.lo.null, .int .i64 (pairE S).1.lo.n, .string (pairE S).1.lo.s, .int .i64 (pairE S).1.lo.seq, .bool (pairE S).1.hi.null, .int .i64 (pairE S).1.hi.n, .string (pairE S).1.hi.s, .int .i64 (pairE S).1.hi.seq, .int .i64 (pairE S).1.del]) ∧ (L 2 = true → Blk w' N1 41 #[.int .i64 ex.id, .int .i64 ex.rows, .int .i64 ex.live, .bool ex.lo.null, .int .i64 ex.lo.n, .string ex.lo.s, .int .i64 ex.lo.seq, .bool ex.hi.null, .int .i64 ex.hi.n, .string ex.hi.s, .int .i64 ex.hi.seq, .int .i64 ex.del]) ∧ (L 3 = false → Blk w' (N1 + 1) 41 #[.int .i64 (pairE S).2.id, .int .i64 (pairE S).2.rows, .int .i64 (pairE S).2.live, .bool (pairE S).2.lo.null, .int .i64 (pairE S).2.lo.n, .string (pairE S).2.lo.s, .int .i64 (pairE S).2.lo.seq, .bool (pairE S).2.hi.null, .int .i64 (pairE S).2.hi.n, .string (pairE S).2.hi.s, .int .i64 (pairE S).2.hi.seq, .int .i64 (pairE S).2.del]) ∧ (L 3 = true → Blk w' (N1 + 1) 41 #[.int .i64 ey.id, .int .i64 ey.rows, .int .i64 ey.live, .bool ey.lo.null, .int .i64 ey.lo.n, .string ey.lo.s, .int .i64 ey.lo.seq, .bool ey.hi.null, .int .i64 ey.hi.n, .string ey.hi.s, .int .i64 ey.hi.seq, .int .i64 ey.del]) ∧ Got (L 4) u8 (.bool true))
                      ?_ ?_ ?_
                    · exact ⟨_, _, _, rfl, JB.out.drew, nofun, nofun, JX.out.drewN 1, JY.out.drewN 1, fun _ => J1.out.drewN 1, nofun, fun _ => J2.out.drewN 1, nofun, nofun⟩
                    · refine ⟨?_, ?_, ?_, ?_, ?_, trivial⟩
                      · intro L a w' hI hl hd K hK
                        refine hI.elim fun u109 hI => hI.elim fun u110 hI => hI.elim fun u8 hI => ?_
                        have ha := hI.1
                        subst ha
                        have hb := hI.2.1
                        have g0 := hI.2.2.1
                        have g1 := hI.2.2.2.1
                        have g2 := hI.2.2.2.2.1
                        have g3 := hI.2.2.2.2.2.1
                        have g4 := hI.2.2.2.2.2.2.1
                        have g5 := hI.2.2.2.2.2.2.2.1
                        have g6 := hI.2.2.2.2.2.2.2.2.1
                        have g7 := hI.2.2.2.2.2.2.2.2.2.1
                        have g8 := hI.2.2.2.2.2.2.2.2.2.2
                        clear hI
                        dsimp only at hK ⊢
                        have bb := g2
                        have d0 := bb.cell 0
                        have d1 := bb.cell 1
                        have d2 := bb.cell 2
                        have d3 := bb.cell 3
                        have d4 := bb.cell 4
                        have d5 := bb.cell 5
                        have d6 := bb.cell 6
                        have d7 := bb.cell 7
                        have d8 := bb.cell 8
                        have d9 := bb.cell 9
                        have d10 := bb.cell 10
                        have d11 := bb.cell 11
                        simp only [List.getElem?_toArray, List.getElem?_cons_zero, List.getElem?_cons_succ] at d0 d1 d2 d3 d4 d5 d6 d7 d8 d9 d10 d11
                        clear bb
                        go_simp
                        exact hK _ _ ⟨_, _, _, rfl, hb, fun _ => rfl, g1, g2, g3, g4, g5, g6, g7, g8⟩
                      · intro L a w' hI hl hd K hK
                        refine hI.elim fun u109 hI => hI.elim fun u110 hI => hI.elim fun u8 hI => ?_
                        have ha := hI.1
                        subst ha
                        have hb := hI.2.1
                        have g0 := hI.2.2.1
                        have g1 := hI.2.2.2.1
                        have g2 := hI.2.2.2.2.1
                        have g3 := hI.2.2.2.2.2.1
                        have g4 := hI.2.2.2.2.2.2.1
                        have g5 := hI.2.2.2.2.2.2.2.1
                        have g6 := hI.2.2.2.2.2.2.2.2.1
                        have g7 := hI.2.2.2.2.2.2.2.2.2.1
                        have g8 := hI.2.2.2.2.2.2.2.2.2.2
                        clear hI
                        dsimp only at hK ⊢
                        have bb := g3
                        have d0 := bb.cell 0
                        have d1 := bb.cell 1
                        have d2 := bb.cell 2
                        have d3 := bb.cell 3
                        have d4 := bb.cell 4
                        have d5 := bb.cell 5
                        have d6 := bb.cell 6
                        have d7 := bb.cell 7
                        have d8 := bb.cell 8
                        have d9 := bb.cell 9
                        have d10 := bb.cell 10
                        have d11 := bb.cell 11
                        simp only [List.getElem?_toArray, List.getElem?_cons_zero, List.getElem?_cons_succ] at d0 d1 d2 d3 d4 d5 d6 d7 d8 d9 d10 d11
                        clear bb
                        go_simp
                        exact hK _ _ ⟨_, _, _, rfl, hb, g0, fun _ => rfl, g2, g3, g4, g5, g6, g7, g8⟩
                      · intro L a w' hI hl hd K hK
                        refine hI.elim fun u109 hI => hI.elim fun u110 hI => hI.elim fun u8 hI => ?_
                        have ha := hI.1
                        subst ha
                        have hb := hI.2.1
                        have g0 := hI.2.2.1
                        have g1 := hI.2.2.2.1
                        have g2 := hI.2.2.2.2.1
                        have g3 := hI.2.2.2.2.2.1
                        have g4 := hI.2.2.2.2.2.2.1
                        have g5 := hI.2.2.2.2.2.2.2.1
                        have g6 := hI.2.2.2.2.2.2.2.2.1
                        have g7 := hI.2.2.2.2.2.2.2.2.2.1
                        have g8 := hI.2.2.2.2.2.2.2.2.2.2
                        clear hI
                        simp [Region.binds] at hd
                        dsimp only at hK ⊢
                        have e0 := g0 (by simp [hd])
                        subst e0
                        have bb := g4 hl
                        have e0 := bb.frozen 0
                        have e1 := bb.frozen 1
                        have e2 := bb.frozen 2
                        have e3 := bb.frozen 3
                        have e4 := bb.frozen 4
                        have e5 := bb.frozen 5
                        have e6 := bb.frozen 6
                        have e7 := bb.frozen 7
                        have e8 := bb.frozen 8
                        have e9 := bb.frozen 9
                        have e10 := bb.frozen 10
                        have e11 := bb.frozen 11
                        have h0 := bb.cell 0
                        have h1 := bb.cell 1
                        have h2 := bb.cell 2
                        have h3 := bb.cell 3
                        have h4 := bb.cell 4
                        have h5 := bb.cell 5
                        have h6 := bb.cell 6
                        have h7 := bb.cell 7
                        have h8 := bb.cell 8
                        have h9 := bb.cell 9
                        have h10 := bb.cell 10
                        have h11 := bb.cell 11
                        simp only [List.getElem?_toArray, List.getElem?_cons_zero, List.getElem?_cons_succ] at h0 h1 h2 h3 h4 h5 h6 h7 h8 h9 h10 h11
                        have hlN := bb.lt
                        go_simp
                        have kg := grown12 w' N1 (.int .i64 ex.id) (.int .i64 ex.rows) (.int .i64 ex.live) (.bool ex.lo.null) (.int .i64 ex.lo.n) (.string ex.lo.s) (.int .i64 ex.lo.seq) (.bool ex.hi.null) (.int .i64 ex.hi.n) (.string ex.hi.s) (.int .i64 ex.hi.seq) (.int .i64 ex.del)
                        exact hK _ _ ⟨_, _, _, rfl, below_row hb kg hN1w hb.size, g0, g1, g2.row kg (by omega), g3.row kg (by omega), fun h => absurd h (by simp [upd]), fun _ => blk12 (.int .i64 ex.id) (.int .i64 ex.rows) (.int .i64 ex.live) (.bool ex.lo.null) (.int .i64 ex.lo.n) (.string ex.lo.s) (.int .i64 ex.lo.seq) (.bool ex.hi.null) (.int .i64 ex.hi.n) (.string ex.hi.s) (.int .i64 ex.hi.seq) (.int .i64 ex.del) bb, fun h => (g6 h).row kg (by omega), fun h => (g7 h).row kg (by omega), g8⟩
                      · intro L a w' hI hl hd K hK
                        refine hI.elim fun u109 hI => hI.elim fun u110 hI => hI.elim fun u8 hI => ?_
                        have ha := hI.1
                        subst ha
                        have hb := hI.2.1
                        have g0 := hI.2.2.1
                        have g1 := hI.2.2.2.1
                        have g2 := hI.2.2.2.2.1
                        have g3 := hI.2.2.2.2.2.1
                        have g4 := hI.2.2.2.2.2.2.1
                        have g5 := hI.2.2.2.2.2.2.2.1
                        have g6 := hI.2.2.2.2.2.2.2.2.1
                        have g7 := hI.2.2.2.2.2.2.2.2.2.1
                        have g8 := hI.2.2.2.2.2.2.2.2.2.2
                        clear hI
                        simp [Region.binds] at hd
                        dsimp only at hK ⊢
                        have e1 := g1 (by simp [hd])
                        subst e1
                        have bb := g6 hl
                        have e0 := bb.frozen 0
                        have e1 := bb.frozen 1
                        have e2 := bb.frozen 2
                        have e3 := bb.frozen 3
                        have e4 := bb.frozen 4
                        have e5 := bb.frozen 5
                        have e6 := bb.frozen 6
                        have e7 := bb.frozen 7
                        have e8 := bb.frozen 8
                        have e9 := bb.frozen 9
                        have e10 := bb.frozen 10
                        have e11 := bb.frozen 11
                        have h0 := bb.cell 0
                        have h1 := bb.cell 1
                        have h2 := bb.cell 2
                        have h3 := bb.cell 3
                        have h4 := bb.cell 4
                        have h5 := bb.cell 5
                        have h6 := bb.cell 6
                        have h7 := bb.cell 7
                        have h8 := bb.cell 8
                        have h9 := bb.cell 9
                        have h10 := bb.cell 10
                        have h11 := bb.cell 11
                        simp only [List.getElem?_toArray, List.getElem?_cons_zero, List.getElem?_cons_succ] at h0 h1 h2 h3 h4 h5 h6 h7 h8 h9 h10 h11
                        have hlN := bb.lt
                        go_simp
                        have kg := grown12 w' (N1 + 1) (.int .i64 ey.id) (.int .i64 ey.rows) (.int .i64 ey.live) (.bool ey.lo.null) (.int .i64 ey.lo.n) (.string ey.lo.s) (.int .i64 ey.lo.seq) (.bool ey.hi.null) (.int .i64 ey.hi.n) (.string ey.hi.s) (.int .i64 ey.hi.seq) (.int .i64 ey.del)
                        exact hK _ _ ⟨_, _, _, rfl, below_row hb kg (by omega) hb.size, g0, g1, g2.row kg (by omega), g3.row kg (by omega), fun h => (g4 h).row kg (by omega), fun h => (g5 h).row kg (by omega), fun h => absurd h (by simp [upd]), fun _ => blk12 (.int .i64 ey.id) (.int .i64 ey.rows) (.int .i64 ey.live) (.bool ey.lo.null) (.int .i64 ey.lo.n) (.string ey.lo.s) (.int .i64 ey.lo.seq) (.bool ey.hi.null) (.int .i64 ey.hi.n) (.string ey.hi.s) (.int .i64 ey.hi.seq) (.int .i64 ey.del) bb, g8⟩
                      · intro L a w' hI hl hd K hK
                        refine hI.elim fun u109 hI => hI.elim fun u110 hI => hI.elim fun u8 hI => ?_
                        have ha := hI.1
                        subst ha
                        have hb := hI.2.1
                        have g0 := hI.2.2.1
                        have g1 := hI.2.2.2.1
                        have g2 := hI.2.2.2.2.1
                        have g3 := hI.2.2.2.2.2.1
                        have g4 := hI.2.2.2.2.2.2.1
                        have g5 := hI.2.2.2.2.2.2.2.1
                        have g6 := hI.2.2.2.2.2.2.2.2.1
                        have g7 := hI.2.2.2.2.2.2.2.2.2.1
                        have g8 := hI.2.2.2.2.2.2.2.2.2.2
                        clear hI
                        dsimp only at hK ⊢
                        go_simp
                        exact hK _ _ ⟨_, _, _, rfl, hb, g0, g1, g2, g3, g4, g5, g6, g7, fun _ => rfl⟩
                    intro a w9 hI
                    refine hI.elim fun u109 hI => hI.elim fun u110 hI => hI.elim fun u8 hI => ?_
                    have ha := hI.1
                    subst ha
                    have hb := hI.2.1
                    have g0 := hI.2.2.1
                    have g1 := hI.2.2.2.1
                    have g2 := hI.2.2.2.2.1
                    have g3 := hI.2.2.2.2.2.1
                    have g4 := hI.2.2.2.2.2.2.1
                    have g5 := hI.2.2.2.2.2.2.2.1
                    have g6 := hI.2.2.2.2.2.2.2.2.1
                    have g7 := hI.2.2.2.2.2.2.2.2.2.1
                    have g8 := hI.2.2.2.2.2.2.2.2.2.2
                    clear hI
                    have e8 := g8 rfl
                    subst e8
                    have HB9 := Lib.hid hb
                    have A9 := Lib.hid (g5 rfl)
                    have D9 := Lib.hid (g7 rfl)
                    clear g0 g1 g2 g3 g4 g5 g6 g7 g8 hb
                    go_wp2
                    go_roundw
                    case rel => exact ⟨n + 1, some (ex, ey), HNT.out, by go_num, rfl, HN, A9.out, D9.out, HB9.out⟩
                    case measure => have := HNT.out; simp [intOf]; omega
          · have HN := Lib.hid (show minOf (rawLt t) (candQ t l rows (m + 1)) = S by rw [candQ_next HAL.out]; have h : n = m := by omega
                                                                                     subst h; exact hS.out)
            have J1 := Lib.hid b1
            have J2 := Lib.hid b2
            have JB := Lib.hid hbel
            clear b1 b2 hbel
            go_wp2
            go_roundw
            case rel => exact ⟨m + 1, S, HMT.out, by go_num, rfl, HN, J1.out, J2.out, JB.out⟩
            case measure => have := HMT.out; simp [intOf]; omega
      · have HG := Lib.hid (show pairP t l rows = S by rw [HF.out, show l.length = m by omega]; exact hS.out)
        have J1 := Lib.hid b1
        have J2 := Lib.hid b2
        have JB := Lib.hid hbel
        clear b1 b2 hbel
        have bb := J1.out
        have a0 := bb.cell 0
        have a1 := bb.cell 1
        have a2 := bb.cell 2
        have a3 := bb.cell 3
        have a4 := bb.cell 4
        have a5 := bb.cell 5
        have a6 := bb.cell 6
        have a7 := bb.cell 7
        have a8 := bb.cell 8
        have a9 := bb.cell 9
        have a10 := bb.cell 10
        have a11 := bb.cell 11
        simp only [List.getElem?_toArray, List.getElem?_cons_zero, List.getElem?_cons_succ] at a0 a1 a2 a3 a4 a5 a6 a7 a8 a9 a10 a11
        clear bb
        have bb := J2.out
        have b0 := bb.cell 0
        have b1 := bb.cell 1
        have b2 := bb.cell 2
        have b3 := bb.cell 3
        have b4 := bb.cell 4
        have b5 := bb.cell 5
        have b6 := bb.cell 6
        have b7 := bb.cell 7
        have b8 := bb.cell 8
        have b9 := bb.cell 9
        have b10 := bb.cell 10
        have b11 := bb.cell 11
        simp only [List.getElem?_toArray, List.getElem?_cons_zero, List.getElem?_cons_succ] at b0 b1 b2 b3 b4 b5 b6 b7 b8 b9 b10 b11
        clear bb
        go_upto_region 17 with (fail)
        go_quiet (fail)
        go_wp2
        exact bodyPost_ret (v := .tuple #[.int .i64 (pairE S).1.id, .int .i64 (pairE S).2.id, .bool S.isSome]) (by simp [results, Try.results20, go_sem]) rfl ⟨by rw [HG.out], by first | exact JB.out | exact below_drewN JB.out _⟩
end Go.Proofs.Ytcjekbncllccbaa
