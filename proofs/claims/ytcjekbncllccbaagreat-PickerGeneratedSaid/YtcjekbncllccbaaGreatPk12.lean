/-
  The contracts of ref27.Pick and picker.Adjacent.
-/
import Derived.Test.YtcjekbncllccbaaGreatRPeak
import Derived.Test.YtcjekbncllccbaaGreatPk2
import Derived.Test.YtcjekbncllccbaaGreatEntOps
namespace Go.Proofs.YtcjekbncllccbaaGreat
open Go.RowKit Go.Sort

set_option maxRecDepth 100000 in
set_option maxHeartbeats 8000000 in
theorem rpick_any (v : Value) (l : List Ent) (d y rows : Int) (w : World) (hs : Sl w 12 v l.length (ents l)) (h : Loose l) (hl : l.length ≤ 1000000) :
    Calls Tryz.prog 26 #[.int .i64 1, v, .int .i64 d, .int .i64 y, .int .i64 rows] w (RetIds w (pickW 1 l d y rows)) := by
  obtain ⟨A, c, rfl, hc1, hc2⟩ := hs.form
  have HP := Lib.hid (rpeak_any 1 (.slice A l.length c) l d y w hs h.small hl)
  have HQ := Lib.hid (fun X (hX : Below w.heap.size w X) => rpair_any 1 (.slice A l.length c) l rows X (hs.below hX) h.small hl h.live (fun hc x hx y hy hb hm => adjR_E (h.asc hc) h.low hc hx hy hb hm))
  have HD := Lib.hid (show pickW 1 l d y rows = if peakW 1 l d y ≠ [] then peakW 1 l d y else match pairV 1 l (candR 1 l rows l.length) with | none => [] | some s => insI [s.1.id] s.2.id from rfl)
  obtain ⟨K, hK⟩ : ∃ K, pickW 1 l d y rows = K := ⟨_, rfl⟩
  obtain ⟨L, hL⟩ : ∃ L, peakW 1 l d y = L := ⟨_, rfl⟩
  obtain ⟨S, hS⟩ : ∃ S, pairV 1 l (candR 1 l rows l.length) = S := ⟨_, rfl⟩
  rw [hK, hL, hS] at HD
  rw [hL] at HP
  rw [hS] at HQ
  rw [hK]
  clear hK hL hS hs h
  go_enter Tryz.func26, Tryz.ntmps26
  go_wp2_with fail
  refine HP.out.mono ?_
  rintro _ w2 ⟨v2, rfl, hb2, ho2, hn2⟩
  have HB2 := Lib.hid hb2
  clear hb2
  by_cases h0 : L = []
  · subst h0
    have e2 := hn2 rfl
    subst e2
    clear ho2 hn2 HP
    go_wp2_with fail
    refine (HQ.out _ HB2.out).mono ?_
    rintro _ w3 ⟨rfl, hb3⟩
    have HB3 := Lib.hid (bst HB2.out hb3)
    clear hb3
    cases S with
    | none =>
      have HF := Lib.hid (show K = [] by rw [HD.out]; rfl)
      simp only [Option.isSome_none]
      go_wp2
      go_ret
      exact ⟨_, rfl, HB3.out, by rw [HF.out]; exact World.ownsRow_nil _ _ _ _, fun _ => rfl⟩
    | some s =>
      obtain ⟨a, b⟩ := s
      have HF := Lib.hid (show K = insI [a.id] b.id by rw [HD.out]; rfl)
      simp only [Option.isSome_some]
      simp only [show (pairE (some (a, b))).1 = a from rfl, show (pairE (some (a, b))).2 = b from rfl]
      have HI := Lib.hid (rins_any _ w.heap.size [a.id] b.id (w3.alloc (.cells #[.int .i64 a.id] 3)) (own_blk (n := 1) (size := 1) (Blk.new _ _ _) HB3.out.size rfl (by decide)) (by simp) (Nat.le_trans HB3.out.size (by simp)))
      go_wp2_with fail
      refine HI.out.mono ?_
      rintro _ w4 ⟨v4, rfl, ho4, hb4⟩
      have HZ := Lib.hid (show RetIds w K (.returned v4) w4 from ⟨_, rfl, bst (HB3.out.alloc HB3.out.size _) hb4, by rw [HF.out]; exact ho4, fun h => absurd (congrArg List.length h) (by rw [HF.out, insI_len]; simp)⟩)
      clear ho4 hb4
      go_wp2
      go_ret
      exact HZ.out
  · have HF := Lib.hid (show K = L by rw [HD.out, if_pos h0])
    rcases ho2.2 with ⟨rfl, hn⟩ | ⟨g, cap, cur, rfl, hg⟩
    · exact absurd (List.eq_nil_of_length_eq_zero hn) h0
    · have HO := Lib.hid ho2
      have HL := Lib.hid h0
      clear ho2 hn2 hg h0
      go_wp2
      go_ret
      exact ⟨_, rfl, HB2.out, by rw [HF.out]; exact HO.out, fun h => absurd (HF.out ▸ h) HL.out⟩
set_option maxHeartbeats 1000000 in
theorem pidxLit_any (e : Ent) (i : Int) (q : Addr) (w : World) (hq : w.cell? q = some (.int .i64 i)) {b : Bool} (hb : decide (e.id = i) = b) :
    Calls Tryz.prog 29 #[.agg #[.int .i64 e.id, .int .i64 e.rows, .int .i64 e.live, .bool e.lo.null, .int .i64 e.lo.n, .string e.lo.s, .int .i64 e.lo.seq, .bool e.hi.null, .int .i64 e.hi.n, .string e.hi.s, .int .i64 e.hi.seq, .int .i64 e.del], .pointer (some q)] w (RetBe w b) := by
  have hq2 := cell_alloc hq (.cells #[.int .i64 e.id, .int .i64 e.rows, .int .i64 e.live, .bool e.lo.null, .int .i64 e.lo.n, .string e.lo.s, .int .i64 e.lo.seq, .bool e.hi.null, .int .i64 e.hi.n, .string e.hi.s, .int .i64 e.hi.seq, .int .i64 e.del] 32)
  have HB := Lib.hid (show (e.id == i) = b by rw [← hb]; by_cases h : e.id = i <;> simp [h])
  clear hq hb
  go_enter Tryz.func29, Tryz.ntmps29
  go_wp2
  go_ret
  exact RetBe.mk_ HB.out.symm (abel _ _)
set_option maxRecDepth 100000 in
set_option maxHeartbeats 1000000 in
theorem pidxFunc_any (v : Value) (l : List Ent) (x : Int) (q : Addr) (w : World) (hs : Sl w 12 v l.length (ents l)) (hl : l.length ≤ 9223372036854775807) (hq : w.cell? q = some (.int .i64 x)) :
    Calls Tryz.prog 28 #[v, .func (.func 29) #[] #[.pointer (some q)]] w (RetIB w (idxV l x)) := by
  obtain ⟨A, c, rfl, hc1, hc2⟩ := hs.form
  have HQ := Lib.hid (World.block_lt_of_cell? w q hq)
  go_enter Tryz.func28, Tryz.ntmps28
  go_wp2
  go_loopw [8] (fun i wr => ∃ k : Nat, k ≤ l.length ∧ i = .int .i64 k ∧ Below w.heap.size w wr ∧ Hid (∀ (j : Nat) (d : Ent), l[j]? = some d → j < k → d.id ≠ x)) (fun i _ => l.length - (intOf i).toNat)
  case atStart => exact ⟨0, by omega, rfl, Below.refl _ _, Lib.hid fun j d _ hj => absurd hj (Nat.not_lt_zero _)⟩
  case round =>
    obtain ⟨k, hk, rfl, hbel, hno⟩ := hrel
    by_cases hlt : k < l.length
    · obtain ⟨ad, e, p, rfl, he, hp, hE⟩ := (hs.below hbel).ent_load rfl hlt
      obtain ⟨hplt, c0, c1, c2, c3, c4, c5, c6, c7, c8, c9, c10, c11⟩ := hE
      have hqw := (hbel.cell HQ.out).trans hq
      have HE := Lib.hid he
      clear he
      by_cases hn : e.id = x
      · have HC := Lib.hid (pidxLit_any e x q wr hqw (decide_eq_true hn))
        have HF := Lib.hid (idxV_hit HE.out hn hno.out)
        clear hn
        go_wp2_with fail
        refine HC.out.mono ?_
        rintro _ w2 ⟨rfl, hb2⟩
        go_wp2
        go_ret
        exact RetIB.mk_ HF.out (hbel.trans (hb2.mono hbel.size))
      · have HC := Lib.hid (pidxLit_any e x q wr hqw (decide_eq_false hn))
        have HN := Lib.hid (show ∀ (j : Nat) (d : Ent), l[j]? = some d → j < k + 1 → d.id ≠ x from fun j d hd hj => by
          by_cases ej : j = k
          · subst ej; rw [HE.out] at hd; injection hd with hd; rw [← hd]; exact hn
          · exact hno.out j d hd (by omega))
        clear hn
        go_wp2_with fail
        refine HC.out.mono ?_
        rintro _ w2 ⟨rfl, hb2⟩
        have HB := Lib.hid (hbel.trans (hb2.mono hbel.size))
        clear hb2 hbel
        go_wp2
        go_roundw
        case rel => exact ⟨k + 1, by omega, by go_num, HB.out, HN⟩
        case measure => simp [intOf]; omega
    · have HF := Lib.hid (idxV_miss (l := l) (i := x) (fun j d hd => hno.out j d hd (by have := (List.getElem?_eq_some_iff.1 hd).1; omega)))
      go_wp2
      go_ret
      exact RetIB.mk_ HF.out hbel
set_option maxRecDepth 100000 in
set_option maxHeartbeats 8000000 in
theorem pfind_any (A : Option Addr) (c : Nat) (l : List Ent) (x : Int) (q : Addr) (w : World) (hs : Sl w 12 (.slice A l.length c) l.length (ents l)) (hl : l.length ≤ 9223372036854775807) (hq : w.cell? q = some (.slice A l.length c)) :
    Calls Tryz.prog 27 #[.int .i64 x, .pointer (some q)] w (RetIB w (idxV l x)) := by
  have hb := abel w (.cells #[.int .i64 x] 3)
  have hq2 := cell_alloc hq (.cells #[.int .i64 x] 3)
  have HC := Lib.hid (pidxFunc_any _ l x ⟨w.heap.size, 0, none⟩ _ (hs.below hb) hl (by simp))
  have HB := Lib.hid hb
  clear hb hs hq
  go_enter Tryz.func27, Tryz.ntmps27
  go_wp2_with fail
  refine HC.out.mono ?_
  rintro _ w2 ⟨rfl, hb2⟩
  go_wp2
  go_ret
  exact RetIB.mk_ rfl (bst HB.out hb2)
set_option maxRecDepth 100000 in
set_option maxHeartbeats 8000000 in
theorem padj_any (t : Int) (v : Value) (l : List Ent) (a b : Int) (w : World) (hs : Sl w 12 v l.length (ents l)) (hw : ∀ e ∈ l, e.small) (hl : l.length ≤ 1000000) :
    Calls Tryz.prog 7 #[.int .i64 t, v, .int .i64 a, .int .i64 b] w (RetBe w (adjP t l a b)) := by
  obtain ⟨A, c, rfl, hc1, hc2⟩ := hs.form
  obtain ⟨W, hW⟩ : ∃ W, W = w.alloc (.cells #[.slice A l.length c] 23) := ⟨_, rfl⟩
  have hb0 : Below w.heap.size w W := by rw [hW]; exact abel _ _
  have BQ := Lib.hid (show Blk W w.heap.size 23 #[.slice A l.length c] by rw [hW]; exact Blk.new _ _ _)
  have HS := Lib.hid (hs.below hb0)
  have HB0 := Lib.hid hb0
  have HC := Lib.hid (pcheck_any t (.slice A l.length c) l W HS.out hw hl)
  have HFD := Lib.hid (fun X (hX : Below W.heap.size W X) x => pfind_any A c l x ⟨w.heap.size, 0, none⟩ X (HS.out.below hX) (by omega) ((BQ.out.below hX BQ.out.lt).cell 0))
  have HAJ := Lib.hid (fun X (hX : Below W.heap.size W X) i k ea eb hi hk h1 h2 => padjacent_any t (.slice A l.length c) l i k ea eb X (HS.out.below hX) hl hi hk h1 h2)
  have HV := Lib.hid (show adjP t l a b = (chkEs t l && match idxE l a, idxE l b with
    | some i, some k => (match l[i]?, l[k]? with | some x, some y => adjI t l i k x y | _, _ => false)
    | _, _ => false) from rfl)
  obtain ⟨R, hR⟩ : ∃ R, adjP t l a b = R := ⟨_, rfl⟩
  rw [hR] at HV ⊢
  clear hs hb0 hw hR
  go_enter Tryz.func7, Tryz.ntmps7
  go_upto_region 1 with (fail)
  rw [← hW]
  clear hW
  have q0 := BQ.out.cell 0
  simp only [List.getElem?_toArray, List.getElem?_cons_zero] at q0
  go_wp2_with fail
  refine HC.out.mono ?_
  cases hck : chkEs t l with
  | false =>
    have HF := Lib.hid (show R = false by rw [HV.out, hck]; rfl)
    clear hck HC
    rintro _ w2 ⟨rfl, hb2⟩
    have HX := Lib.hid (bst HB0.out hb2)
    clear hb2
    go_wp2
    go_ret
    exact RetBe.mk_ HF.out HX.out
  | true =>
    rw [hck, Bool.true_and] at HV
    clear hck HC
    rintro _ w2 ⟨rfl, hb2⟩
    have HX2 := Lib.hid hb2
    have HD2 := Lib.hid (HFD.out w2 hb2 a)
    clear hb2
    go_wp2_with fail
    refine HD2.out.mono ?_
    rintro _ w3 ⟨rfl, hb3⟩
    have HX3 := Lib.hid (bst HX2.out hb3)
    have HD3 := Lib.hid (HFD.out w3 (bst HX2.out hb3) b)
    clear hb3 HD2
    go_wp2_with fail
    refine HD3.out.mono ?_
    rintro _ w4 ⟨rfl, hb4⟩
    have HX4 := Lib.hid (bst HX3.out hb4)
    have BQ4 := Lib.hid (BQ.out.below (bst HX3.out hb4) BQ.out.lt)
    clear hb4 HD3 q0
    have q0 := BQ4.out.cell 0
    simp only [List.getElem?_toArray, List.getElem?_cons_zero] at q0
    cases hi : idxE l a with
    | none =>
      have HF := Lib.hid (show R = false by rw [HV.out, hi])
      rw [idxV_none hi]
      clear hi
      go_wp2
      go_ret
      exact RetBe.mk_ HF.out (bst HB0.out HX4.out)
    | some i =>
      cases hk : idxE l b with
      | none =>
        have HF := Lib.hid (show R = false by rw [HV.out, hi, hk])
        rw [idxV_none hk, idxV_some hi]
        have qi : decide ((0 : Int) ≤ (i : Int)) = true := by simp
        clear hi hk
        go_wp2
        go_ret
        exact RetBe.mk_ HF.out (bst HB0.out HX4.out)
      | some k =>
        obtain ⟨x, hx, _⟩ := idxE_some hi
        obtain ⟨z, hz, _⟩ := idxE_some hk
        have HF := Lib.hid (show R = adjI t l i k x z by rw [HV.out, hi, hk]; simp only [hx, hz])
        have HJ := Lib.hid (HAJ.out w4 HX4.out i k x z (idxE_lt hi) (idxE_lt hk) hx hz)
        rw [idxV_some hk, idxV_some hi]
        have qi : decide ((0 : Int) ≤ (i : Int)) = true := by simp
        have qk : decide ((0 : Int) ≤ (k : Int)) = true := by simp
        clear hi hk hx hz
        go_wp2_with fail
        refine HJ.out.mono ?_
        rintro _ w5 ⟨rfl, hb5⟩
        have HX5 := Lib.hid (bst HB0.out (bst HX4.out hb5))
        clear hb5
        go_wp2
        go_ret
        exact RetBe.mk_ HF.out HX5.out
end Go.Proofs.YtcjekbncllccbaaGreat
