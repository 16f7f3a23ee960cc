/-
  Checkpoint's test of the versions; ref18.has.
-/
import Derived.Test.YtoikgjhekemjdaaJobKit
import Derived.Test.YtoikgjhekemjdaaRcL
import Derived.Test.YtoikgjhekemjdaaRApply
namespace Go.Proofs.Ytoikgjhekemjdaa
open Go.RowKit Go.Sort
set_option maxRecDepth 100000 in
set_option maxHeartbeats 8000000 in
theorem chkLit_any (s : Snp) (u : Value) (w : World) (hs : Sl w 12 u s.l.length (ents s.l)) (hw : ∀ e ∈ s.l, e.small) (hl : s.l.length ≤ 9223372036854775807) {b : Bool} (hb : s.okB = b) :
    Calls Try.prog 55 #[.agg #[.int .i64 s.ver, .int .i64 s.seq, .int .i64 s.nid, u]] w (RetBe w (!b)) := by
  obtain ⟨A, c, rfl, _, _⟩ := hs.form
  obtain ⟨W, hW⟩ : ∃ W, W = w.alloc (.cells #[.int .i64 s.ver, .int .i64 s.seq, .int .i64 s.nid, .slice A s.l.length c] 24) := ⟨_, rfl⟩
  have hb0 : Below w.heap.size w W := by rw [hW]; exact abel _ _
  have hB : Blk W w.heap.size 24 #[.int .i64 s.ver, .int .i64 s.seq, .int .i64 s.nid, .slice A s.l.length c] := by rw [hW]; exact Blk.new _ _ _
  have HI := Lib.hid (snapCheck_b' hb (hs.below hb0) hw hl W (Below.refl _ _))
  have c0 := hB.cell 0
  have c1 := hB.cell 1
  have c2 := hB.cell 2
  have c3 := hB.cell 3
  simp only [List.getElem?_toArray, List.getElem?_cons_zero, List.getElem?_cons_succ] at c0 c1 c2 c3
  have HB0 := Lib.hid hb0
  clear hb0 hs hB
  go_enter Try.func55, Try.ntmps55
  go_upto_region 1 with (fail)
  rw [← hW]
  clear hW hb
  go_wp2_with fail
  refine HI.out.mono ?_
  rintro _ w2 ⟨rfl, hb⟩
  have HB := Lib.hid (bst HB0.out hb)
  clear hb
  go_wp2
  go_ret
  exact RetBe.mk_ rfl HB.out
set_option maxRecDepth 100000 in
set_option maxHeartbeats 8000000 in
theorem chkIdx_any (v : Value) (h : List Snp) (w : World) (hs : SlSn w v h) (hw : ∀ s ∈ h, ∀ e ∈ s.l, e.small) (hl : h.length ≤ 9223372036854775807) :
    Calls Try.prog 73 #[v, .func (.func 55) #[] #[]] w (RetIx w (h.any fun x => !x.okB)) := by
  obtain ⟨A', c', rfl, hc1, hc2⟩ := hs.form
  go_enter Try.func73, Try.ntmps73
  go_wp2
  go_loopw [8] (fun i wr => ∃ k : Nat, k ≤ h.length ∧ i = .int .i64 k ∧ Below w.heap.size w wr ∧ Hid (∀ (j : Nat) (d : Snp), h[j]? = some d → j < k → d.okB = true)) (fun i _ => h.length - (intOf i).toNat)
  case atStart => exact ⟨0, by omega, rfl, Below.refl _ _, Lib.hid fun j d _ hj => absurd hj (Nat.not_lt_zero _)⟩
  case round =>
    obtain ⟨k, hk, rfl, hbel, hno⟩ := hrel
    by_cases hlt : k < h.length
    · obtain ⟨ad, s, u, p, rfl, he, hp, hE, hSl⟩ := (hs.below hbel).load rfl hlt
      obtain ⟨hplt, c0, c1, c2, c3⟩ := hE
      obtain ⟨AL, cL, rfl, hL1, hL2⟩ := hSl.form
      unfold maxLen at hL2
      have HE := Lib.hid he
      have hsm := hw s (List.mem_of_getElem? he)
      clear he
      have HC := fun (b : Bool) (hb : s.okB = b) => chkLit_any s _ wr hSl hsm (by omega) hb
      cases hn : s.okB with
      | false =>
        have HC' := Lib.hid (HC _ hn)
        have HF := Lib.hid (show (h.any fun x => !x.okB) = true from List.any_eq_true.2 ⟨s, List.mem_of_getElem? HE.out, by rw [hn]; rfl⟩)
        clear hn HC
        go_wp2_with fail
        refine HC'.out.mono ?_
        rintro _ w2 ⟨rfl, hb2⟩
        go_wp2
        go_ret
        exact RetIx.hit k HF.out (by omega) (hbel.trans (hb2.mono hbel.size))
      | true =>
        have HC' := Lib.hid (HC _ hn)
        have HN := Lib.hid (show ∀ (j : Nat) (d : Snp), h[j]? = some d → j < k + 1 → d.okB = true from fun j d hd hj => by
          by_cases ej : j = k
          · subst ej; rw [HE.out] at hd; injection hd with hd; rw [← hd]; exact hn
          · exact hno.out j d hd (by omega))
        clear hn HC
        go_wp2_with fail
        refine HC'.out.mono ?_
        rintro _ w2 ⟨rfl, hb2⟩
        have HB := Lib.hid (hbel.trans (hb2.mono hbel.size))
        clear hb2 hbel
        go_wp2
        go_roundw
        case rel => exact ⟨k + 1, by omega, by go_num, HB.out, HN⟩
        case measure => simp [intOf]; omega
    · have HF := Lib.hid (show (h.any fun x => !x.okB) = false by
        rw [Bool.eq_false_iff]; intro hx; rw [List.any_eq_true] at hx
        obtain ⟨d, hd, hx⟩ := hx
        obtain ⟨j, hj⟩ := List.mem_iff_getElem?.1 hd
        rw [hno.out j d hj (by have := (List.getElem?_eq_some_iff.1 hj).1; omega)] at hx; cases hx)
      go_wp2
      go_ret
      exact RetIx.miss HF.out hbel
set_option maxRecDepth 100000 in
set_option maxHeartbeats 8000000 in
theorem chkFn_any (v : Value) (h : List Snp) (w : World) (hs : SlSn w v h) (hw : ∀ s ∈ h, ∀ e ∈ s.l, e.small) (hl : h.length ≤ 9223372036854775807) :
    Calls Try.prog 54 #[v, .func (.func 55) #[] #[]] w (RetBe w (h.any fun x => !x.okB)) := by
  obtain ⟨A', c', rfl, hc1, hc2⟩ := hs.form
  have HI := Lib.hid (chkIdx_any _ h w hs hw hl)
  clear hs
  go_enter Try.func54, Try.ntmps54
  go_wp2_with fail
  refine HI.out.mono ?_
  rintro _ w2 ⟨r, rfl, hr, h1, h2, hb⟩
  have HB := Lib.hid hb
  have HR := Lib.hid hr
  clear hb hr
  go_wp2
  go_ret
  exact RetBe.mk_ (by rw [← HR.out]) HB.out
theorem has_idx {l : List Ent} (ha : Asc l) {e : Ent} : hasE l e = match idxE l e.id with | some k => (match l[k]? with | some x => eqE x e | none => false) | none => false := by
  cases hi : idxE l e.id with
  | none =>
    have := idxE_none.1 hi
    exact hasE_false.2 fun h => this e h rfl
  | some k =>
    obtain ⟨x, hx, hid⟩ := idxE_some hi
    simp only [hx]
    cases hh : hasE l e with
    | true =>
      have := asc_inj ha (List.mem_of_getElem? hx) (hasE_iff.1 hh) hid
      exact (eqE_iff.2 this).symm
    | false =>
      symm
      rw [← Bool.not_eq_true]
      intro h
      have := eqE_iff.1 h
      exact hasE_false.1 hh (this ▸ List.mem_of_getElem? hx)
set_option maxRecDepth 100000 in
set_option maxHeartbeats 8000000 in
theorem rhas_any (x : Ent) (v : Value) (l : List Ent) (w : World) (hs : Sl w 12 v l.length (ents l)) (hl : l.length ≤ 1000000) (ha : Asc l) :
    Calls Try.prog 52 #[v, .agg #[.int .i64 x.id, .int .i64 x.rows, .int .i64 x.live, .bool x.lo.null, .int .i64 x.lo.n, .string x.lo.s, .int .i64 x.lo.seq, .bool x.hi.null, .int .i64 x.hi.n, .string x.hi.s, .int .i64 x.hi.seq, .int .i64 x.del]] w (RetBe w (hasE l x)) := by
  obtain ⟨A, c, rfl, hc1, hc2⟩ := hs.form
  obtain ⟨W, hW⟩ : ∃ W, W = w.alloc (.cells #[.int .i64 x.id, .int .i64 x.rows, .int .i64 x.live, .bool x.lo.null, .int .i64 x.lo.n, .string x.lo.s, .int .i64 x.lo.seq, .bool x.hi.null, .int .i64 x.hi.n, .string x.hi.s, .int .i64 x.hi.seq, .int .i64 x.del] 34) := ⟨_, rfl⟩
  have hb0 : Below w.heap.size w W := by rw [hW]; exact abel _ _
  have BE := Lib.hid (show Blk W w.heap.size 34 #[.int .i64 x.id, .int .i64 x.rows, .int .i64 x.live, .bool x.lo.null, .int .i64 x.lo.n, .string x.lo.s, .int .i64 x.lo.seq, .bool x.hi.null, .int .i64 x.hi.n, .string x.hi.s, .int .i64 x.hi.seq, .int .i64 x.del] by rw [hW]; exact Blk.new _ _ _)
  have HI := Lib.hid (rindex_any (.slice A l.length c) l x.id W (hs.below hb0) (by omega))
  have HS := Lib.hid (hs.below hb0)
  have HB0 := Lib.hid hb0
  have HX := Lib.hid (has_idx ha (e := x))
  clear hb0 hs
  have bb := BE.out
  have n0 := bb.cell 0
  have n1 := bb.cell 1
  have n2 := bb.cell 2
  have n3 := bb.cell 3
  have n4 := bb.cell 4
  have n5 := bb.cell 5
  have n6 := bb.cell 6
  have n7 := bb.cell 7
  have n8 := bb.cell 8
  have n9 := bb.cell 9
  have n10 := bb.cell 10
  have n11 := bb.cell 11
  simp only [List.getElem?_toArray, List.getElem?_cons_zero, List.getElem?_cons_succ] at n0 n1 n2 n3 n4 n5 n6 n7 n8 n9 n10 n11
  clear bb
  go_enter Try.func52, Try.ntmps52
  go_upto_region 1 with (fail)
  rw [← hW]
  clear hW
  go_wp2_with fail
  refine HI.out.mono ?_
  rintro _ w2 ⟨rfl, hb2⟩
  have BE2 := BE.out.below hb2 BE.out.lt
  have HB2 := Lib.hid (bst HB0.out hb2)
  clear n0 n1 n2 n3 n4 n5 n6 n7 n8 n9 n10 n11
  have HXX := HX.out
  have hw2 := hb2.size
  have HS2 := HS.out.below hb2
  clear hb2
  cases hi : idxE l x.id with
  | none =>
    rw [hi] at HXX
    rw [idxV_none hi]
    have HF := Lib.hid HXX
    clear hi HXX HS2
    go_wp2
    go_quiet (fail)
    go_wp2
    go_ret
    exact RetBe.mk_ HF.out (below_drewN HB2.out _)
  | some k =>
    rw [hi] at HXX
    rw [idxV_some hi]
    have hlt := idxE_lt hi
    obtain ⟨ad, e, q, rfl, he, hp, hE⟩ := HS2.ent_load rfl hlt
    obtain ⟨hplt, c0, c1, c2, c3, c4, c5, c6, c7, c8, c9, c10, c11⟩ := hE
    have EQ := eql_ent e x
    simp only [he] at HXX
    have HF := Lib.hid HXX
    have hk0 : (0 : Int) ≤ k := by omega
    clear hi HXX he
    obtain ⟨b, hb⟩ : ∃ b, eqE e x = b := ⟨_, rfl⟩
    rw [hb] at EQ HF
    clear hb

    have bb := BE2
    have n0 := bb.cell 0
    have n1 := bb.cell 1
    have n2 := bb.cell 2
    have n3 := bb.cell 3
    have n4 := bb.cell 4
    have n5 := bb.cell 5
    have n6 := bb.cell 6
    have n7 := bb.cell 7
    have n8 := bb.cell 8
    have n9 := bb.cell 9
    have n10 := bb.cell 10
    have n11 := bb.cell 11
    simp only [List.getElem?_toArray, List.getElem?_cons_zero, List.getElem?_cons_succ] at n0 n1 n2 n3 n4 n5 n6 n7 n8 n9 n10 n11
    clear bb
    have hltE := BE2.lt
    go_wp2
    go_quiet (fail)
    go_wp2
    go_ret
    exact RetBe.mk_ HF.out (below_drewN HB2.out _)
end Go.Proofs.Ytoikgjhekemjdaa
