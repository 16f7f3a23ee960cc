/-
  The walk of the law SnapshotApplies.
-/
import Derived.Test.YtoikgjhekemjdaaApply
import Derived.Test.YtoikgjhekemjdaaRApply
import Derived.Test.YtoikgjhekemjdaaKRecord
import Derived.Test.YtoikgjhekemjdaaSameSn
namespace Go.Proofs.Ytoikgjhekemjdaa
open Go.RowKit Go.Sort
set_option maxRecDepth 100000 in
set_option maxHeartbeats 8000000 in
theorem snapshotApplies_walk (x q n : Int) (l : List Ent) (kind rver rseq rnid : Int) (add : List Ent) (rem : List Int) (vs va vr z1 z2 : Value) (xs ys : List Int) (w : World)
    (hs : Sl w 12 vs l.length (ents l)) (hsm : ∀ e ∈ l, e.small) (hsl : l.length ≤ 9223372036854775807) (ha : Sl w 12 va add.length (ents add)) (ham : ∀ e ∈ add, e.small) (hal : add.length ≤ 9223372036854775807)
    (hr : Sl w 1 vr rem.length (ints rem)) (hrl : rem.length ≤ 9223372036854775807)
    (hz : Sl w 1 z1 xs.length (ints xs)) (hzl : xs.length ≤ 9223372036854775807) (hzr : ∀ x ∈ xs, -9223372036854775808 ≤ x ∧ x ≤ 9223372036854775807)
    (hy : Sl w 1 z2 ys.length (ints ys)) (hyl : ys.length ≤ 9223372036854775807) (hyr : ∀ x ∈ ys, -9223372036854775808 ≤ x ∧ x ≤ 9223372036854775807) :
    Calls Try.prog 4 #[.agg #[.int .i64 x, .int .i64 q, .int .i64 n, vs], .agg #[.int .i64 kind, .int .i64 rver, .int .i64 rseq, .int .i64 rnid, va, vr], z1, z2] w (RetBe w true) := by
  obtain ⟨AS, cS, rfl, _, _⟩ := hs.form
  obtain ⟨AA, cA, rfl, _, _⟩ := ha.form
  obtain ⟨AR, cR, rfl, _, _⟩ := hr.form
  obtain ⟨Az, cz, rfl, _, _⟩ := hz.form
  obtain ⟨Ay, cy, rfl, _, _⟩ := hy.form
  have SS := Lib.hid hs
  have SA := Lib.hid ha
  have SR := Lib.hid hr
  have SZ := Lib.hid hz
  have SY := Lib.hid hy
  clear hs ha hr hz hy
  obtain ⟨v1, hv⟩ : ∃ v1, v1 = (w.alloc (.cells #[.int .i64 x, .int .i64 q, .int .i64 n, .slice AS l.length cS] 24)).alloc (.cells #[.int .i64 kind, .int .i64 rver, .int .i64 rseq, .int .i64 rnid, .slice AA add.length cA, .slice AR rem.length cR] 38) := ⟨_, rfl⟩
  have hb0 := Lib.hid (show Below w.heap.size w v1 from by rw [hv]; exact abel2 _ _ _)
  have BS := Lib.hid (show Blk v1 w.heap.size 24 #[.int .i64 x, .int .i64 q, .int .i64 n, .slice AS l.length cS] by rw [hv]; exact (Blk.new _ _ _).alloc _)
  have BR := Lib.hid (show Blk v1 (w.heap.size + 1) 38 #[.int .i64 kind, .int .i64 rver, .int .i64 rseq, .int .i64 rnid, .slice AA add.length cA, .slice AR rem.length cR] by
    have := Blk.new (w.alloc (.cells #[.int .i64 x, .int .i64 q, .int .i64 n, .slice AS l.length cS] 24)) 38 #[.int .i64 kind, .int .i64 rver, .int .i64 rseq, .int .i64 rnid, .slice AA add.length cA, .slice AR rem.length cR]
    rw [hv]; simpa using this)
  have HK := Lib.hid (ksnap_any (.slice Az xs.length cz) xs v1 (SZ.out.below (hb0.out)) hzl hzr)
  go_enter Try.func4, Try.ntmps4
  go_upto_region 1 with (fail)
  rw [← hv]
  clear hv
  go_wp2_with fail
  refine HK.out.mono ?_
  rintro e v2 ⟨sx, sq, sn, sv, sl, rfl, k1, k2, k3, k4, k5, k6, hlen, hG, hown, hbk⟩
  have hb1 := Lib.hid (show Below v1.heap.size v1 v2 from hbk)
  obtain ⟨AX, cX, rfl, _, _⟩ := (Sl.of_own hown).form
  have SX := Lib.hid (Sl.of_own hown)
  have hsx : ∀ e ∈ sl, e.small := fun e he => Ent.gen_small (hG.mem e he).1
  clear hG hown hbk HK
  obtain ⟨v3, hv⟩ : ∃ v3, v3 = v2.alloc (.cells #[.int .i64 sx, .int .i64 sq, .int .i64 sn, .slice AX sl.length cX] 24) := ⟨_, rfl⟩
  have hb2 := Lib.hid (show Below v2.heap.size v2 v3 from by rw [hv]; exact abel _ _)
  have BX := Lib.hid (show Blk v3 v2.heap.size 24 #[.int .i64 sx, .int .i64 sq, .int .i64 sn, .slice AX sl.length cX] by rw [hv]; exact Blk.new _ _ _)
  have HKR := Lib.hid (krecord_any sx sq sn sl ys (.slice AX sl.length cX) (.slice Ay ys.length cy) v3 (SX.out.below (hb2.out)) hsx (by omega) (by omega) (by omega) (by omega) (SY.out.below ((bst (bst hb0.out hb1.out) hb2.out))) hyl hyr)
  have bb := (BX.out.below (Below.refl _ _) BX.out.lt)
  have x0 := bb.cell 0
  have x1 := bb.cell 1
  have x2 := bb.cell 2
  have x3 := bb.cell 3
  simp only [List.getElem?_toArray, List.getElem?_cons_zero, List.getElem?_cons_succ] at x0 x1 x2 x3
  clear bb
  go_upto_region 2 with (fail)
  rw [← hv]
  clear hv
  go_wp2_with fail
  refine HKR.out.mono ?_
  rintro e v4 ⟨kind2, ver2, seq2, nid2, add2, rem2, va2, vr2, rfl, oA, oR, hsb, hal2, hrl2, hbk⟩
  clear x0 x1 x2 x3
  have hb3 := Lib.hid (show Below v3.heap.size v3 v4 from hbk)
  obtain ⟨AB, cB, rfl, _, _⟩ := (Sl.of_own oA).form
  obtain ⟨AT, cT, rfl, _, _⟩ := (Sl.of_own oR).form
  have SB := Lib.hid (Sl.of_own oA)
  have ST := Lib.hid (Sl.of_own oR)
  clear oA oR hbk HKR
  obtain ⟨v5, hv⟩ : ∃ v5, v5 = v4.alloc (.cells #[.int .i64 kind2, .int .i64 ver2, .int .i64 seq2, .int .i64 nid2, .slice AB add2.length cB, .slice AT rem2.length cT] 38) := ⟨_, rfl⟩
  have hb4 := Lib.hid (show Below v4.heap.size v4 v5 from by rw [hv]; exact abel _ _)
  have BY := Lib.hid (show Blk v5 v4.heap.size 38 #[.int .i64 kind2, .int .i64 ver2, .int .i64 seq2, .int .i64 nid2, .slice AB add2.length cB, .slice AT rem2.length cT] by rw [hv]; exact Blk.new _ _ _)
  have HA := Lib.hid (apply_any x q n l kind rver rseq rnid add rem (.slice AS l.length cS) (.slice AA add.length cA) (.slice AR rem.length cR) v5 (SS.out.below ((bst (bst (bst (bst hb0.out hb1.out) hb2.out) hb3.out) hb4.out))) hsm hsl (SA.out.below ((bst (bst (bst (bst hb0.out hb1.out) hb2.out) hb3.out) hb4.out))) ham hal (SR.out.below ((bst (bst (bst (bst hb0.out hb1.out) hb2.out) hb3.out) hb4.out))) hrl)
  obtain ⟨res0, hres0⟩ : ∃ res, applyV ⟨x, q, n, l⟩ ⟨kind, rver, rseq, rnid, add, rem⟩ = res := ⟨_, rfl⟩
  rw [hres0] at HA
  have bb := (BS.out.below ((bst (bst (bst hb1.out hb2.out) hb3.out) hb4.out)) BS.out.lt)
  have x0 := bb.cell 0
  have x1 := bb.cell 1
  have x2 := bb.cell 2
  have x3 := bb.cell 3
  simp only [List.getElem?_toArray, List.getElem?_cons_zero, List.getElem?_cons_succ] at x0 x1 x2 x3
  clear bb
  have bb := (BR.out.below ((bst (bst (bst hb1.out hb2.out) hb3.out) hb4.out)) BR.out.lt)
  have y0 := bb.cell 0
  have y1 := bb.cell 1
  have y2 := bb.cell 2
  have y3 := bb.cell 3
  have y4 := bb.cell 4
  have y5 := bb.cell 5
  simp only [List.getElem?_toArray, List.getElem?_cons_zero, List.getElem?_cons_succ] at y0 y1 y2 y3 y4 y5
  clear bb
  go_upto_region 3 with (fail)
  rw [← hv]
  clear hv
  go_wp2_with fail
  refine HA.out.mono ?_
  rintro e v6 ⟨vz0p, rfl, oZ, hbk⟩
  obtain ⟨er0, zx0, zq0, zn0, zl0⟩ := res0
  simp only at oZ ⊢
  clear x0 x1 x2 x3
  clear y0 y1 y2 y3 y4 y5
  have hb5 := Lib.hid (show Below v5.heap.size v5 v6 from hbk)
  obtain ⟨AZ0p, cZ0p, rfl, hcz0p, hcm0p⟩ := (Sl.of_own oZ).form
  have SZ0p := Lib.hid (Sl.of_own oZ)
  clear oZ hbk HA
  obtain ⟨v7, hv⟩ : ∃ v, v = v6.alloc (.cells #[.int .i64 zx0, .int .i64 zq0, .int .i64 zn0, .slice AZ0p zl0.length cZ0p] 24) := ⟨_, rfl⟩
  have hb6 := Lib.hid (show Below v6.heap.size v6 v7 from by rw [hv]; exact abel _ _)
  have BZ0p := Lib.hid (show Blk v7 v6.heap.size 24 #[.int .i64 zx0, .int .i64 zq0, .int .i64 zn0, .slice AZ0p zl0.length cZ0p] by rw [hv]; exact Blk.new _ _ _)
  have HA := Lib.hid (rapply_any x q n l kind rver rseq rnid add rem (.slice AS l.length cS) (.slice AA add.length cA) (.slice AR rem.length cR) v7 (SS.out.below ((bst (bst (bst (bst (bst (bst hb0.out hb1.out) hb2.out) hb3.out) hb4.out) hb5.out) hb6.out))) hsm hsl (SA.out.below ((bst (bst (bst (bst (bst (bst hb0.out hb1.out) hb2.out) hb3.out) hb4.out) hb5.out) hb6.out))) ham hal (SR.out.below ((bst (bst (bst (bst (bst (bst hb0.out hb1.out) hb2.out) hb3.out) hb4.out) hb5.out) hb6.out))) hrl)
  rw [hres0] at HA
  have bb := (BS.out.below ((bst (bst (bst (bst (bst hb1.out hb2.out) hb3.out) hb4.out) hb5.out) hb6.out)) BS.out.lt)
  have x0 := bb.cell 0
  have x1 := bb.cell 1
  have x2 := bb.cell 2
  have x3 := bb.cell 3
  simp only [List.getElem?_toArray, List.getElem?_cons_zero, List.getElem?_cons_succ] at x0 x1 x2 x3
  clear bb
  have bb := (BR.out.below ((bst (bst (bst (bst (bst hb1.out hb2.out) hb3.out) hb4.out) hb5.out) hb6.out)) BR.out.lt)
  have y0 := bb.cell 0
  have y1 := bb.cell 1
  have y2 := bb.cell 2
  have y3 := bb.cell 3
  have y4 := bb.cell 4
  have y5 := bb.cell 5
  simp only [List.getElem?_toArray, List.getElem?_cons_zero, List.getElem?_cons_succ] at y0 y1 y2 y3 y4 y5
  clear bb
  go_upto_region 4 with (fail)
  rw [← hv]
  clear hv
  go_wp2_with fail
  refine HA.out.mono ?_
  rintro e v8 ⟨vz0r, rfl, oZ, hbk⟩
  simp only at oZ ⊢
  clear x0 x1 x2 x3
  clear y0 y1 y2 y3 y4 y5
  have hb7 := Lib.hid (show Below v7.heap.size v7 v8 from hbk)
  obtain ⟨AZ0r, cZ0r, rfl, hcz0r, hcm0r⟩ := (Sl.of_own oZ).form
  have SZ0r := Lib.hid (Sl.of_own oZ)
  clear oZ hbk HA
  obtain ⟨v9, hv⟩ : ∃ v, v = v8.alloc (.cells #[.int .i64 zx0, .int .i64 zq0, .int .i64 zn0, .slice AZ0r zl0.length cZ0r] 24) := ⟨_, rfl⟩
  have hb8 := Lib.hid (show Below v8.heap.size v8 v9 from by rw [hv]; exact abel _ _)
  have BZ0r := Lib.hid (show Blk v9 v8.heap.size 24 #[.int .i64 zx0, .int .i64 zq0, .int .i64 zn0, .slice AZ0r zl0.length cZ0r] by rw [hv]; exact Blk.new _ _ _)
  have HA := Lib.hid (apply_any sx sq sn sl kind2 ver2 seq2 nid2 add2 rem2 (.slice AX sl.length cX) (.slice AB add2.length cB) (.slice AT rem2.length cT) v9 (SX.out.below ((bst (bst (bst (bst (bst (bst hb2.out hb3.out) hb4.out) hb5.out) hb6.out) hb7.out) hb8.out))) hsx (by omega) (SB.out.below ((bst (bst (bst (bst hb4.out hb5.out) hb6.out) hb7.out) hb8.out))) hsb (by omega) (ST.out.below ((bst (bst (bst (bst hb4.out hb5.out) hb6.out) hb7.out) hb8.out))) (by omega))
  obtain ⟨res1, hres1⟩ : ∃ res, applyV ⟨sx, sq, sn, sl⟩ ⟨kind2, ver2, seq2, nid2, add2, rem2⟩ = res := ⟨_, rfl⟩
  rw [hres1] at HA
  have bb := (BX.out.below ((bst (bst (bst (bst (bst hb3.out hb4.out) hb5.out) hb6.out) hb7.out) hb8.out)) BX.out.lt)
  have x0 := bb.cell 0
  have x1 := bb.cell 1
  have x2 := bb.cell 2
  have x3 := bb.cell 3
  simp only [List.getElem?_toArray, List.getElem?_cons_zero, List.getElem?_cons_succ] at x0 x1 x2 x3
  clear bb
  have bb := (BY.out.below ((bst (bst (bst hb5.out hb6.out) hb7.out) hb8.out)) BY.out.lt)
  have y0 := bb.cell 0
  have y1 := bb.cell 1
  have y2 := bb.cell 2
  have y3 := bb.cell 3
  have y4 := bb.cell 4
  have y5 := bb.cell 5
  simp only [List.getElem?_toArray, List.getElem?_cons_zero, List.getElem?_cons_succ] at y0 y1 y2 y3 y4 y5
  clear bb
  go_upto_region 5 with (fail)
  rw [← hv]
  clear hv
  go_wp2_with fail
  refine HA.out.mono ?_
  rintro e v10 ⟨vz1p, rfl, oZ, hbk⟩
  obtain ⟨er1, zx1, zq1, zn1, zl1⟩ := res1
  simp only at oZ ⊢
  clear x0 x1 x2 x3
  clear y0 y1 y2 y3 y4 y5
  have hb9 := Lib.hid (show Below v9.heap.size v9 v10 from hbk)
  obtain ⟨AZ1p, cZ1p, rfl, hcz1p, hcm1p⟩ := (Sl.of_own oZ).form
  have SZ1p := Lib.hid (Sl.of_own oZ)
  clear oZ hbk HA
  obtain ⟨v11, hv⟩ : ∃ v, v = v10.alloc (.cells #[.int .i64 zx1, .int .i64 zq1, .int .i64 zn1, .slice AZ1p zl1.length cZ1p] 24) := ⟨_, rfl⟩
  have hb10 := Lib.hid (show Below v10.heap.size v10 v11 from by rw [hv]; exact abel _ _)
  have BZ1p := Lib.hid (show Blk v11 v10.heap.size 24 #[.int .i64 zx1, .int .i64 zq1, .int .i64 zn1, .slice AZ1p zl1.length cZ1p] by rw [hv]; exact Blk.new _ _ _)
  have HA := Lib.hid (rapply_any sx sq sn sl kind2 ver2 seq2 nid2 add2 rem2 (.slice AX sl.length cX) (.slice AB add2.length cB) (.slice AT rem2.length cT) v11 (SX.out.below ((bst (bst (bst (bst (bst (bst (bst (bst hb2.out hb3.out) hb4.out) hb5.out) hb6.out) hb7.out) hb8.out) hb9.out) hb10.out))) hsx (by omega) (SB.out.below ((bst (bst (bst (bst (bst (bst hb4.out hb5.out) hb6.out) hb7.out) hb8.out) hb9.out) hb10.out))) hsb (by omega) (ST.out.below ((bst (bst (bst (bst (bst (bst hb4.out hb5.out) hb6.out) hb7.out) hb8.out) hb9.out) hb10.out))) (by omega))
  rw [hres1] at HA
  have bb := (BX.out.below ((bst (bst (bst (bst (bst (bst (bst hb3.out hb4.out) hb5.out) hb6.out) hb7.out) hb8.out) hb9.out) hb10.out)) BX.out.lt)
  have x0 := bb.cell 0
  have x1 := bb.cell 1
  have x2 := bb.cell 2
  have x3 := bb.cell 3
  simp only [List.getElem?_toArray, List.getElem?_cons_zero, List.getElem?_cons_succ] at x0 x1 x2 x3
  clear bb
  have bb := (BY.out.below ((bst (bst (bst (bst (bst hb5.out hb6.out) hb7.out) hb8.out) hb9.out) hb10.out)) BY.out.lt)
  have y0 := bb.cell 0
  have y1 := bb.cell 1
  have y2 := bb.cell 2
  have y3 := bb.cell 3
  have y4 := bb.cell 4
  have y5 := bb.cell 5
  simp only [List.getElem?_toArray, List.getElem?_cons_zero, List.getElem?_cons_succ] at y0 y1 y2 y3 y4 y5
  clear bb
  go_upto_region 6 with (fail)
  rw [← hv]
  clear hv
  go_wp2_with fail
  refine HA.out.mono ?_
  rintro e v12 ⟨vz1r, rfl, oZ, hbk⟩
  simp only at oZ ⊢
  clear x0 x1 x2 x3
  clear y0 y1 y2 y3 y4 y5
  have hb11 := Lib.hid (show Below v11.heap.size v11 v12 from hbk)
  obtain ⟨AZ1r, cZ1r, rfl, hcz1r, hcm1r⟩ := (Sl.of_own oZ).form
  have SZ1r := Lib.hid (Sl.of_own oZ)
  clear oZ hbk HA
  obtain ⟨v13, hv⟩ : ∃ v, v = v12.alloc (.cells #[.int .i64 zx1, .int .i64 zq1, .int .i64 zn1, .slice AZ1r zl1.length cZ1r] 24) := ⟨_, rfl⟩
  have hb12 := Lib.hid (show Below v12.heap.size v12 v13 from by rw [hv]; exact abel _ _)
  have BZ1r := Lib.hid (show Blk v13 v12.heap.size 24 #[.int .i64 zx1, .int .i64 zq1, .int .i64 zn1, .slice AZ1r zl1.length cZ1r] by rw [hv]; exact Blk.new _ _ _)
  have HA := Lib.hid (apply_any sx sq sn sl kind rver rseq rnid add rem (.slice AX sl.length cX) (.slice AA add.length cA) (.slice AR rem.length cR) v13 (SX.out.below ((bst (bst (bst (bst (bst (bst (bst (bst (bst (bst hb2.out hb3.out) hb4.out) hb5.out) hb6.out) hb7.out) hb8.out) hb9.out) hb10.out) hb11.out) hb12.out))) hsx (by omega) (SA.out.below ((bst (bst (bst (bst (bst (bst (bst (bst (bst (bst (bst (bst hb0.out hb1.out) hb2.out) hb3.out) hb4.out) hb5.out) hb6.out) hb7.out) hb8.out) hb9.out) hb10.out) hb11.out) hb12.out))) ham hal (SR.out.below ((bst (bst (bst (bst (bst (bst (bst (bst (bst (bst (bst (bst hb0.out hb1.out) hb2.out) hb3.out) hb4.out) hb5.out) hb6.out) hb7.out) hb8.out) hb9.out) hb10.out) hb11.out) hb12.out))) hrl)
  obtain ⟨res2, hres2⟩ : ∃ res, applyV ⟨sx, sq, sn, sl⟩ ⟨kind, rver, rseq, rnid, add, rem⟩ = res := ⟨_, rfl⟩
  rw [hres2] at HA
  have bb := (BX.out.below ((bst (bst (bst (bst (bst (bst (bst (bst (bst hb3.out hb4.out) hb5.out) hb6.out) hb7.out) hb8.out) hb9.out) hb10.out) hb11.out) hb12.out)) BX.out.lt)
  have x0 := bb.cell 0
  have x1 := bb.cell 1
  have x2 := bb.cell 2
  have x3 := bb.cell 3
  simp only [List.getElem?_toArray, List.getElem?_cons_zero, List.getElem?_cons_succ] at x0 x1 x2 x3
  clear bb
  have bb := (BR.out.below ((bst (bst (bst (bst (bst (bst (bst (bst (bst (bst (bst hb1.out hb2.out) hb3.out) hb4.out) hb5.out) hb6.out) hb7.out) hb8.out) hb9.out) hb10.out) hb11.out) hb12.out)) BR.out.lt)
  have y0 := bb.cell 0
  have y1 := bb.cell 1
  have y2 := bb.cell 2
  have y3 := bb.cell 3
  have y4 := bb.cell 4
  have y5 := bb.cell 5
  simp only [List.getElem?_toArray, List.getElem?_cons_zero, List.getElem?_cons_succ] at y0 y1 y2 y3 y4 y5
  clear bb
  go_upto_region 7 with (fail)
  rw [← hv]
  clear hv
  go_wp2_with fail
  refine HA.out.mono ?_
  rintro e v14 ⟨vz2p, rfl, oZ, hbk⟩
  obtain ⟨er2, zx2, zq2, zn2, zl2⟩ := res2
  simp only at oZ ⊢
  clear x0 x1 x2 x3
  clear y0 y1 y2 y3 y4 y5
  have hb13 := Lib.hid (show Below v13.heap.size v13 v14 from hbk)
  obtain ⟨AZ2p, cZ2p, rfl, hcz2p, hcm2p⟩ := (Sl.of_own oZ).form
  have SZ2p := Lib.hid (Sl.of_own oZ)
  clear oZ hbk HA
  obtain ⟨v15, hv⟩ : ∃ v, v = v14.alloc (.cells #[.int .i64 zx2, .int .i64 zq2, .int .i64 zn2, .slice AZ2p zl2.length cZ2p] 24) := ⟨_, rfl⟩
  have hb14 := Lib.hid (show Below v14.heap.size v14 v15 from by rw [hv]; exact abel _ _)
  have BZ2p := Lib.hid (show Blk v15 v14.heap.size 24 #[.int .i64 zx2, .int .i64 zq2, .int .i64 zn2, .slice AZ2p zl2.length cZ2p] by rw [hv]; exact Blk.new _ _ _)
  have HA := Lib.hid (rapply_any sx sq sn sl kind rver rseq rnid add rem (.slice AX sl.length cX) (.slice AA add.length cA) (.slice AR rem.length cR) v15 (SX.out.below ((bst (bst (bst (bst (bst (bst (bst (bst (bst (bst (bst (bst hb2.out hb3.out) hb4.out) hb5.out) hb6.out) hb7.out) hb8.out) hb9.out) hb10.out) hb11.out) hb12.out) hb13.out) hb14.out))) hsx (by omega) (SA.out.below ((bst (bst (bst (bst (bst (bst (bst (bst (bst (bst (bst (bst (bst (bst hb0.out hb1.out) hb2.out) hb3.out) hb4.out) hb5.out) hb6.out) hb7.out) hb8.out) hb9.out) hb10.out) hb11.out) hb12.out) hb13.out) hb14.out))) ham hal (SR.out.below ((bst (bst (bst (bst (bst (bst (bst (bst (bst (bst (bst (bst (bst (bst hb0.out hb1.out) hb2.out) hb3.out) hb4.out) hb5.out) hb6.out) hb7.out) hb8.out) hb9.out) hb10.out) hb11.out) hb12.out) hb13.out) hb14.out))) hrl)
  rw [hres2] at HA
  have bb := (BX.out.below ((bst (bst (bst (bst (bst (bst (bst (bst (bst (bst (bst hb3.out hb4.out) hb5.out) hb6.out) hb7.out) hb8.out) hb9.out) hb10.out) hb11.out) hb12.out) hb13.out) hb14.out)) BX.out.lt)
  have x0 := bb.cell 0
  have x1 := bb.cell 1
  have x2 := bb.cell 2
  have x3 := bb.cell 3
  simp only [List.getElem?_toArray, List.getElem?_cons_zero, List.getElem?_cons_succ] at x0 x1 x2 x3
  clear bb
  have bb := (BR.out.below ((bst (bst (bst (bst (bst (bst (bst (bst (bst (bst (bst (bst (bst hb1.out hb2.out) hb3.out) hb4.out) hb5.out) hb6.out) hb7.out) hb8.out) hb9.out) hb10.out) hb11.out) hb12.out) hb13.out) hb14.out)) BR.out.lt)
  have y0 := bb.cell 0
  have y1 := bb.cell 1
  have y2 := bb.cell 2
  have y3 := bb.cell 3
  have y4 := bb.cell 4
  have y5 := bb.cell 5
  simp only [List.getElem?_toArray, List.getElem?_cons_zero, List.getElem?_cons_succ] at y0 y1 y2 y3 y4 y5
  clear bb
  go_upto_region 8 with (fail)
  rw [← hv]
  clear hv
  go_wp2_with fail
  refine HA.out.mono ?_
  rintro e v16 ⟨vz2r, rfl, oZ, hbk⟩
  simp only at oZ ⊢
  clear x0 x1 x2 x3
  clear y0 y1 y2 y3 y4 y5
  have hb15 := Lib.hid (show Below v15.heap.size v15 v16 from hbk)
  obtain ⟨AZ2r, cZ2r, rfl, hcz2r, hcm2r⟩ := (Sl.of_own oZ).form
  have SZ2r := Lib.hid (Sl.of_own oZ)
  clear oZ hbk HA
  obtain ⟨v17, hv⟩ : ∃ v, v = v16.alloc (.cells #[.int .i64 zx2, .int .i64 zq2, .int .i64 zn2, .slice AZ2r zl2.length cZ2r] 24) := ⟨_, rfl⟩
  have hb16 := Lib.hid (show Below v16.heap.size v16 v17 from by rw [hv]; exact abel _ _)
  have BZ2r := Lib.hid (show Blk v17 v16.heap.size 24 #[.int .i64 zx2, .int .i64 zq2, .int .i64 zn2, .slice AZ2r zl2.length cZ2r] by rw [hv]; exact Blk.new _ _ _)
  go_upto_region 9 with (fail)
  rw [← hv]
  clear hv hres0 hres1 hres2
  go_wp2_with fail
  refine (awake20_any v17).mono ?_
  rintro _ v18 ⟨rfl, hbk⟩
  have hb17 := Lib.hid (show Below v17.heap.size v17 v18 from hbk)
  clear hbk
  unfold maxLen at hcm0p hcm1p
  have bb := (BZ0p.out.below ((bst (bst (bst (bst (bst (bst (bst (bst (bst (bst hb7.out hb8.out) hb9.out) hb10.out) hb11.out) hb12.out) hb13.out) hb14.out) hb15.out) hb16.out) hb17.out)) BZ0p.out.lt)
  have x0 := bb.cell 0
  have x1 := bb.cell 1
  have x2 := bb.cell 2
  have x3 := bb.cell 3
  simp only [List.getElem?_toArray, List.getElem?_cons_zero, List.getElem?_cons_succ] at x0 x1 x2 x3
  clear bb
  have bb := (BZ0r.out.below ((bst (bst (bst (bst (bst (bst (bst (bst hb9.out hb10.out) hb11.out) hb12.out) hb13.out) hb14.out) hb15.out) hb16.out) hb17.out)) BZ0r.out.lt)
  have y0 := bb.cell 0
  have y1 := bb.cell 1
  have y2 := bb.cell 2
  have y3 := bb.cell 3
  simp only [List.getElem?_toArray, List.getElem?_cons_zero, List.getElem?_cons_succ] at y0 y1 y2 y3
  clear bb
  go_wp2_with fail
  refine (sameSnap_any zx0 zq0 zn0 (.slice AZ0p zl0.length cZ0p) (.slice AZ0r zl0.length cZ0r) zl0 v18 (SZ0p.out.below ((bst (bst (bst (bst (bst (bst (bst (bst (bst (bst (bst hb6.out hb7.out) hb8.out) hb9.out) hb10.out) hb11.out) hb12.out) hb13.out) hb14.out) hb15.out) hb16.out) hb17.out))) (SZ0r.out.below ((bst (bst (bst (bst (bst (bst (bst (bst (bst hb8.out hb9.out) hb10.out) hb11.out) hb12.out) hb13.out) hb14.out) hb15.out) hb16.out) hb17.out))) (by omega)).mono ?_
  rintro _ v19 ⟨rfl, hbk⟩
  clear x0 x1 x2 x3
  clear y0 y1 y2 y3
  have hb18 := Lib.hid (show Below v18.heap.size v18 v19 from hbk)
  clear hbk
  have bb := (BZ1p.out.below ((bst (bst (bst (bst (bst (bst (bst hb11.out hb12.out) hb13.out) hb14.out) hb15.out) hb16.out) hb17.out) hb18.out)) BZ1p.out.lt)
  have x0 := bb.cell 0
  have x1 := bb.cell 1
  have x2 := bb.cell 2
  have x3 := bb.cell 3
  simp only [List.getElem?_toArray, List.getElem?_cons_zero, List.getElem?_cons_succ] at x0 x1 x2 x3
  clear bb
  have bb := (BZ1r.out.below ((bst (bst (bst (bst (bst hb13.out hb14.out) hb15.out) hb16.out) hb17.out) hb18.out)) BZ1r.out.lt)
  have y0 := bb.cell 0
  have y1 := bb.cell 1
  have y2 := bb.cell 2
  have y3 := bb.cell 3
  simp only [List.getElem?_toArray, List.getElem?_cons_zero, List.getElem?_cons_succ] at y0 y1 y2 y3
  clear bb
  go_wp2_with fail
  refine (sameSnap_any zx1 zq1 zn1 (.slice AZ1p zl1.length cZ1p) (.slice AZ1r zl1.length cZ1r) zl1 v19 (SZ1p.out.below ((bst (bst (bst (bst (bst (bst (bst (bst hb10.out hb11.out) hb12.out) hb13.out) hb14.out) hb15.out) hb16.out) hb17.out) hb18.out))) (SZ1r.out.below ((bst (bst (bst (bst (bst (bst hb12.out hb13.out) hb14.out) hb15.out) hb16.out) hb17.out) hb18.out))) (by omega)).mono ?_
  rintro _ v20 ⟨rfl, hbk⟩
  clear x0 x1 x2 x3
  clear y0 y1 y2 y3
  have hb19 := Lib.hid (show Below v19.heap.size v19 v20 from hbk)
  clear hbk
  have HB := Lib.hid (show Below w.heap.size w v20 from (bst (bst (bst (bst (bst (bst (bst (bst (bst (bst (bst (bst (bst (bst (bst (bst (bst (bst (bst hb0.out hb1.out) hb2.out) hb3.out) hb4.out) hb5.out) hb6.out) hb7.out) hb8.out) hb9.out) hb10.out) hb11.out) hb12.out) hb13.out) hb14.out) hb15.out) hb16.out) hb17.out) hb18.out) hb19.out))
  go_wp2
  go_ret
  exact RetBe.mk_ rfl HB.out
end Go.Proofs.Ytoikgjhekemjdaa
