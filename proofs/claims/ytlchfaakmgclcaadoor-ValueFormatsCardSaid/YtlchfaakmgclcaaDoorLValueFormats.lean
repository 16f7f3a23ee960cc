/-
  The walk of the law ValueFormats.
-/
import Derived.Test.YtlchfaakmgclcaaDoorVFmt5
import Derived.Test.YtlchfaakmgclcaaDoorKValue
import Derived.Test.YtlchfaakmgclcaaDoorValPut
namespace Go.Proofs.YtlchfaakmgclcaaDoor
open Go.RowKit Go.Sort
theorem below_new' (w : World) (o : Obj) : Below w.heap.size w (w.alloc o) := (Below.refl _ _).alloc (Nat.le_refl _) _
set_option maxRecDepth 100000 in
set_option maxHeartbeats 4000000 in
theorem valueFormats_walk (sc : ByteArray) (ct ck : Int) (cn : Bool) (nul : Bool) (n : Int) (s : ByteArray) (t k : Int) (null : Bool) (v : Value) (zs : List Int) (w : World) (ht : Tab w)
    (hn : -9223372036854775808 ≤ n ∧ n ≤ 9223372036854775807) (hs : s.size ≤ 9223372036854775807)
    (hv : Sl w 1 v zs.length (ints zs)) (hl : zs.length ≤ 9223372036854775807) (hr : ∀ x ∈ zs, -9223372036854775808 ≤ x ∧ x ≤ 9223372036854775807) :
    Calls Tryd.prog 14 #[.agg #[.string sc, .int .i64 ct, .int .i64 ck, .bool cn], .agg #[.bool nul, .int .i64 n, .string s], .int .i64 t, .int .i64 k, .bool null, v] w (RetB1' w true) := by
  obtain ⟨A, c, rfl, _, _⟩ := hv.form
  have HC := Lib.hid (fun X => column_any t k null X)
  have HV := Lib.hid (fun (X : World) (T K : Int) (h1 : 1 ≤ T) (h2 : T ≤ 5) (h : Below w.heap.size w X) => kvalue_any { data := #[120] } T K null (.slice A zs.length c) zs X h1 h2 (hv.below h) hl hr)
  have HT := Lib.hid ht
  obtain ⟨B1, b1, R1⟩ := retD_ex (fmtV ct ck cn nul n s)
  have F1 := Lib.hid (fun X (h : Tab X) => R1 _ _ _ _ (vfmt_any sc ct ck cn nul n s X h hn hs))
  have F2 := Lib.hid (fun X (h : Tab X) => R1 _ _ _ _ (rvfmt_any sc ct ck cn nul n s X h hn hs))
  have G1 := Lib.hid (fun T K => retD_ex (fmtV T K null nul n s))
  clear hr hv R1 ht
  go_enter Tryd.func14, Tryd.ntmps14
  go_wp2_with fail
  rw [show (w.alloc (.cells #[.string sc, .int .i64 ct, .int .i64 ck, .bool cn] 31)).alloc (.cells #[.bool nul, .int .i64 n, .string s] 64) = BoxW w sc ct ck cn nul n s from rfl]
  have hb0 := boxW_below w sc ct ck cn nul n s
  have bc := boxW_c w sc ct ck cn nul n s
  have bv := boxW_v w sc ct ck cn nul n s
  obtain ⟨W, hW⟩ : ∃ W, W = BoxW w sc ct ck cn nul n s := ⟨_, rfl⟩
  rw [← hW] at hb0 bc bv ⊢
  clear hW
  refine (HC.out _).mono ?_
  rintro _ w1 ⟨T, K, rfl, hcol, hb1⟩
  obtain ⟨hT1, hT2, _⟩ := hcol
  have hB1 := bst hb0 hb1
  have bc1 := bc.below hb1 bc.lt
  have bv1 := bv.below hb1 bv.lt
  clear hb0 bc bv hb1 HC
  go_upto_region 2 with (fail)
  have bd := Blk.new w1 31 #[.string { data := #[120] }, .int .i64 T, .int .i64 K, .bool null]
  have hbn := below_new' w1 (.cells #[.string { data := #[120] }, .int .i64 T, .int .i64 K, .bool null] 31)
  obtain ⟨W1, hW1⟩ : ∃ W1, W1 = w1.alloc (.cells #[.string { data := #[120] }, .int .i64 T, .int .i64 K, .bool null] 31) := ⟨_, rfl⟩
  rw [← hW1] at bd hbn ⊢
  clear hW1
  have HB := Lib.hid (bst hB1 hbn)
  have BC := Lib.hid (bc1.below hbn bc1.lt)
  have BV := Lib.hid (bv1.below hbn bv1.lt)
  have BD := Lib.hid bd
  clear hbn bc1 bv1 hB1 bd
  have bd0 : W1.cell? ⟨w1.heap.size, 0, none⟩ = some (.string { data := #[120] }) := BD.out.cell 0
  have bd1 : W1.cell? ⟨w1.heap.size, 1, none⟩ = some (.int .i64 T) := BD.out.cell 1
  have bd2 : W1.cell? ⟨w1.heap.size, 2, none⟩ = some (.int .i64 K) := BD.out.cell 2
  have bd3 : W1.cell? ⟨w1.heap.size, 3, none⟩ = some (.bool null) := BD.out.cell 3
  go_wp2_with fail
  refine (HV.out _ T K hT1 hT2 HB.out).mono ?_
  rintro _ w2 ⟨xb, xn, xs, rfl, hok, hb⟩
  clear bd0 bd1 bd2 bd3
  have hxs : xs.size ≤ 9223372036854775807 := by
    obtain ⟨o1, o2, _⟩ := hok
    cases xb with
    | true => have := (o1 rfl).2.2; omega
    | false =>
      obtain ⟨p1, p2, _⟩ := o2 rfl
      by_cases h3 : T = 3
      · have := (p1 h3).2; omega
      · have := p2 h3; omega
  have hxn := hok.2.2
  clear hok
  obtain ⟨B2, b2, R2⟩ := retD_ex (fmtV T K null xb xn xs)
  have F3 := Lib.hid (fun X (h : Tab X) => R2 _ _ _ _ (vfmt_any { data := #[120] } T K null xb xn xs X h hxn hxs))
  have F4 := Lib.hid (fun X (h : Tab X) => R2 _ _ _ _ (rvfmt_any { data := #[120] } T K null xb xn xs X h hxn hxs))
  obtain ⟨B3, b3, R3⟩ := G1.out T K
  have F5 := Lib.hid (fun X (h : Tab X) => R3 _ _ _ _ (vfmt_any { data := #[120] } T K null nul n s X h hn hs))
  have F6 := Lib.hid (fun X (h : Tab X) => R3 _ _ _ _ (rvfmt_any { data := #[120] } T K null nul n s X h hn hs))
  clear R2 R3 hxs hxn G1
  replace HB := Lib.hid (bst HB.out hb)
  replace BC := Lib.hid (BC.out.below hb BC.out.lt)
  replace BV := Lib.hid (BV.out.below hb BV.out.lt)
  replace BD := Lib.hid (BD.out.below hb BD.out.lt)
  clear hb
  go_upto_region 3 with (fail)
  have bx := Blk.new w2 64 #[.bool xb, .int .i64 xn, .string xs]
  have hbn := below_new' w2 (.cells #[.bool xb, .int .i64 xn, .string xs] 64)
  obtain ⟨W2, hW2⟩ : ∃ W2, W2 = w2.alloc (.cells #[.bool xb, .int .i64 xn, .string xs] 64) := ⟨_, rfl⟩
  rw [← hW2] at bx hbn ⊢
  clear hW2
  replace HB := Lib.hid (bst HB.out hbn)
  replace BC := Lib.hid (BC.out.below hbn BC.out.lt)
  replace BV := Lib.hid (BV.out.below hbn BV.out.lt)
  replace BD := Lib.hid (BD.out.below hbn BD.out.lt)
  have BX := Lib.hid bx
  clear bx hbn
  have bc0 : W2.cell? ⟨w.heap.size, 0, none⟩ = some (.string sc) := BC.out.cell 0
  have bc1 : W2.cell? ⟨w.heap.size, 1, none⟩ = some (.int .i64 ct) := BC.out.cell 1
  have bc2 : W2.cell? ⟨w.heap.size, 2, none⟩ = some (.int .i64 ck) := BC.out.cell 2
  have bc3 : W2.cell? ⟨w.heap.size, 3, none⟩ = some (.bool cn) := BC.out.cell 3
  have bv0 : W2.cell? ⟨w.heap.size + 1, 0, none⟩ = some (.bool nul) := BV.out.cell 0
  have bv1 : W2.cell? ⟨w.heap.size + 1, 1, none⟩ = some (.int .i64 n) := BV.out.cell 1
  have bv2 : W2.cell? ⟨w.heap.size + 1, 2, none⟩ = some (.string s) := BV.out.cell 2
  go_wp2_with fail
  refine (F1.out _ (HT.out.below HB.out)).mono ?_
  rintro _ w3 ⟨rfl, hb⟩
  clear bc0 bc1 bc2 bc3
  clear bv0 bv1 bv2
  replace HB := Lib.hid (bst HB.out hb)
  replace BC := Lib.hid (BC.out.below hb BC.out.lt)
  replace BV := Lib.hid (BV.out.below hb BV.out.lt)
  replace BD := Lib.hid (BD.out.below hb BD.out.lt)
  replace BX := Lib.hid (BX.out.below hb BX.out.lt)
  clear hb
  have bc0 : w3.cell? ⟨w.heap.size, 0, none⟩ = some (.string sc) := BC.out.cell 0
  have bc1 : w3.cell? ⟨w.heap.size, 1, none⟩ = some (.int .i64 ct) := BC.out.cell 1
  have bc2 : w3.cell? ⟨w.heap.size, 2, none⟩ = some (.int .i64 ck) := BC.out.cell 2
  have bc3 : w3.cell? ⟨w.heap.size, 3, none⟩ = some (.bool cn) := BC.out.cell 3
  have bv0 : w3.cell? ⟨w.heap.size + 1, 0, none⟩ = some (.bool nul) := BV.out.cell 0
  have bv1 : w3.cell? ⟨w.heap.size + 1, 1, none⟩ = some (.int .i64 n) := BV.out.cell 1
  have bv2 : w3.cell? ⟨w.heap.size + 1, 2, none⟩ = some (.string s) := BV.out.cell 2
  go_wp2_with fail
  refine (F2.out _ (HT.out.below HB.out)).mono ?_
  rintro _ w4 ⟨rfl, hb⟩
  clear bc0 bc1 bc2 bc3
  clear bv0 bv1 bv2
  replace HB := Lib.hid (bst HB.out hb)
  replace BC := Lib.hid (BC.out.below hb BC.out.lt)
  replace BV := Lib.hid (BV.out.below hb BV.out.lt)
  replace BD := Lib.hid (BD.out.below hb BD.out.lt)
  replace BX := Lib.hid (BX.out.below hb BX.out.lt)
  clear hb
  have bd0 : w4.cell? ⟨w1.heap.size, 0, none⟩ = some (.string { data := #[120] }) := BD.out.cell 0
  have bd1 : w4.cell? ⟨w1.heap.size, 1, none⟩ = some (.int .i64 T) := BD.out.cell 1
  have bd2 : w4.cell? ⟨w1.heap.size, 2, none⟩ = some (.int .i64 K) := BD.out.cell 2
  have bd3 : w4.cell? ⟨w1.heap.size, 3, none⟩ = some (.bool null) := BD.out.cell 3
  have bx0 : w4.cell? ⟨w2.heap.size, 0, none⟩ = some (.bool xb) := BX.out.cell 0
  have bx1 : w4.cell? ⟨w2.heap.size, 1, none⟩ = some (.int .i64 xn) := BX.out.cell 1
  have bx2 : w4.cell? ⟨w2.heap.size, 2, none⟩ = some (.string xs) := BX.out.cell 2
  go_wp2_with fail
  refine (F3.out _ (HT.out.below HB.out)).mono ?_
  rintro _ w5 ⟨rfl, hb⟩
  clear bd0 bd1 bd2 bd3
  clear bx0 bx1 bx2
  replace HB := Lib.hid (bst HB.out hb)
  replace BC := Lib.hid (BC.out.below hb BC.out.lt)
  replace BV := Lib.hid (BV.out.below hb BV.out.lt)
  replace BD := Lib.hid (BD.out.below hb BD.out.lt)
  replace BX := Lib.hid (BX.out.below hb BX.out.lt)
  clear hb
  have bd0 : w5.cell? ⟨w1.heap.size, 0, none⟩ = some (.string { data := #[120] }) := BD.out.cell 0
  have bd1 : w5.cell? ⟨w1.heap.size, 1, none⟩ = some (.int .i64 T) := BD.out.cell 1
  have bd2 : w5.cell? ⟨w1.heap.size, 2, none⟩ = some (.int .i64 K) := BD.out.cell 2
  have bd3 : w5.cell? ⟨w1.heap.size, 3, none⟩ = some (.bool null) := BD.out.cell 3
  have bx0 : w5.cell? ⟨w2.heap.size, 0, none⟩ = some (.bool xb) := BX.out.cell 0
  have bx1 : w5.cell? ⟨w2.heap.size, 1, none⟩ = some (.int .i64 xn) := BX.out.cell 1
  have bx2 : w5.cell? ⟨w2.heap.size, 2, none⟩ = some (.string xs) := BX.out.cell 2
  go_wp2_with fail
  refine (F4.out _ (HT.out.below HB.out)).mono ?_
  rintro _ w6 ⟨rfl, hb⟩
  clear bd0 bd1 bd2 bd3
  clear bx0 bx1 bx2
  replace HB := Lib.hid (bst HB.out hb)
  replace BC := Lib.hid (BC.out.below hb BC.out.lt)
  replace BV := Lib.hid (BV.out.below hb BV.out.lt)
  replace BD := Lib.hid (BD.out.below hb BD.out.lt)
  replace BX := Lib.hid (BX.out.below hb BX.out.lt)
  clear hb
  have bd0 : w6.cell? ⟨w1.heap.size, 0, none⟩ = some (.string { data := #[120] }) := BD.out.cell 0
  have bd1 : w6.cell? ⟨w1.heap.size, 1, none⟩ = some (.int .i64 T) := BD.out.cell 1
  have bd2 : w6.cell? ⟨w1.heap.size, 2, none⟩ = some (.int .i64 K) := BD.out.cell 2
  have bd3 : w6.cell? ⟨w1.heap.size, 3, none⟩ = some (.bool null) := BD.out.cell 3
  have bv0 : w6.cell? ⟨w.heap.size + 1, 0, none⟩ = some (.bool nul) := BV.out.cell 0
  have bv1 : w6.cell? ⟨w.heap.size + 1, 1, none⟩ = some (.int .i64 n) := BV.out.cell 1
  have bv2 : w6.cell? ⟨w.heap.size + 1, 2, none⟩ = some (.string s) := BV.out.cell 2
  go_wp2_with fail
  refine (F5.out _ (HT.out.below HB.out)).mono ?_
  rintro _ w7 ⟨rfl, hb⟩
  clear bd0 bd1 bd2 bd3
  clear bv0 bv1 bv2
  replace HB := Lib.hid (bst HB.out hb)
  replace BC := Lib.hid (BC.out.below hb BC.out.lt)
  replace BV := Lib.hid (BV.out.below hb BV.out.lt)
  replace BD := Lib.hid (BD.out.below hb BD.out.lt)
  replace BX := Lib.hid (BX.out.below hb BX.out.lt)
  clear hb
  have bd0 : w7.cell? ⟨w1.heap.size, 0, none⟩ = some (.string { data := #[120] }) := BD.out.cell 0
  have bd1 : w7.cell? ⟨w1.heap.size, 1, none⟩ = some (.int .i64 T) := BD.out.cell 1
  have bd2 : w7.cell? ⟨w1.heap.size, 2, none⟩ = some (.int .i64 K) := BD.out.cell 2
  have bd3 : w7.cell? ⟨w1.heap.size, 3, none⟩ = some (.bool null) := BD.out.cell 3
  have bv0 : w7.cell? ⟨w.heap.size + 1, 0, none⟩ = some (.bool nul) := BV.out.cell 0
  have bv1 : w7.cell? ⟨w.heap.size + 1, 1, none⟩ = some (.int .i64 n) := BV.out.cell 1
  have bv2 : w7.cell? ⟨w.heap.size + 1, 2, none⟩ = some (.string s) := BV.out.cell 2
  go_wp2_with fail
  refine (F6.out _ (HT.out.below HB.out)).mono ?_
  rintro _ w8 ⟨rfl, hb⟩
  clear bd0 bd1 bd2 bd3
  clear bv0 bv1 bv2
  replace HB := Lib.hid (bst HB.out hb)
  replace BC := Lib.hid (BC.out.below hb BC.out.lt)
  replace BV := Lib.hid (BV.out.below hb BV.out.lt)
  replace BD := Lib.hid (BD.out.below hb BD.out.lt)
  replace BX := Lib.hid (BX.out.below hb BX.out.lt)
  clear hb
  go_wp2_with fail
  refine (awake6_any _).mono ?_
  rintro _ w9 ⟨rfl, hb⟩
  go_wp2
  go_ret
  exact ⟨by simp, bst HB.out hb⟩
end Go.Proofs.YtlchfaakmgclcaaDoor
