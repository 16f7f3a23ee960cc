/-
  The walk of the law ValueTextRoundTrip.
-/
import Derived.Test.YtgdahafokjdafaaGreatDoorTextBack
import Derived.Test.YtgdahafokjdafaaGreatDoorValPut
import Derived.Test.YtgdahafokjdafaaGreatDoorBase
import Derived.Laws.StructEq
namespace Go.Proofs.YtgdahafokjdafaaGreatDoor
open Go.RowKit Go.Sort
set_option linter.unusedVariables false
theorem vbk_of {w : World} {r : (Bool × Int × List UInt8) × Int} {b : Bool} {n : Int} {S : ByteArray} (h : r = ((b, n, S.data.toList), 0)) {P : Program} {f : FuncId} {args : Array Value} (hc : Calls P f args w (RetVb w r)) : Calls P f args w fun e w' => e = .returned (.tuple #[.agg #[.bool b, .int .i64 n, .string S], .int .i64 0]) ∧ Below w.heap.size w w' := by
  subst h
  have e : (⟨S.data.toList.toArray⟩ : ByteArray) = S := by rw [Array.toArray_toList]
  unfold RetVb at hc
  simp only [e] at hc
  exact hc
theorem dec_of {w : World} {r : List UInt8 × Int} {L : List UInt8} (h : r = (L, 0)) {P : Program} {f : FuncId} {args : Array Value} (hc : Calls P f args w (RetDec w r)) : Calls P f args w fun e w' => e = .returned (.tuple #[.string ⟨L.toArray⟩, .int .i64 0]) ∧ Below w.heap.size w w' := by
  subst h; exact hc
theorem strq_self' (s : ByteArray) : (s.toList == s.toList) = true := by simp
set_option maxRecDepth 100000 in
set_option maxHeartbeats 4000000 in
theorem valueTextRoundTrip_walk (t k : Int) (null : Bool) (v : Value) (zs : List Int) (w : World) (ht : Env w)
    (hv : Sl w 1 v zs.length (ints zs)) (hl : zs.length ≤ 9223372036854775807) (hr : ∀ x ∈ zs, -9223372036854775808 ≤ x ∧ x ≤ 9223372036854775807) :
    Calls Tryz.prog 4 #[.int .i64 t, .int .i64 k, .bool null, v] w (RetB1' w true) := by
  obtain ⟨A, c, rfl, _, _⟩ := hv.form
  have HC := Lib.hid (column_any t k null w)
  have HV := Lib.hid (fun (X : World) (T K : Int) (h1 : 1 ≤ T) (h2 : T ≤ 5) (h : Below w.heap.size w X) => kvalue_any { data := #[120] } T K null (.slice A zs.length c) zs X h1 h2 (hv.below h) hl hr)
  have HT := Lib.hid ht
  clear hr hv ht
  go_enter Tryz.func4, Tryz.ntmps4
  go_upto_region 1 with (fail)
  go_wp2_with fail
  refine HC.out.mono ?_
  rintro _ w1 ⟨T, K, rfl, hcol, hb1⟩
  have hT1 := hcol.1
  have hT2 := hcol.2.1
  have HCOL := Lib.hid hcol
  clear hcol HC
  go_upto_region 2 with (fail)
  have bd := Blk.new w1 23 #[.string { data := #[120] }, .int .i64 T, .int .i64 K, .bool null]
  have hbn := below_new w1 (.cells #[.string { data := #[120] }, .int .i64 T, .int .i64 K, .bool null] 23)
  obtain ⟨W1, hW1⟩ : ∃ W1, W1 = w1.alloc (.cells #[.string { data := #[120] }, .int .i64 T, .int .i64 K, .bool null] 23) := ⟨_, rfl⟩
  rw [← hW1] at bd hbn ⊢
  obtain ⟨D, hD⟩ : ∃ D, D = w1.heap.size := ⟨_, rfl⟩
  rw [← hD] at bd ⊢
  have HB := Lib.hid (bst hb1 hbn)
  have BD := Lib.hid bd
  clear hbn hb1 bd hW1 hD
  have bd0 : W1.cell? ⟨D, 0, none⟩ = some (.string { data := #[120] }) := BD.out.cell 0
  have bd1 : W1.cell? ⟨D, 1, none⟩ = some (.int .i64 T) := BD.out.cell 1
  have bd2 : W1.cell? ⟨D, 2, none⟩ = some (.int .i64 K) := BD.out.cell 2
  have bd3 : W1.cell? ⟨D, 3, none⟩ = some (.bool null) := BD.out.cell 3
  go_wp2_with fail
  refine (HV.out _ T K hT1 hT2 HB.out).mono ?_
  rintro _ w2 ⟨xb, xn, xs, rfl, hok, hb⟩
  clear bd0 bd1 bd2 bd3
  have hxs : xs.size ≤ 9223372036854775807 := by
    obtain ⟨o1, o2, _⟩ := hok
    cases xb with
    | true => have := (o1 rfl).2.2; omega
    | false =>
      obtain ⟨p1, p2, _⟩ := o2 rfl
      by_cases h3 : T = 3
      · have := (p1 h3).2; omega
      · have := p2 h3; omega
  have hxn := hok.2.2
  obtain ⟨L, hf, hlen, hp⟩ := text_back HCOL.out hok
  obtain ⟨S, hS⟩ : ∃ S : ByteArray, S = ⟨L.toArray⟩ := ⟨_, rfl⟩
  have hSL : S.data.toList = L := by rw [hS]
  have hSz : S.size ≤ 140737488351232 := by have := sizeD S; rw [hSL] at this; omega
  have F1 := Lib.hid (fun X (h : Env X) => hS ▸ dec_of hf (vfmt_any { data := #[120] } T K null xb xn xs X h.tab hxn hxs))
  have F2 := Lib.hid (fun X (h : Env X) => vbk_of (hSL.symm ▸ hp) (vpar_any { data := #[120] } T K null S X h hSz))
  have e1 := strq_self' xs
  clear hok hxn hxs hf hlen hp hS hSL hSz HCOL hT1 hT2 HV
  replace HB := Lib.hid (bst HB.out hb)
  replace BD := Lib.hid (BD.out.below hb BD.out.lt)
  clear hb
  go_upto_region 3 with (fail)
  have bx := Blk.new w2 28 #[.bool xb, .int .i64 xn, .string xs]
  have hbn := below_new w2 (.cells #[.bool xb, .int .i64 xn, .string xs] 28)
  obtain ⟨W2, hW2⟩ : ∃ W2, W2 = w2.alloc (.cells #[.bool xb, .int .i64 xn, .string xs] 28) := ⟨_, rfl⟩
  rw [← hW2] at bx hbn ⊢
  obtain ⟨V, hV⟩ : ∃ V, V = w2.heap.size := ⟨_, rfl⟩
  rw [← hV] at bx ⊢
  replace HB := Lib.hid (bst HB.out hbn)
  replace BD := Lib.hid (BD.out.below hbn BD.out.lt)
  have BX := Lib.hid bx
  clear bx hbn hW2 hV
  have bd0 : W2.cell? ⟨D, 0, none⟩ = some (.string { data := #[120] }) := BD.out.cell 0
  have bd1 : W2.cell? ⟨D, 1, none⟩ = some (.int .i64 T) := BD.out.cell 1
  have bd2 : W2.cell? ⟨D, 2, none⟩ = some (.int .i64 K) := BD.out.cell 2
  have bd3 : W2.cell? ⟨D, 3, none⟩ = some (.bool null) := BD.out.cell 3
  have bx0 : W2.cell? ⟨V, 0, none⟩ = some (.bool xb) := BX.out.cell 0
  have bx1 : W2.cell? ⟨V, 1, none⟩ = some (.int .i64 xn) := BX.out.cell 1
  have bx2 : W2.cell? ⟨V, 2, none⟩ = some (.string xs) := BX.out.cell 2
  go_wp2_with fail
  refine (F1.out _ (HT.out.below HB.out)).mono ?_
  rintro _ w3 ⟨rfl, hb⟩
  clear bd0 bd1 bd2 bd3 bx0 bx1 bx2
  replace HB := Lib.hid (bst HB.out hb)
  replace BD := Lib.hid (BD.out.below hb BD.out.lt)
  replace BX := Lib.hid (BX.out.below hb BX.out.lt)
  clear hb
  go_upto_region 4 with (fail)
  have bd0 : w3.cell? ⟨D, 0, none⟩ = some (.string { data := #[120] }) := BD.out.cell 0
  have bd1 : w3.cell? ⟨D, 1, none⟩ = some (.int .i64 T) := BD.out.cell 1
  have bd2 : w3.cell? ⟨D, 2, none⟩ = some (.int .i64 K) := BD.out.cell 2
  have bd3 : w3.cell? ⟨D, 3, none⟩ = some (.bool null) := BD.out.cell 3
  go_wp2_with fail
  refine (F2.out _ (HT.out.below HB.out)).mono ?_
  rintro _ w4 ⟨rfl, hb⟩
  clear bd0 bd1 bd2 bd3
  replace HB := Lib.hid (bst HB.out hb)
  replace BX := Lib.hid (BX.out.below hb BX.out.lt)
  clear hb
  go_upto_region 5 with (fail)
  have by_ := Blk.new w4 28 #[.bool xb, .int .i64 xn, .string xs]
  have hbn := below_new w4 (.cells #[.bool xb, .int .i64 xn, .string xs] 28)
  obtain ⟨W4, hW4⟩ : ∃ W4, W4 = w4.alloc (.cells #[.bool xb, .int .i64 xn, .string xs] 28) := ⟨_, rfl⟩
  rw [← hW4] at by_ hbn ⊢
  obtain ⟨U, hU⟩ : ∃ U, U = w4.heap.size := ⟨_, rfl⟩
  rw [← hU] at by_ ⊢
  replace HB := Lib.hid (bst HB.out hbn)
  replace BX := Lib.hid (BX.out.below hbn BX.out.lt)
  have BY := Lib.hid by_
  clear by_ hbn hW4 hU
  go_wp2_with fail
  refine (awake6_any _).mono ?_
  rintro _ z ⟨rfl, hq⟩
  have HBz := Lib.hid (bst HB.out hq)
  have Bz1 := BX.out.below hq BX.out.lt
  have Bz2 := BY.out.below hq BY.out.lt
  have z10 : z.cell? ⟨V, 0, none⟩ = some (.bool xb) := Bz1.cell 0
  have z11 : z.cell? ⟨V, 1, none⟩ = some (.int .i64 xn) := Bz1.cell 1
  have z12 : z.cell? ⟨V, 2, none⟩ = some (.string xs) := Bz1.cell 2
  have z20 : z.cell? ⟨U, 0, none⟩ = some (.bool xb) := Bz2.cell 0
  have z21 : z.cell? ⟨U, 1, none⟩ = some (.int .i64 xn) := Bz2.cell 1
  have z22 : z.cell? ⟨U, 2, none⟩ = some (.string xs) := Bz2.cell 2
  clear hq Bz1 Bz2
  go_wp2
  go_ret
  exact ⟨by simp, HBz.out⟩
end Go.Proofs.YtgdahafokjdafaaGreatDoor
