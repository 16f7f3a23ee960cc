/-
  The walk of the law GarbageCollects.
-/
import Derived.Test.YtlchfaakmgclcaaDoorGarbAwake
import Derived.Test.YtlchfaakmgclcaaDoorGarbSome
import Derived.Test.YtlchfaakmgclcaaDoorPick
namespace Go.Proofs.YtlchfaakmgclcaaDoor
open Go.RowKit Go.Sort
theorem sameS_self (l : List ByteArray) : sameS l l = true := by unfold sameS; rw [decide_eq_true_eq]
set_option maxRecDepth 100000 in
set_option maxHeartbeats 2000000 in
theorem garbageCollects_walk (a b : Value) (la lb : List ByteArray) (n : Int) (l m : Value) (zl zm : List Int) (w : World) (hE : Env w) (ha : Sl w 1 a la.length (strV la)) (hb : Sl w 1 b lb.length (strV lb)) (hal : la.length ≤ 8796093022207)
    (hl : Sl w 1 l zl.length (ints zl)) (hll : zl.length ≤ 9223372036854775807) (hlr : ∀ x ∈ zl, -9223372036854775808 ≤ x ∧ x ≤ 9223372036854775807)
    (hm : Sl w 1 m zm.length (ints zm)) (hml : zm.length ≤ 9223372036854775807) (hmr : ∀ x ∈ zm, -9223372036854775808 ≤ x ∧ x ≤ 9223372036854775807) :
    Calls Tryd.prog 12 #[a, b, .int .i64 n, l, m] w fun e w' => e = .returned (.bool true) ∧ Below w.heap.size w w' := by
  obtain ⟨A1, c1, rfl, _, _⟩ := ha.form
  obtain ⟨A2, c2, rfl, _, _⟩ := hb.form
  obtain ⟨A3, c3, rfl, _, _⟩ := hl.form
  obtain ⟨A4, c4, rfl, _, _⟩ := hm.form
  have C1 := Lib.hid (some_any _ zl w hl hll hlr)
  have C2 := Lib.hid (fun X (h : Below w.heap.size w X) => some_any _ zm X (hm.below h) hml hmr)
  have C3 := Lib.hid (fun X (h : Below w.heap.size w X) => collect_any _ _ la lb n X (ha.below h) (hb.below h) hal)
  have C4 := Lib.hid (fun X (h : Below w.heap.size w X) => rcollect_any _ _ la lb n X (ha.below h) (hb.below h) hal)
  have HE0 := Lib.hid hE
  have p1 := pick_lo n 10 (by omega)
  have p2 := pick_hi n 10 (by omega)
  have P1 := Lib.hid (fun X => pick_any n 10 X (by omega) (by omega))
  obtain ⟨x, hx⟩ : ∃ x, pick n 10 = x := ⟨_, rfl⟩
  rw [hx] at P1 p1 p2
  clear hlr hmr hl hm ha hb hE hx hal hll hml
  go_enter Tryd.func12, Tryd.ntmps12
  go_wp2_with fail
  refine C1.out.mono ?_
  rintro _ w1 ⟨v1, L, rfl, hL, hb1, o1⟩
  obtain ⟨A5, c5, rfl, _, _⟩ := (Sl.of_own o1).form
  have HB1 := Lib.hid hb1
  have S1 := Lib.hid (Sl.of_own o1)
  clear hb1 o1
  go_wp2_with fail
  refine (C2.out _ HB1.out).mono ?_
  rintro _ w2 ⟨v2, M, rfl, hM, hb2, o2⟩
  obtain ⟨A6, c6, rfl, _, _⟩ := (Sl.of_own o2).form
  have HB2 := Lib.hid (bst HB1.out hb2)
  have S2 := Lib.hid (S1.out.below hb2)
  have T2 := Lib.hid (Sl.of_own o2)
  clear hb2 o2 S1 C1 C2
  go_wp2_with fail
  refine (P1.out _).mono ?_
  rintro _ _ ⟨rfl, rfl⟩
  go_wp2_with fail
  refine (awake32_any _ (HE0.out.below HB2.out)).mono ?_
  rintro _ w3 ⟨rfl, hb3⟩
  have HB3 := Lib.hid (bst HB2.out hb3)
  have S3 := Lib.hid (S2.out.below hb3)
  have T3 := Lib.hid (T2.out.below hb3)
  clear hb3 S2 T2
  go_wp2_with fail
  refine (C3.out _ HB3.out).mono ?_
  rintro _ w4 ⟨v4, rfl, hb4, o4⟩
  obtain ⟨A7, c7, rfl, _, _⟩ := (Sl.of_own o4).form
  have HB4 := Lib.hid (bst HB3.out hb4)
  have S4 := Lib.hid (S3.out.below hb4)
  have T4 := Lib.hid (T3.out.below hb4)
  have U4 := Lib.hid (Sl.of_own o4)
  clear hb4 o4 S3 T3
  go_wp2_with fail
  refine (C4.out _ HB4.out).mono ?_
  rintro _ w5 ⟨v5, rfl, hb5, o5⟩
  obtain ⟨A8, c8, rfl, _, _⟩ := (Sl.of_own o5).form
  have HB5 := Lib.hid (bst HB4.out hb5)
  have S5 := Lib.hid (S4.out.below hb5)
  have T5 := Lib.hid (T4.out.below hb5)
  have CS := Lib.hid (sameS_any _ _ _ _ _ (U4.out.below hb5) (Sl.of_own o5))
  rw [sameS_self] at CS
  clear hb5 o5 S4 T4 U4
  go_wp2_with fail
  refine CS.out.mono ?_
  rintro _ w6 ⟨rfl, n6, rfl⟩
  have HB6 := Lib.hid (below_drewN HB5.out n6)
  have CA := Lib.hid (collect_any _ _ L M (x - 1) (w5.drewN n6) (S5.out.drewN n6) (T5.out.drewN n6) (by omega))
  go_wp2_with fail
  refine CA.out.mono ?_
  rintro _ w7 ⟨v7, rfl, hb7, o7⟩
  obtain ⟨A9, c9, rfl, _, _⟩ := (Sl.of_own o7).form
  have HB7 := Lib.hid (bst HB6.out hb7)
  have CB := Lib.hid (rcollect_any _ _ L M (x - 1) w7 ((S5.out.drewN n6).below hb7) ((T5.out.drewN n6).below hb7) (by omega))
  have U7 := Lib.hid (Sl.of_own o7)
  clear hb7 o7 S5 T5 CA CS
  go_wp2_with fail
  refine CB.out.mono ?_
  rintro _ w8 ⟨v8, rfl, hb8, o8⟩
  obtain ⟨A10, c10, rfl, _, _⟩ := (Sl.of_own o8).form
  have HB8 := Lib.hid (bst HB7.out hb8)
  have CD := Lib.hid (sameS_any _ _ _ _ _ (U7.out.below hb8) (Sl.of_own o8))
  rw [sameS_self] at CD
  clear hb8 o8 U7 CB
  go_wp2_with fail
  refine CD.out.mono ?_
  rintro _ w9 ⟨rfl, n9, rfl⟩
  go_wp2
  go_ret
  exact ⟨by simp, below_drewN HB8.out n9⟩
end Go.Proofs.YtlchfaakmgclcaaDoor
