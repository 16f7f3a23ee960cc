/-
  The contract of ref6.Format, but for values of type Bytes.
-/
import Derived.Test.YtjnamjkdjcndiaaDoorVFmt1
namespace Go.Proofs.YtjnamjkdjcndiaaDoor
open Go.RowKit Go.Sort
set_option linter.unusedVariables false
set_option maxRecDepth 100000 in
set_option maxHeartbeats 2000000 in
theorem rf_bad (sc : ByteArray) (k : Int) (cn nul : Bool) (n : Int) (s : ByteArray) (w : World) (hk : k < 0 ∨ 18 < k) : Calls Tryd.prog 35 #[.agg #[.string sc, .int .i64 5, .int .i64 k, .bool cn], .agg #[.bool nul, .int .i64 n, .string s]] w (RetDec w (fmtV 5 k cn nul n s)) := by
  have HV := Lib.hid (show fmtV 5 k cn nul n s = ([], 1) by unfold fmtV; rw [if_pos ⟨rfl, hk⟩])
  have hb0 := boxW_below w sc 5 k cn nul n s
  rcases hk with hk | hk
  all_goals
    go_enter Tryd.func35, Tryd.ntmps35
    go_wp2
    go_ret2
    exact RetDec.mk_ (by rw [HV.out]) (by rw [HV.out]) hb0
set_option maxRecDepth 100000 in
set_option maxHeartbeats 2000000 in
theorem rf_err (sc : ByteArray) (t k : Int) (cn nul : Bool) (n : Int) (s : ByteArray) (w : World) (hs : s.size ≤ 9223372036854775807) (hk : ¬(t = 5 ∧ (k < 0 ∨ 18 < k))) (hc : checkV t cn nul n s ≠ 0) : Calls Tryd.prog 35 #[.agg #[.string sc, .int .i64 t, .int .i64 k, .bool cn], .agg #[.bool nul, .int .i64 n, .string s]] w (RetDec w (fmtV t k cn nul n s)) := by
  have HV := Lib.hid (show fmtV t k cn nul n s = ([], checkV t cn nul n s) by unfold fmtV; rw [if_neg hk, if_pos hc])
  obtain ⟨E, hE⟩ : ∃ E, checkV t cn nul n s = E := ⟨_, rfl⟩
  rw [hE] at hc HV
  have q0 : (E != 0) = true := by simpa using hc
  clear hc
  by_cases t5 : t = 5
  · subst t5
    have hk1 : ¬k < 0 := fun h => hk ⟨rfl, .inl h⟩
    have hk2 : ¬18 < k := fun h => hk ⟨rfl, .inr h⟩
    clear hk
    have CK := Lib.hid (fun X => retN_of hE (rvcheck_any sc 5 k cn nul n s X hs))
    go_enter Tryd.func35, Tryd.ntmps35
    go_wp2_with fail
    rw [show (w.alloc (.cells #[.string sc, .int .i64 5, .int .i64 k, .bool cn] 47)).alloc (.cells #[.bool nul, .int .i64 n, .string s] 33) = BoxW w sc 5 k cn nul n s from rfl]
    have hb0 := boxW_below w sc 5 k cn nul n s
    have bc := boxW_c w sc 5 k cn nul n s
    have bv := boxW_v w sc 5 k cn nul n s
    obtain ⟨W, hW⟩ : ∃ W, W = BoxW w sc 5 k cn nul n s := ⟨_, rfl⟩
    rw [← hW] at hb0 bc bv ⊢
    clear hW
    refine (CK.out _).mono ?_
    rintro _ w1 ⟨rfl, hb1⟩
    have HB := Lib.hid (bst hb0 hb1)
    have bc1 := bc.below hb1 bc.lt
    have bv1 := bv.below hb1 bv.lt
    have c1 : w1.cell? ⟨w.heap.size, 1, none⟩ = some (.int .i64 5) := bc1.cell 1
    have c2 : w1.cell? ⟨w.heap.size, 2, none⟩ = some (.int .i64 k) := bc1.cell 2
    have v0 : w1.cell? ⟨w.heap.size + 1, 0, none⟩ = some (.bool nul) := bv1.cell 0
    have v1 : w1.cell? ⟨w.heap.size + 1, 1, none⟩ = some (.int .i64 n) := bv1.cell 1
    have v2 : w1.cell? ⟨w.heap.size + 1, 2, none⟩ = some (.string s) := bv1.cell 2
    clear bc bv hb0 hb1 bc1 bv1
    go_wp2
    go_ret2
    exact RetDec.mk_ (by rw [HV.out]) (by rw [HV.out]) HB.out
  · have q5 : (t == 5) = false := by simpa using t5
    clear hk t5
    have CK := Lib.hid (fun X => retN_of hE (rvcheck_any sc t k cn nul n s X hs))
    go_enter Tryd.func35, Tryd.ntmps35
    go_wp2_with fail
    rw [show (w.alloc (.cells #[.string sc, .int .i64 t, .int .i64 k, .bool cn] 47)).alloc (.cells #[.bool nul, .int .i64 n, .string s] 33) = BoxW w sc t k cn nul n s from rfl]
    have hb0 := boxW_below w sc t k cn nul n s
    have bc := boxW_c w sc t k cn nul n s
    have bv := boxW_v w sc t k cn nul n s
    obtain ⟨W, hW⟩ : ∃ W, W = BoxW w sc t k cn nul n s := ⟨_, rfl⟩
    rw [← hW] at hb0 bc bv ⊢
    clear hW
    refine (CK.out _).mono ?_
    rintro _ w1 ⟨rfl, hb1⟩
    have HB := Lib.hid (bst hb0 hb1)
    have bc1 := bc.below hb1 bc.lt
    have bv1 := bv.below hb1 bv.lt
    have c1 : w1.cell? ⟨w.heap.size, 1, none⟩ = some (.int .i64 t) := bc1.cell 1
    have c2 : w1.cell? ⟨w.heap.size, 2, none⟩ = some (.int .i64 k) := bc1.cell 2
    have v0 : w1.cell? ⟨w.heap.size + 1, 0, none⟩ = some (.bool nul) := bv1.cell 0
    have v1 : w1.cell? ⟨w.heap.size + 1, 1, none⟩ = some (.int .i64 n) := bv1.cell 1
    have v2 : w1.cell? ⟨w.heap.size + 1, 2, none⟩ = some (.string s) := bv1.cell 2
    clear bc bv hb0 hb1 bc1 bv1
    go_wp2
    go_ret2
    exact RetDec.mk_ (by rw [HV.out]) (by rw [HV.out]) HB.out
set_option maxRecDepth 100000 in
set_option maxHeartbeats 2000000 in
theorem rf_null (sc : ByteArray) (t k : Int) (cn : Bool) (n : Int) (s : ByteArray) (w : World) (hs : s.size ≤ 9223372036854775807) (hk : ¬(t = 5 ∧ (k < 0 ∨ 18 < k))) (hc : checkV t cn true n s = 0) : Calls Tryd.prog 35 #[.agg #[.string sc, .int .i64 t, .int .i64 k, .bool cn], .agg #[.bool true, .int .i64 n, .string s]] w (RetDec w (fmtV t k cn true n s)) := by
  have HV := Lib.hid (show fmtV t k cn true n s = ([110, 117, 108, 108], 0) by unfold fmtV; rw [if_neg hk, if_neg (by rw [hc]; simp), if_pos rfl])
  by_cases t5 : t = 5
  · subst t5
    have hk1 : ¬k < 0 := fun h => hk ⟨rfl, .inl h⟩
    have hk2 : ¬18 < k := fun h => hk ⟨rfl, .inr h⟩
    clear hk
    have CK := Lib.hid (fun X => retN_of hc (rvcheck_any sc 5 k cn true n s X hs))
    go_enter Tryd.func35, Tryd.ntmps35
    go_wp2_with fail
    rw [show (w.alloc (.cells #[.string sc, .int .i64 5, .int .i64 k, .bool cn] 47)).alloc (.cells #[.bool true, .int .i64 n, .string s] 33) = BoxW w sc 5 k cn true n s from rfl]
    have hb0 := boxW_below w sc 5 k cn true n s
    have bc := boxW_c w sc 5 k cn true n s
    have bv := boxW_v w sc 5 k cn true n s
    obtain ⟨W, hW⟩ : ∃ W, W = BoxW w sc 5 k cn true n s := ⟨_, rfl⟩
    rw [← hW] at hb0 bc bv ⊢
    clear hW
    refine (CK.out _).mono ?_
    rintro _ w1 ⟨rfl, hb1⟩
    have HB := Lib.hid (bst hb0 hb1)
    have bc1 := bc.below hb1 bc.lt
    have bv1 := bv.below hb1 bv.lt
    have c1 : w1.cell? ⟨w.heap.size, 1, none⟩ = some (.int .i64 5) := bc1.cell 1
    have c2 : w1.cell? ⟨w.heap.size, 2, none⟩ = some (.int .i64 k) := bc1.cell 2
    have v0 : w1.cell? ⟨w.heap.size + 1, 0, none⟩ = some (.bool true) := bv1.cell 0
    have v1 : w1.cell? ⟨w.heap.size + 1, 1, none⟩ = some (.int .i64 n) := bv1.cell 1
    have v2 : w1.cell? ⟨w.heap.size + 1, 2, none⟩ = some (.string s) := bv1.cell 2
    clear bc bv hb0 hb1 bc1 bv1
    go_wp2
    go_ret2
    exact RetDec.mk_ (by rw [HV.out]) (by rw [HV.out]) HB.out
  · have q5 : (t == 5) = false := by simpa using t5
    clear hk t5
    have CK := Lib.hid (fun X => retN_of hc (rvcheck_any sc t k cn true n s X hs))
    go_enter Tryd.func35, Tryd.ntmps35
    go_wp2_with fail
    rw [show (w.alloc (.cells #[.string sc, .int .i64 t, .int .i64 k, .bool cn] 47)).alloc (.cells #[.bool true, .int .i64 n, .string s] 33) = BoxW w sc t k cn true n s from rfl]
    have hb0 := boxW_below w sc t k cn true n s
    have bc := boxW_c w sc t k cn true n s
    have bv := boxW_v w sc t k cn true n s
    obtain ⟨W, hW⟩ : ∃ W, W = BoxW w sc t k cn true n s := ⟨_, rfl⟩
    rw [← hW] at hb0 bc bv ⊢
    clear hW
    refine (CK.out _).mono ?_
    rintro _ w1 ⟨rfl, hb1⟩
    have HB := Lib.hid (bst hb0 hb1)
    have bc1 := bc.below hb1 bc.lt
    have bv1 := bv.below hb1 bv.lt
    have c1 : w1.cell? ⟨w.heap.size, 1, none⟩ = some (.int .i64 t) := bc1.cell 1
    have c2 : w1.cell? ⟨w.heap.size, 2, none⟩ = some (.int .i64 k) := bc1.cell 2
    have v0 : w1.cell? ⟨w.heap.size + 1, 0, none⟩ = some (.bool true) := bv1.cell 0
    have v1 : w1.cell? ⟨w.heap.size + 1, 1, none⟩ = some (.int .i64 n) := bv1.cell 1
    have v2 : w1.cell? ⟨w.heap.size + 1, 2, none⟩ = some (.string s) := bv1.cell 2
    clear bc bv hb0 hb1 bc1 bv1
    go_wp2
    go_ret2
    exact RetDec.mk_ (by rw [HV.out]) (by rw [HV.out]) HB.out
set_option maxRecDepth 100000 in
set_option maxHeartbeats 2000000 in
theorem rf_bool (sc : ByteArray) (k : Int) (cn : Bool) (n : Int) (s : ByteArray) (w : World) (ht : Tab w) (hn : -9223372036854775808 ≤ n ∧ n ≤ 9223372036854775807) (hs : s.size ≤ 9223372036854775807) (hc : checkV 2 cn false n s = 0) : Calls Tryd.prog 35 #[.agg #[.string sc, .int .i64 2, .int .i64 k, .bool cn], .agg #[.bool false, .int .i64 n, .string s]] w (RetDec w (fmtV 2 k cn false n s)) := by
  rcases check_bool hc with rfl | rfl
  · have HV := Lib.hid (show fmtV 2 k cn false 0 s = ([102, 97, 108, 115, 101], 0) by unfold fmtV; rw [if_neg (by omega), if_neg (by rw [hc]; simp), if_neg (by simp), if_pos rfl, if_neg (by omega)])
    have CK := Lib.hid (fun X => retN_of hc (rvcheck_any sc 2 k cn false 0 s X hs))
    go_enter Tryd.func35, Tryd.ntmps35
    go_wp2_with fail
    rw [show (w.alloc (.cells #[.string sc, .int .i64 2, .int .i64 k, .bool cn] 47)).alloc (.cells #[.bool false, .int .i64 0, .string s] 33) = BoxW w sc 2 k cn false 0 s from rfl]
    have hb0 := boxW_below w sc 2 k cn false 0 s
    have bc := boxW_c w sc 2 k cn false 0 s
    have bv := boxW_v w sc 2 k cn false 0 s
    obtain ⟨W, hW⟩ : ∃ W, W = BoxW w sc 2 k cn false 0 s := ⟨_, rfl⟩
    rw [← hW] at hb0 bc bv ⊢
    clear hW
    refine (CK.out _).mono ?_
    rintro _ w1 ⟨rfl, hb1⟩
    have HB := Lib.hid (bst hb0 hb1)
    have bc1 := bc.below hb1 bc.lt
    have bv1 := bv.below hb1 bv.lt
    have c1 : w1.cell? ⟨w.heap.size, 1, none⟩ = some (.int .i64 2) := bc1.cell 1
    have c2 : w1.cell? ⟨w.heap.size, 2, none⟩ = some (.int .i64 k) := bc1.cell 2
    have v0 : w1.cell? ⟨w.heap.size + 1, 0, none⟩ = some (.bool false) := bv1.cell 0
    have v1 : w1.cell? ⟨w.heap.size + 1, 1, none⟩ = some (.int .i64 0) := bv1.cell 1
    have v2 : w1.cell? ⟨w.heap.size + 1, 2, none⟩ = some (.string s) := bv1.cell 2
    clear bc bv hb0 hb1 bc1 bv1
    go_wp2
    go_ret2
    exact RetDec.mk_ (by rw [HV.out]) (by rw [HV.out]) HB.out
  · have HV := Lib.hid (show fmtV 2 k cn false 1 s = ([116, 114, 117, 101], 0) by unfold fmtV; rw [if_neg (by omega), if_neg (by rw [hc]; simp), if_neg (by simp), if_pos rfl, if_pos rfl])
    have CK := Lib.hid (fun X => retN_of hc (rvcheck_any sc 2 k cn false 1 s X hs))
    go_enter Tryd.func35, Tryd.ntmps35
    go_wp2_with fail
    rw [show (w.alloc (.cells #[.string sc, .int .i64 2, .int .i64 k, .bool cn] 47)).alloc (.cells #[.bool false, .int .i64 1, .string s] 33) = BoxW w sc 2 k cn false 1 s from rfl]
    have hb0 := boxW_below w sc 2 k cn false 1 s
    have bc := boxW_c w sc 2 k cn false 1 s
    have bv := boxW_v w sc 2 k cn false 1 s
    obtain ⟨W, hW⟩ : ∃ W, W = BoxW w sc 2 k cn false 1 s := ⟨_, rfl⟩
    rw [← hW] at hb0 bc bv ⊢
    clear hW
    refine (CK.out _).mono ?_
    rintro _ w1 ⟨rfl, hb1⟩
    have HB := Lib.hid (bst hb0 hb1)
    have bc1 := bc.below hb1 bc.lt
    have bv1 := bv.below hb1 bv.lt
    have c1 : w1.cell? ⟨w.heap.size, 1, none⟩ = some (.int .i64 2) := bc1.cell 1
    have c2 : w1.cell? ⟨w.heap.size, 2, none⟩ = some (.int .i64 k) := bc1.cell 2
    have v0 : w1.cell? ⟨w.heap.size + 1, 0, none⟩ = some (.bool false) := bv1.cell 0
    have v1 : w1.cell? ⟨w.heap.size + 1, 1, none⟩ = some (.int .i64 1) := bv1.cell 1
    have v2 : w1.cell? ⟨w.heap.size + 1, 2, none⟩ = some (.string s) := bv1.cell 2
    clear bc bv hb0 hb1 bc1 bv1
    go_wp2
    go_ret2
    exact RetDec.mk_ (by rw [HV.out]) (by rw [HV.out]) HB.out
set_option maxRecDepth 100000 in
set_option maxHeartbeats 2000000 in
theorem rf_date (sc : ByteArray) (k : Int) (cn : Bool) (n : Int) (s : ByteArray) (w : World) (ht : Tab w) (hn : -9223372036854775808 ≤ n ∧ n ≤ 9223372036854775807) (hs : s.size ≤ 9223372036854775807) (hc : checkV 4 cn false n s = 0) : Calls Tryd.prog 35 #[.agg #[.string sc, .int .i64 4, .int .i64 k, .bool cn], .agg #[.bool false, .int .i64 n, .string s]] w (RetDec w (fmtV 4 k cn false n s)) := by
  have HV := Lib.hid (show fmtV 4 k cn false n s = dateV n by unfold fmtV; rw [if_neg (by omega), if_neg (by rw [hc]; simp), if_neg (by simp), if_neg (by omega), if_pos rfl])
  obtain ⟨B, b, hB1, hB2, hB3⟩ := retDate_ex n
  have HP := Lib.hid (pair_eq hB1 hB2)
  have CF := Lib.hid (fun X => hB3 _ _ _ _ (rdatefmt_any n X))
  clear hB1 hB2 hB3
  have CK := Lib.hid (fun X => retN_of hc (rvcheck_any sc 4 k cn false n s X hs))
  go_enter Tryd.func35, Tryd.ntmps35
  go_wp2_with fail
  rw [show (w.alloc (.cells #[.string sc, .int .i64 4, .int .i64 k, .bool cn] 47)).alloc (.cells #[.bool false, .int .i64 n, .string s] 33) = BoxW w sc 4 k cn false n s from rfl]
  have hb0 := boxW_below w sc 4 k cn false n s
  have bc := boxW_c w sc 4 k cn false n s
  have bv := boxW_v w sc 4 k cn false n s
  obtain ⟨W, hW⟩ : ∃ W, W = BoxW w sc 4 k cn false n s := ⟨_, rfl⟩
  rw [← hW] at hb0 bc bv ⊢
  clear hW
  refine (CK.out _).mono ?_
  rintro _ w1 ⟨rfl, hb1⟩
  have HB := Lib.hid (bst hb0 hb1)
  have bc1 := bc.below hb1 bc.lt
  have bv1 := bv.below hb1 bv.lt
  have c1 : w1.cell? ⟨w.heap.size, 1, none⟩ = some (.int .i64 4) := bc1.cell 1
  have c2 : w1.cell? ⟨w.heap.size, 2, none⟩ = some (.int .i64 k) := bc1.cell 2
  have v0 : w1.cell? ⟨w.heap.size + 1, 0, none⟩ = some (.bool false) := bv1.cell 0
  have v1 : w1.cell? ⟨w.heap.size + 1, 1, none⟩ = some (.int .i64 n) := bv1.cell 1
  have v2 : w1.cell? ⟨w.heap.size + 1, 2, none⟩ = some (.string s) := bv1.cell 2
  clear bc bv hb0 hb1 bc1 bv1
  go_wp2_with fail
  refine (CF.out _).mono ?_
  rintro _ w2 ⟨rfl, hb2⟩
  go_wp2
  go_ret2
  exact RetDec.mk_ (by rw [HV.out, HP.out]) (by rw [HV.out, HP.out]) (bst HB.out hb2)
set_option maxRecDepth 100000 in
set_option maxHeartbeats 2000000 in
theorem rf_dec (sc : ByteArray) (k : Int) (cn : Bool) (n : Int) (s : ByteArray) (w : World) (ht : Tab w) (hn : -9223372036854775808 ≤ n ∧ n ≤ 9223372036854775807) (hs : s.size ≤ 9223372036854775807) (hk1 : ¬k < 0) (hk2 : ¬18 < k) (hc : checkV 5 cn false n s = 0) : Calls Tryd.prog 35 #[.agg #[.string sc, .int .i64 5, .int .i64 k, .bool cn], .agg #[.bool false, .int .i64 n, .string s]] w (RetDec w (fmtV 5 k cn false n s)) := by
  have HV := Lib.hid (show fmtV 5 k cn false n s = decV n k by unfold fmtV; rw [if_neg (by omega), if_neg (by rw [hc]; simp), if_neg (by simp), if_neg (by omega), if_neg (by omega), if_pos rfl])
  obtain ⟨B, b, hB1, hB2, hB3⟩ := retDec_ex n k
  have HP := Lib.hid (pair_eq hB1 hB2)
  have CF := Lib.hid (fun X (h : Tab X) => hB3 _ _ _ _ (rdecfmt_any n k X))
  have HT := Lib.hid ht
  clear hB1 hB2 hB3 ht
  have CK := Lib.hid (fun X => retN_of hc (rvcheck_any sc 5 k cn false n s X hs))
  go_enter Tryd.func35, Tryd.ntmps35
  go_wp2_with fail
  rw [show (w.alloc (.cells #[.string sc, .int .i64 5, .int .i64 k, .bool cn] 47)).alloc (.cells #[.bool false, .int .i64 n, .string s] 33) = BoxW w sc 5 k cn false n s from rfl]
  have hb0 := boxW_below w sc 5 k cn false n s
  have bc := boxW_c w sc 5 k cn false n s
  have bv := boxW_v w sc 5 k cn false n s
  obtain ⟨W, hW⟩ : ∃ W, W = BoxW w sc 5 k cn false n s := ⟨_, rfl⟩
  rw [← hW] at hb0 bc bv ⊢
  clear hW
  refine (CK.out _).mono ?_
  rintro _ w1 ⟨rfl, hb1⟩
  have HB := Lib.hid (bst hb0 hb1)
  have bc1 := bc.below hb1 bc.lt
  have bv1 := bv.below hb1 bv.lt
  have c1 : w1.cell? ⟨w.heap.size, 1, none⟩ = some (.int .i64 5) := bc1.cell 1
  have c2 : w1.cell? ⟨w.heap.size, 2, none⟩ = some (.int .i64 k) := bc1.cell 2
  have v0 : w1.cell? ⟨w.heap.size + 1, 0, none⟩ = some (.bool false) := bv1.cell 0
  have v1 : w1.cell? ⟨w.heap.size + 1, 1, none⟩ = some (.int .i64 n) := bv1.cell 1
  have v2 : w1.cell? ⟨w.heap.size + 1, 2, none⟩ = some (.string s) := bv1.cell 2
  clear bc bv hb0 hb1 bc1 bv1
  go_wp2_with fail
  refine (CF.out _ (HT.out.below HB.out)).mono ?_
  rintro _ w2 ⟨rfl, hb2⟩
  go_wp2
  go_ret2
  exact RetDec.mk_ (by rw [HV.out, HP.out]) (by rw [HV.out, HP.out]) (bst HB.out hb2)
set_option maxRecDepth 100000 in
set_option maxHeartbeats 2000000 in
theorem rf_int (sc : ByteArray) (k : Int) (cn : Bool) (n : Int) (s : ByteArray) (w : World) (ht : Tab w) (hn : -9223372036854775808 ≤ n ∧ n ≤ 9223372036854775807) (hs : s.size ≤ 9223372036854775807) (hc : checkV 1 cn false n s = 0) : Calls Tryd.prog 35 #[.agg #[.string sc, .int .i64 1, .int .i64 k, .bool cn], .agg #[.bool false, .int .i64 n, .string s]] w (RetDec w (fmtV 1 k cn false n s)) := by
  have HV := Lib.hid (show fmtV 1 k cn false n s = (Lib.itoa n, 0) by unfold fmtV; rw [if_neg (by omega), if_neg (by rw [hc]; simp), if_neg (by simp), if_neg (by omega), if_neg (by omega), if_neg (by omega), if_neg (by omega)])
  obtain ⟨D, hD⟩ : ∃ D : ByteArray, D = ⟨(Lib.itoa n).toArray⟩ := ⟨_, rfl⟩
  have HD := Lib.hid (show D.data.toList = Lib.itoa n by rw [hD])
  have CF := Lib.hid (fun X => retS_of HD.out (number6_any n X hn.1 hn.2))
  clear hD
  have CK := Lib.hid (fun X => retN_of hc (rvcheck_any sc 1 k cn false n s X hs))
  go_enter Tryd.func35, Tryd.ntmps35
  go_wp2_with fail
  rw [show (w.alloc (.cells #[.string sc, .int .i64 1, .int .i64 k, .bool cn] 47)).alloc (.cells #[.bool false, .int .i64 n, .string s] 33) = BoxW w sc 1 k cn false n s from rfl]
  have hb0 := boxW_below w sc 1 k cn false n s
  have bc := boxW_c w sc 1 k cn false n s
  have bv := boxW_v w sc 1 k cn false n s
  obtain ⟨W, hW⟩ : ∃ W, W = BoxW w sc 1 k cn false n s := ⟨_, rfl⟩
  rw [← hW] at hb0 bc bv ⊢
  clear hW
  refine (CK.out _).mono ?_
  rintro _ w1 ⟨rfl, hb1⟩
  have HB := Lib.hid (bst hb0 hb1)
  have bc1 := bc.below hb1 bc.lt
  have bv1 := bv.below hb1 bv.lt
  have c1 : w1.cell? ⟨w.heap.size, 1, none⟩ = some (.int .i64 1) := bc1.cell 1
  have c2 : w1.cell? ⟨w.heap.size, 2, none⟩ = some (.int .i64 k) := bc1.cell 2
  have v0 : w1.cell? ⟨w.heap.size + 1, 0, none⟩ = some (.bool false) := bv1.cell 0
  have v1 : w1.cell? ⟨w.heap.size + 1, 1, none⟩ = some (.int .i64 n) := bv1.cell 1
  have v2 : w1.cell? ⟨w.heap.size + 1, 2, none⟩ = some (.string s) := bv1.cell 2
  clear bc bv hb0 hb1 bc1 bv1
  go_wp2_with fail
  refine (CF.out _).mono ?_
  rintro _ _ ⟨rfl, rfl⟩
  go_wp2
  go_ret2
  exact RetDec.mk_ (by rw [HV.out, HD.out]) (by rw [HV.out]) HB.out
end Go.Proofs.YtjnamjkdjcndiaaDoor
