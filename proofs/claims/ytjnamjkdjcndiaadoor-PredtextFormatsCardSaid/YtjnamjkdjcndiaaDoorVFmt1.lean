/-
  The contracts of value.Format and of ref6.Format, but for values of type Bytes.
-/
import Derived.Test.YtjnamjkdjcndiaaDoorVCheck2
import Derived.Test.YtjnamjkdjcndiaaDoorDate3
import Derived.Test.YtjnamjkdjcndiaaDoorRDecFmt
import Derived.Test.YtjnamjkdjcndiaaDoorRNumber
import Derived.Test.YtjnamjkdjcndiaaDoorDecFmt
namespace Go.Proofs.YtjnamjkdjcndiaaDoor
open Go.RowKit Go.Sort
set_option linter.unusedVariables false
def hexC (c : Nat) : UInt8 := if c < 10 then UInt8.ofNat (48 + c) else UInt8.ofNat (87 + c)
def hexL (l : List UInt8) : List UInt8 := l.flatMap fun c => [hexC (c.toNat / 16), hexC (c.toNat % 16)]
/-- The text of a value of a column, and the error. -/
noncomputable def fmtV (t k : Int) (cn nul : Bool) (n : Int) (s : ByteArray) : List UInt8 × Int :=
  if t = 5 ∧ (k < 0 ∨ 18 < k) then ([], 1)
  else if checkV t cn nul n s ≠ 0 then ([], checkV t cn nul n s)
  else if nul = true then ([110, 117, 108, 108], 0)
  else if t = 2 then (if n = 1 then [116, 114, 117, 101] else [102, 97, 108, 115, 101], 0)
  else if t = 4 then dateV n
  else if t = 5 then decV n k
  else if t = 3 then (34 :: (hexL s.data.toList ++ [34]), 0)
  else (Lib.itoa n, 0)
theorem retN_of {P : Program} {f : FuncId} {args : Array Value} {w : World} {x y : Int} (h : x = y) (hc : Calls P f args w (RetN w x)) : Calls P f args w fun e w' => e = .returned (.int .i64 y) ∧ Below w.heap.size w w' := by subst h; exact hc
theorem retDec_ex (n k : Int) : ∃ (B : ByteArray) (b : Int), B.data.toList = (decV n k).1 ∧ b = (decV n k).2 ∧ ∀ (P : Program) (f : FuncId) (args : Array Value) (w : World), Calls P f args w (RetDec w (decV n k)) → Calls P f args w fun e w' => e = .returned (.tuple #[.string B, .int .i64 b]) ∧ Below w.heap.size w w' :=
  ⟨⟨(decV n k).1.toArray⟩, (decV n k).2, rfl, rfl, fun _ _ _ _ h => h⟩
theorem retDate_ex (n : Int) : ∃ (B : ByteArray) (b : Int), B.data.toList = (dateV n).1 ∧ b = (dateV n).2 ∧ ∀ (P : Program) (f : FuncId) (args : Array Value) (w : World), Calls P f args w (RetDec w (dateV n)) → Calls P f args w fun e w' => e = .returned (.tuple #[.string B, .int .i64 b]) ∧ Below w.heap.size w w' :=
  ⟨⟨(dateV n).1.toArray⟩, (dateV n).2, rfl, rfl, fun _ _ _ _ h => h⟩
theorem pair_eq {r : List UInt8 × Int} {B : ByteArray} {b : Int} (h1 : B.data.toList = r.1) (h2 : b = r.2) : r = (B.data.toList, b) := by rw [h1, h2]
theorem check_range {t : Int} {cn nul : Bool} {n : Int} {s : ByteArray} (h : checkV t cn nul n s = 0) : 1 ≤ t ∧ t ≤ 5 := by
  unfold checkV at h
  split at h
  · cases h
  · omega
theorem check_bool {cn : Bool} {n : Int} {s : ByteArray} (h : checkV 2 cn false n s = 0) : n = 0 ∨ n = 1 := by
  unfold checkV at h
  rw [if_neg (by omega)] at h
  split at h
  · cases h
  · split at h
    · cases h
    · split at h
      · cases h
      · split at h
        · cases h
        · rename_i hp
          simp [permB] at hp
          omega
def BoxW (w : World) (sc : ByteArray) (t k : Int) (cn nul : Bool) (n : Int) (s : ByteArray) : World := (w.alloc (.cells #[.string sc, .int .i64 t, .int .i64 k, .bool cn] 47)).alloc (.cells #[.bool nul, .int .i64 n, .string s] 33)
theorem boxW_below (w : World) (sc : ByteArray) (t k : Int) (cn nul : Bool) (n : Int) (s : ByteArray) : Below w.heap.size w (BoxW w sc t k cn nul n s) := ((Below.refl _ _).alloc (Nat.le_refl _) _).alloc (by simp) _
theorem boxW_c (w : World) (sc : ByteArray) (t k : Int) (cn nul : Bool) (n : Int) (s : ByteArray) : Blk (BoxW w sc t k cn nul n s) w.heap.size 47 #[.string sc, .int .i64 t, .int .i64 k, .bool cn] := (Blk.new _ _ _).alloc _
theorem boxW_v (w : World) (sc : ByteArray) (t k : Int) (cn nul : Bool) (n : Int) (s : ByteArray) : Blk (BoxW w sc t k cn nul n s) (w.heap.size + 1) 33 #[.bool nul, .int .i64 n, .string s] := by
  have := Blk.new (w.alloc (.cells #[.string sc, .int .i64 t, .int .i64 k, .bool cn] 47)) 33 #[.bool nul, .int .i64 n, .string s]
  simpa [BoxW] using this
set_option maxRecDepth 100000 in
set_option maxHeartbeats 2000000 in
theorem vf_bad (sc : ByteArray) (k : Int) (cn nul : Bool) (n : Int) (s : ByteArray) (w : World) (hk : k < 0 ∨ 18 < k) : Calls Tryd.prog 41 #[.agg #[.string sc, .int .i64 5, .int .i64 k, .bool cn], .agg #[.bool nul, .int .i64 n, .string s]] w (RetDec w (fmtV 5 k cn nul n s)) := by
  have HV := Lib.hid (show fmtV 5 k cn nul n s = ([], 1) by unfold fmtV; rw [if_pos ⟨rfl, hk⟩])
  have hb0 := boxW_below w sc 5 k cn nul n s
  rcases hk with hk | hk
  all_goals
    go_enter Tryd.func41, Tryd.ntmps41
    go_wp2
    go_ret2
    exact RetDec.mk_ (by rw [HV.out]) (by rw [HV.out]) hb0
set_option maxRecDepth 100000 in
set_option maxHeartbeats 2000000 in
theorem vf_err (sc : ByteArray) (t k : Int) (cn nul : Bool) (n : Int) (s : ByteArray) (w : World) (hs : s.size ≤ 9223372036854775807) (hk : ¬(t = 5 ∧ (k < 0 ∨ 18 < k))) (hc : checkV t cn nul n s ≠ 0) : Calls Tryd.prog 41 #[.agg #[.string sc, .int .i64 t, .int .i64 k, .bool cn], .agg #[.bool nul, .int .i64 n, .string s]] w (RetDec w (fmtV t k cn nul n s)) := by
  have HV := Lib.hid (show fmtV t k cn nul n s = ([], checkV t cn nul n s) by unfold fmtV; rw [if_neg hk, if_pos hc])
  obtain ⟨E, hE⟩ : ∃ E, checkV t cn nul n s = E := ⟨_, rfl⟩
  rw [hE] at hc HV
  have q0 : (E != 0) = true := by simpa using hc
  clear hc
  by_cases t5 : t = 5
  · subst t5
    have hk1 : ¬k < 0 := fun h => hk ⟨rfl, .inl h⟩
    have hk2 : ¬18 < k := fun h => hk ⟨rfl, .inr h⟩
    clear hk
    have CK := Lib.hid (fun X => retN_of hE (vcheck_any sc 5 k cn nul n s X hs))
    go_enter Tryd.func41, Tryd.ntmps41
    go_wp2_with fail
    rw [show (w.alloc (.cells #[.string sc, .int .i64 5, .int .i64 k, .bool cn] 47)).alloc (.cells #[.bool nul, .int .i64 n, .string s] 33) = BoxW w sc 5 k cn nul n s from rfl]
    have hb0 := boxW_below w sc 5 k cn nul n s
    have bc := boxW_c w sc 5 k cn nul n s
    have bv := boxW_v w sc 5 k cn nul n s
    obtain ⟨W, hW⟩ : ∃ W, W = BoxW w sc 5 k cn nul n s := ⟨_, rfl⟩
    rw [← hW] at hb0 bc bv ⊢
    clear hW
    refine (CK.out _).mono ?_
    rintro _ w1 ⟨rfl, hb1⟩
    have HB := Lib.hid (bst hb0 hb1)
    have bc1 := bc.below hb1 bc.lt
    have bv1 := bv.below hb1 bv.lt
    have c1 : w1.cell? ⟨w.heap.size, 1, none⟩ = some (.int .i64 5) := bc1.cell 1
    have c2 : w1.cell? ⟨w.heap.size, 2, none⟩ = some (.int .i64 k) := bc1.cell 2
    have v0 : w1.cell? ⟨w.heap.size + 1, 0, none⟩ = some (.bool nul) := bv1.cell 0
    have v1 : w1.cell? ⟨w.heap.size + 1, 1, none⟩ = some (.int .i64 n) := bv1.cell 1
    have v2 : w1.cell? ⟨w.heap.size + 1, 2, none⟩ = some (.string s) := bv1.cell 2
    clear bc bv hb0 hb1 bc1 bv1
    go_wp2
    go_ret2
    exact RetDec.mk_ (by rw [HV.out]) (by rw [HV.out]) HB.out
  · have q5 : (t == 5) = false := by simpa using t5
    clear hk t5
    have CK := Lib.hid (fun X => retN_of hE (vcheck_any sc t k cn nul n s X hs))
    go_enter Tryd.func41, Tryd.ntmps41
    go_wp2_with fail
    rw [show (w.alloc (.cells #[.string sc, .int .i64 t, .int .i64 k, .bool cn] 47)).alloc (.cells #[.bool nul, .int .i64 n, .string s] 33) = BoxW w sc t k cn nul n s from rfl]
    have hb0 := boxW_below w sc t k cn nul n s
    have bc := boxW_c w sc t k cn nul n s
    have bv := boxW_v w sc t k cn nul n s
    obtain ⟨W, hW⟩ : ∃ W, W = BoxW w sc t k cn nul n s := ⟨_, rfl⟩
    rw [← hW] at hb0 bc bv ⊢
    clear hW
    refine (CK.out _).mono ?_
    rintro _ w1 ⟨rfl, hb1⟩
    have HB := Lib.hid (bst hb0 hb1)
    have bc1 := bc.below hb1 bc.lt
    have bv1 := bv.below hb1 bv.lt
    have c1 : w1.cell? ⟨w.heap.size, 1, none⟩ = some (.int .i64 t) := bc1.cell 1
    have c2 : w1.cell? ⟨w.heap.size, 2, none⟩ = some (.int .i64 k) := bc1.cell 2
    have v0 : w1.cell? ⟨w.heap.size + 1, 0, none⟩ = some (.bool nul) := bv1.cell 0
    have v1 : w1.cell? ⟨w.heap.size + 1, 1, none⟩ = some (.int .i64 n) := bv1.cell 1
    have v2 : w1.cell? ⟨w.heap.size + 1, 2, none⟩ = some (.string s) := bv1.cell 2
    clear bc bv hb0 hb1 bc1 bv1
    go_wp2
    go_ret2
    exact RetDec.mk_ (by rw [HV.out]) (by rw [HV.out]) HB.out
set_option maxRecDepth 100000 in
set_option maxHeartbeats 2000000 in
theorem vf_null (sc : ByteArray) (t k : Int) (cn : Bool) (n : Int) (s : ByteArray) (w : World) (hs : s.size ≤ 9223372036854775807) (hk : ¬(t = 5 ∧ (k < 0 ∨ 18 < k))) (hc : checkV t cn true n s = 0) : Calls Tryd.prog 41 #[.agg #[.string sc, .int .i64 t, .int .i64 k, .bool cn], .agg #[.bool true, .int .i64 n, .string s]] w (RetDec w (fmtV t k cn true n s)) := by
  have HV := Lib.hid (show fmtV t k cn true n s = ([110, 117, 108, 108], 0) by unfold fmtV; rw [if_neg hk, if_neg (by rw [hc]; simp), if_pos rfl])
  by_cases t5 : t = 5
  · subst t5
    have hk1 : ¬k < 0 := fun h => hk ⟨rfl, .inl h⟩
    have hk2 : ¬18 < k := fun h => hk ⟨rfl, .inr h⟩
    clear hk
    have CK := Lib.hid (fun X => retN_of hc (vcheck_any sc 5 k cn true n s X hs))
    go_enter Tryd.func41, Tryd.ntmps41
    go_wp2_with fail
    rw [show (w.alloc (.cells #[.string sc, .int .i64 5, .int .i64 k, .bool cn] 47)).alloc (.cells #[.bool true, .int .i64 n, .string s] 33) = BoxW w sc 5 k cn true n s from rfl]
    have hb0 := boxW_below w sc 5 k cn true n s
    have bc := boxW_c w sc 5 k cn true n s
    have bv := boxW_v w sc 5 k cn true n s
    obtain ⟨W, hW⟩ : ∃ W, W = BoxW w sc 5 k cn true n s := ⟨_, rfl⟩
    rw [← hW] at hb0 bc bv ⊢
    clear hW
    refine (CK.out _).mono ?_
    rintro _ w1 ⟨rfl, hb1⟩
    have HB := Lib.hid (bst hb0 hb1)
    have bc1 := bc.below hb1 bc.lt
    have bv1 := bv.below hb1 bv.lt
    have c1 : w1.cell? ⟨w.heap.size, 1, none⟩ = some (.int .i64 5) := bc1.cell 1
    have c2 : w1.cell? ⟨w.heap.size, 2, none⟩ = some (.int .i64 k) := bc1.cell 2
    have v0 : w1.cell? ⟨w.heap.size + 1, 0, none⟩ = some (.bool true) := bv1.cell 0
    have v1 : w1.cell? ⟨w.heap.size + 1, 1, none⟩ = some (.int .i64 n) := bv1.cell 1
    have v2 : w1.cell? ⟨w.heap.size + 1, 2, none⟩ = some (.string s) := bv1.cell 2
    clear bc bv hb0 hb1 bc1 bv1
    go_wp2
    go_ret2
    exact RetDec.mk_ (by rw [HV.out]) (by rw [HV.out]) HB.out
  · have q5 : (t == 5) = false := by simpa using t5
    clear hk t5
    have CK := Lib.hid (fun X => retN_of hc (vcheck_any sc t k cn true n s X hs))
    go_enter Tryd.func41, Tryd.ntmps41
    go_wp2_with fail
    rw [show (w.alloc (.cells #[.string sc, .int .i64 t, .int .i64 k, .bool cn] 47)).alloc (.cells #[.bool true, .int .i64 n, .string s] 33) = BoxW w sc t k cn true n s from rfl]
    have hb0 := boxW_below w sc t k cn true n s
    have bc := boxW_c w sc t k cn true n s
    have bv := boxW_v w sc t k cn true n s
    obtain ⟨W, hW⟩ : ∃ W, W = BoxW w sc t k cn true n s := ⟨_, rfl⟩
    rw [← hW] at hb0 bc bv ⊢
    clear hW
    refine (CK.out _).mono ?_
    rintro _ w1 ⟨rfl, hb1⟩
    have HB := Lib.hid (bst hb0 hb1)
    have bc1 := bc.below hb1 bc.lt
    have bv1 := bv.below hb1 bv.lt
    have c1 : w1.cell? ⟨w.heap.size, 1, none⟩ = some (.int .i64 t) := bc1.cell 1
    have c2 : w1.cell? ⟨w.heap.size, 2, none⟩ = some (.int .i64 k) := bc1.cell 2
    have v0 : w1.cell? ⟨w.heap.size + 1, 0, none⟩ = some (.bool true) := bv1.cell 0
    have v1 : w1.cell? ⟨w.heap.size + 1, 1, none⟩ = some (.int .i64 n) := bv1.cell 1
    have v2 : w1.cell? ⟨w.heap.size + 1, 2, none⟩ = some (.string s) := bv1.cell 2
    clear bc bv hb0 hb1 bc1 bv1
    go_wp2
    go_ret2
    exact RetDec.mk_ (by rw [HV.out]) (by rw [HV.out]) HB.out
set_option maxRecDepth 100000 in
set_option maxHeartbeats 2000000 in
theorem vf_bool (sc : ByteArray) (k : Int) (cn : Bool) (n : Int) (s : ByteArray) (w : World) (ht : Tab w) (hn : -9223372036854775808 ≤ n ∧ n ≤ 9223372036854775807) (hs : s.size ≤ 9223372036854775807) (hc : checkV 2 cn false n s = 0) : Calls Tryd.prog 41 #[.agg #[.string sc, .int .i64 2, .int .i64 k, .bool cn], .agg #[.bool false, .int .i64 n, .string s]] w (RetDec w (fmtV 2 k cn false n s)) := by
  rcases check_bool hc with rfl | rfl
  · have HV := Lib.hid (show fmtV 2 k cn false 0 s = ([102, 97, 108, 115, 101], 0) by unfold fmtV; rw [if_neg (by omega), if_neg (by rw [hc]; simp), if_neg (by simp), if_pos rfl, if_neg (by omega)])
    have CK := Lib.hid (fun X => retN_of hc (vcheck_any sc 2 k cn false 0 s X hs))
    go_enter Tryd.func41, Tryd.ntmps41
    go_wp2_with fail
    rw [show (w.alloc (.cells #[.string sc, .int .i64 2, .int .i64 k, .bool cn] 47)).alloc (.cells #[.bool false, .int .i64 0, .string s] 33) = BoxW w sc 2 k cn false 0 s from rfl]
    have hb0 := boxW_below w sc 2 k cn false 0 s
    have bc := boxW_c w sc 2 k cn false 0 s
    have bv := boxW_v w sc 2 k cn false 0 s
    obtain ⟨W, hW⟩ : ∃ W, W = BoxW w sc 2 k cn false 0 s := ⟨_, rfl⟩
    rw [← hW] at hb0 bc bv ⊢
    clear hW
    refine (CK.out _).mono ?_
    rintro _ w1 ⟨rfl, hb1⟩
    have HB := Lib.hid (bst hb0 hb1)
    have bc1 := bc.below hb1 bc.lt
    have bv1 := bv.below hb1 bv.lt
    have c1 : w1.cell? ⟨w.heap.size, 1, none⟩ = some (.int .i64 2) := bc1.cell 1
    have c2 : w1.cell? ⟨w.heap.size, 2, none⟩ = some (.int .i64 k) := bc1.cell 2
    have v0 : w1.cell? ⟨w.heap.size + 1, 0, none⟩ = some (.bool false) := bv1.cell 0
    have v1 : w1.cell? ⟨w.heap.size + 1, 1, none⟩ = some (.int .i64 0) := bv1.cell 1
    have v2 : w1.cell? ⟨w.heap.size + 1, 2, none⟩ = some (.string s) := bv1.cell 2
    clear bc bv hb0 hb1 bc1 bv1
    go_wp2_with fail
    refine (Tryd.strconv_FormatBool _ _).mono ?_
    rintro _ _ ⟨rfl, rfl⟩
    go_wp2
    go_ret2
    exact RetDec.mk_ (by rw [HV.out]; rfl) (by rw [HV.out]) HB.out
  · have HV := Lib.hid (show fmtV 2 k cn false 1 s = ([116, 114, 117, 101], 0) by unfold fmtV; rw [if_neg (by omega), if_neg (by rw [hc]; simp), if_neg (by simp), if_pos rfl, if_pos rfl])
    have CK := Lib.hid (fun X => retN_of hc (vcheck_any sc 2 k cn false 1 s X hs))
    go_enter Tryd.func41, Tryd.ntmps41
    go_wp2_with fail
    rw [show (w.alloc (.cells #[.string sc, .int .i64 2, .int .i64 k, .bool cn] 47)).alloc (.cells #[.bool false, .int .i64 1, .string s] 33) = BoxW w sc 2 k cn false 1 s from rfl]
    have hb0 := boxW_below w sc 2 k cn false 1 s
    have bc := boxW_c w sc 2 k cn false 1 s
    have bv := boxW_v w sc 2 k cn false 1 s
    obtain ⟨W, hW⟩ : ∃ W, W = BoxW w sc 2 k cn false 1 s := ⟨_, rfl⟩
    rw [← hW] at hb0 bc bv ⊢
    clear hW
    refine (CK.out _).mono ?_
    rintro _ w1 ⟨rfl, hb1⟩
    have HB := Lib.hid (bst hb0 hb1)
    have bc1 := bc.below hb1 bc.lt
    have bv1 := bv.below hb1 bv.lt
    have c1 : w1.cell? ⟨w.heap.size, 1, none⟩ = some (.int .i64 2) := bc1.cell 1
    have c2 : w1.cell? ⟨w.heap.size, 2, none⟩ = some (.int .i64 k) := bc1.cell 2
    have v0 : w1.cell? ⟨w.heap.size + 1, 0, none⟩ = some (.bool false) := bv1.cell 0
    have v1 : w1.cell? ⟨w.heap.size + 1, 1, none⟩ = some (.int .i64 1) := bv1.cell 1
    have v2 : w1.cell? ⟨w.heap.size + 1, 2, none⟩ = some (.string s) := bv1.cell 2
    clear bc bv hb0 hb1 bc1 bv1
    go_wp2_with fail
    refine (Tryd.strconv_FormatBool _ _).mono ?_
    rintro _ _ ⟨rfl, rfl⟩
    go_wp2
    go_ret2
    exact RetDec.mk_ (by rw [HV.out]; rfl) (by rw [HV.out]) HB.out
set_option maxRecDepth 100000 in
set_option maxHeartbeats 2000000 in
theorem vf_date (sc : ByteArray) (k : Int) (cn : Bool) (n : Int) (s : ByteArray) (w : World) (ht : Tab w) (hn : -9223372036854775808 ≤ n ∧ n ≤ 9223372036854775807) (hs : s.size ≤ 9223372036854775807) (hc : checkV 4 cn false n s = 0) : Calls Tryd.prog 41 #[.agg #[.string sc, .int .i64 4, .int .i64 k, .bool cn], .agg #[.bool false, .int .i64 n, .string s]] w (RetDec w (fmtV 4 k cn false n s)) := by
  have HV := Lib.hid (show fmtV 4 k cn false n s = dateV n by unfold fmtV; rw [if_neg (by omega), if_neg (by rw [hc]; simp), if_neg (by simp), if_neg (by omega), if_pos rfl])
  obtain ⟨B, b, hB1, hB2, hB3⟩ := retDate_ex n
  have HP := Lib.hid (pair_eq hB1 hB2)
  have CF := Lib.hid (fun X => hB3 _ _ _ _ (datefmt_any n X))
  clear hB1 hB2 hB3
  have CK := Lib.hid (fun X => retN_of hc (vcheck_any sc 4 k cn false n s X hs))
  go_enter Tryd.func41, Tryd.ntmps41
  go_wp2_with fail
  rw [show (w.alloc (.cells #[.string sc, .int .i64 4, .int .i64 k, .bool cn] 47)).alloc (.cells #[.bool false, .int .i64 n, .string s] 33) = BoxW w sc 4 k cn false n s from rfl]
  have hb0 := boxW_below w sc 4 k cn false n s
  have bc := boxW_c w sc 4 k cn false n s
  have bv := boxW_v w sc 4 k cn false n s
  obtain ⟨W, hW⟩ : ∃ W, W = BoxW w sc 4 k cn false n s := ⟨_, rfl⟩
  rw [← hW] at hb0 bc bv ⊢
  clear hW
  refine (CK.out _).mono ?_
  rintro _ w1 ⟨rfl, hb1⟩
  have HB := Lib.hid (bst hb0 hb1)
  have bc1 := bc.below hb1 bc.lt
  have bv1 := bv.below hb1 bv.lt
  have c1 : w1.cell? ⟨w.heap.size, 1, none⟩ = some (.int .i64 4) := bc1.cell 1
  have c2 : w1.cell? ⟨w.heap.size, 2, none⟩ = some (.int .i64 k) := bc1.cell 2
  have v0 : w1.cell? ⟨w.heap.size + 1, 0, none⟩ = some (.bool false) := bv1.cell 0
  have v1 : w1.cell? ⟨w.heap.size + 1, 1, none⟩ = some (.int .i64 n) := bv1.cell 1
  have v2 : w1.cell? ⟨w.heap.size + 1, 2, none⟩ = some (.string s) := bv1.cell 2
  clear bc bv hb0 hb1 bc1 bv1
  go_wp2_with fail
  refine (CF.out _).mono ?_
  rintro _ w2 ⟨rfl, hb2⟩
  go_wp2
  go_ret2
  exact RetDec.mk_ (by rw [HV.out, HP.out]) (by rw [HV.out, HP.out]) (bst HB.out hb2)
set_option maxRecDepth 100000 in
set_option maxHeartbeats 2000000 in
theorem vf_dec (sc : ByteArray) (k : Int) (cn : Bool) (n : Int) (s : ByteArray) (w : World) (ht : Tab w) (hn : -9223372036854775808 ≤ n ∧ n ≤ 9223372036854775807) (hs : s.size ≤ 9223372036854775807) (hk1 : ¬k < 0) (hk2 : ¬18 < k) (hc : checkV 5 cn false n s = 0) : Calls Tryd.prog 41 #[.agg #[.string sc, .int .i64 5, .int .i64 k, .bool cn], .agg #[.bool false, .int .i64 n, .string s]] w (RetDec w (fmtV 5 k cn false n s)) := by
  have HV := Lib.hid (show fmtV 5 k cn false n s = decV n k by unfold fmtV; rw [if_neg (by omega), if_neg (by rw [hc]; simp), if_neg (by simp), if_neg (by omega), if_neg (by omega), if_pos rfl])
  obtain ⟨B, b, hB1, hB2, hB3⟩ := retDec_ex n k
  have HP := Lib.hid (pair_eq hB1 hB2)
  have CF := Lib.hid (fun X (h : Tab X) => hB3 _ _ _ _ (decfmt_any n k X h))
  have HT := Lib.hid ht
  clear hB1 hB2 hB3 ht
  have CK := Lib.hid (fun X => retN_of hc (vcheck_any sc 5 k cn false n s X hs))
  go_enter Tryd.func41, Tryd.ntmps41
  go_wp2_with fail
  rw [show (w.alloc (.cells #[.string sc, .int .i64 5, .int .i64 k, .bool cn] 47)).alloc (.cells #[.bool false, .int .i64 n, .string s] 33) = BoxW w sc 5 k cn false n s from rfl]
  have hb0 := boxW_below w sc 5 k cn false n s
  have bc := boxW_c w sc 5 k cn false n s
  have bv := boxW_v w sc 5 k cn false n s
  obtain ⟨W, hW⟩ : ∃ W, W = BoxW w sc 5 k cn false n s := ⟨_, rfl⟩
  rw [← hW] at hb0 bc bv ⊢
  clear hW
  refine (CK.out _).mono ?_
  rintro _ w1 ⟨rfl, hb1⟩
  have HB := Lib.hid (bst hb0 hb1)
  have bc1 := bc.below hb1 bc.lt
  have bv1 := bv.below hb1 bv.lt
  have c1 : w1.cell? ⟨w.heap.size, 1, none⟩ = some (.int .i64 5) := bc1.cell 1
  have c2 : w1.cell? ⟨w.heap.size, 2, none⟩ = some (.int .i64 k) := bc1.cell 2
  have v0 : w1.cell? ⟨w.heap.size + 1, 0, none⟩ = some (.bool false) := bv1.cell 0
  have v1 : w1.cell? ⟨w.heap.size + 1, 1, none⟩ = some (.int .i64 n) := bv1.cell 1
  have v2 : w1.cell? ⟨w.heap.size + 1, 2, none⟩ = some (.string s) := bv1.cell 2
  clear bc bv hb0 hb1 bc1 bv1
  go_wp2_with fail
  refine (CF.out _ (HT.out.below HB.out)).mono ?_
  rintro _ w2 ⟨rfl, hb2⟩
  go_wp2
  go_ret2
  exact RetDec.mk_ (by rw [HV.out, HP.out]) (by rw [HV.out, HP.out]) (bst HB.out hb2)
set_option maxRecDepth 100000 in
set_option maxHeartbeats 2000000 in
theorem vf_int (sc : ByteArray) (k : Int) (cn : Bool) (n : Int) (s : ByteArray) (w : World) (ht : Tab w) (hn : -9223372036854775808 ≤ n ∧ n ≤ 9223372036854775807) (hs : s.size ≤ 9223372036854775807) (hc : checkV 1 cn false n s = 0) : Calls Tryd.prog 41 #[.agg #[.string sc, .int .i64 1, .int .i64 k, .bool cn], .agg #[.bool false, .int .i64 n, .string s]] w (RetDec w (fmtV 1 k cn false n s)) := by
  have HV := Lib.hid (show fmtV 1 k cn false n s = (Lib.itoa n, 0) by unfold fmtV; rw [if_neg (by omega), if_neg (by rw [hc]; simp), if_neg (by simp), if_neg (by omega), if_neg (by omega), if_neg (by omega), if_neg (by omega)])
  obtain ⟨D, hD⟩ : ∃ D : ByteArray, D = ⟨(Lib.itoa n).toArray⟩ := ⟨_, rfl⟩
  have HD := Lib.hid (show D.data.toList = Lib.itoa n by rw [hD])
  have CF := Lib.hid (fun X (h : Tab X) => Tryd.strconv_FormatInt_10 n hn.1 hn.2 X h)
  rw [← hD] at CF
  have HT := Lib.hid ht
  clear hD ht
  have CK := Lib.hid (fun X => retN_of hc (vcheck_any sc 1 k cn false n s X hs))
  go_enter Tryd.func41, Tryd.ntmps41
  go_wp2_with fail
  rw [show (w.alloc (.cells #[.string sc, .int .i64 1, .int .i64 k, .bool cn] 47)).alloc (.cells #[.bool false, .int .i64 n, .string s] 33) = BoxW w sc 1 k cn false n s from rfl]
  have hb0 := boxW_below w sc 1 k cn false n s
  have bc := boxW_c w sc 1 k cn false n s
  have bv := boxW_v w sc 1 k cn false n s
  obtain ⟨W, hW⟩ : ∃ W, W = BoxW w sc 1 k cn false n s := ⟨_, rfl⟩
  rw [← hW] at hb0 bc bv ⊢
  clear hW
  refine (CK.out _).mono ?_
  rintro _ w1 ⟨rfl, hb1⟩
  have HB := Lib.hid (bst hb0 hb1)
  have bc1 := bc.below hb1 bc.lt
  have bv1 := bv.below hb1 bv.lt
  have c1 : w1.cell? ⟨w.heap.size, 1, none⟩ = some (.int .i64 1) := bc1.cell 1
  have c2 : w1.cell? ⟨w.heap.size, 2, none⟩ = some (.int .i64 k) := bc1.cell 2
  have v0 : w1.cell? ⟨w.heap.size + 1, 0, none⟩ = some (.bool false) := bv1.cell 0
  have v1 : w1.cell? ⟨w.heap.size + 1, 1, none⟩ = some (.int .i64 n) := bv1.cell 1
  have v2 : w1.cell? ⟨w.heap.size + 1, 2, none⟩ = some (.string s) := bv1.cell 2
  clear bc bv hb0 hb1 bc1 bv1
  go_wp2_with fail
  refine (CF.out _ (HT.out.below HB.out)).mono ?_
  rintro _ w2 ⟨rfl, dk, os, rfl⟩
  have HB2 := Lib.hid (bst HB.out (below_gd w1 dk os))
  obtain ⟨W2, hW2⟩ : ∃ W2, W2 = grow (w1.drewN dk) os := ⟨_, rfl⟩
  rw [← hW2] at HB2 ⊢
  clear hW2
  go_wp2
  go_ret2
  exact RetDec.mk_ (by rw [HV.out, HD.out]) (by rw [HV.out]) HB2.out
end Go.Proofs.YtjnamjkdjcndiaaDoor
