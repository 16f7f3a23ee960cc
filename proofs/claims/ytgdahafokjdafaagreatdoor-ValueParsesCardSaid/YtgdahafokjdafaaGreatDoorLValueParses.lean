/-
  The walk of the law ValueParses.
-/
import Derived.Test.YtgdahafokjdafaaGreatDoorRVPar
import Derived.Test.YtgdahafokjdafaaGreatDoorColumn
import Derived.Test.YtgdahafokjdafaaGreatDoorValPut
import Derived.Test.YtgdahafokjdafaaGreatDoorLL
import Derived.Laws.StructEq
namespace Go.Proofs.YtgdahafokjdafaaGreatDoor
open Go.RowKit Go.Sort
set_option linter.unusedVariables false
theorem app_size19 {u v : ByteArray} {k : Nat} (h : u.size ≤ 19 * k) (hv : v.size ≤ 19) : (u ++ v).size ≤ 19 * (k + 1) := by
  rw [ByteArray.size_append]; omega
theorem vb_ex (r : (Bool × Int × List UInt8) × Int) : ∃ (b : Bool) (n : Int) (S : ByteArray) (x : Int), ∀ (P : Program) (f : FuncId) (args : Array Value) (w : World), Calls P f args w (RetVb w r) → Calls P f args w fun e w' => e = .returned (.tuple #[.agg #[.bool b, .int .i64 n, .string S], .int .i64 x]) ∧ Below w.heap.size w w' :=
  ⟨r.1.1, r.1.2.1, ⟨r.1.2.2.toArray⟩, r.2, fun _ _ _ _ h => h⟩
theorem strq_self (s : ByteArray) : (s.toList == s.toList) = true := by simp
set_option maxRecDepth 100000 in
set_option maxHeartbeats 4000000 in
theorem valueParses_walk (sc : ByteArray) (ct ck : Int) (cn : Bool) (s : ByteArray) (t k : Int) (null : Bool) (v : Value) (zs : List Int) (w : World) (ht : Env w) (hss : s.size ≤ 140737488351232) (hs : Sl w 1 v zs.length (ints8 zs)) (hz : ∀ n ∈ zs, (Lit.int .u8 n).wf = true) :
    Calls Tryz.prog 3 #[.agg #[.string sc, .int .i64 ct, .int .i64 ck, .bool cn], .string s, .int .i64 t, .int .i64 k, .bool null, v] w (RetB1' w true) := by
  obtain ⟨A, c, rfl, hc1, hc2⟩ := hs.form
  unfold maxLen at hc2
  have HZ := Lib.hid hz
  have HC := Lib.hid (fun X => column_any t k null X)
  have HT := Lib.hid ht
  obtain ⟨b1, n1, S1, x1, R1⟩ := vb_ex (vparV ct ck cn s.data.toList)
  have F1 := Lib.hid (fun X (h : Env X) => R1 _ _ _ _ (vpar_any sc ct ck cn s X h hss))
  have G1 := Lib.hid (fun X (h : Env X) => R1 _ _ _ _ (rvpar_any sc ct ck cn s X h hss))
  have bc0 := Blk.new w 23 #[.string sc, .int .i64 ct, .int .i64 ck, .bool cn]
  have hbc0 := below_new w (.cells #[.string sc, .int .i64 ct, .int .i64 ck, .bool cn] 23)
  obtain ⟨W0, hW0⟩ : ∃ W, W = w.alloc (.cells #[.string sc, .int .i64 ct, .int .i64 ck, .bool cn] 23) := ⟨_, rfl⟩
  rw [← hW0] at bc0 hbc0
  obtain ⟨C, hC⟩ : ∃ C, C = w.heap.size := ⟨_, rfl⟩
  rw [← hC] at bc0
  clear R1 hz ht
  go_enter Tryz.func3, Tryz.ntmps3
  go_upto_region 1 with (fail)
  rw [← hW0, ← hC]
  clear hW0 hC
  go_wp2_with fail
  refine (HC.out _).mono ?_
  rintro _ w1 ⟨T, K, rfl, -, hb1⟩
  have hB1 := bst hbc0 hb1
  have bc1 := bc0.below hb1 bc0.lt
  clear hb1 hbc0 bc0 HC
  obtain ⟨b2, n2, S2, x2, R2⟩ := vb_ex (vparV T K null s.data.toList)
  have F3 := Lib.hid (fun X (h : Env X) => R2 _ _ _ _ (vpar_any { data := #[120] } T K null s X h hss))
  have G3 := Lib.hid (fun X (h : Env X) => R2 _ _ _ _ (rvpar_any { data := #[120] } T K null s X h hss))
  clear R2
  go_upto_region 2 with (fail)
  have bd := Blk.new w1 23 #[.string { data := #[120] }, .int .i64 T, .int .i64 K, .bool null]
  have hbn := below_new w1 (.cells #[.string { data := #[120] }, .int .i64 T, .int .i64 K, .bool null] 23)
  obtain ⟨W1, hW1⟩ : ∃ W1, W1 = w1.alloc (.cells #[.string { data := #[120] }, .int .i64 T, .int .i64 K, .bool null] 23) := ⟨_, rfl⟩
  rw [← hW1] at bd hbn ⊢
  obtain ⟨D, hD⟩ : ∃ D, D = w1.heap.size := ⟨_, rfl⟩
  rw [← hD] at bd ⊢
  have HB1 := Lib.hid (bst hB1 hbn)
  have KC := Lib.hid (bc1.below hbn bc1.lt)
  have KD := Lib.hid bd
  clear hbn bc1 hB1 bd hW1 hD
  go_wp2
  go_loopw [14, 15] (fun t i wr => ∃ (k : Nat) (u : ByteArray), k ≤ zs.length ∧ k ≤ 24 ∧ i = .int .i64 k ∧ t = .string u ∧ u.size ≤ 19 * k ∧ Below W1.heap.size W1 wr) (fun _ i _ => 24 - (intOf i).toNat)
  case atStart => exact ⟨0, ⟨#[]⟩, by omega, by omega, rfl, rfl, Nat.le_refl 0, Below.refl _ _⟩
  case round =>
    obtain ⟨k, u, hk, hk24, rfl, rfl, hu, hbel⟩ := hrel
    have HBr := Lib.hid (bst HB1.out hbel)
    by_cases hlt : k < zs.length ∧ k < 24
    · obtain ⟨hlt, hlt2⟩ := hlt
      obtain ⟨ad, y, rfl, hy, hcx⟩ := (hs.below HBr.out).int8_at hlt
      have hw := HZ.out y (List.mem_of_getElem? hy)
      have hx0 : 0 ≤ y := by simp [Lit.wf, IntKind.min, IntKind.max, IntKind.signed, IntKind.bits] at hw; omega
      have hx1 : y ≤ 255 := by simp [Lit.wf, IntKind.min, IntKind.max, IntKind.signed, IntKind.bits] at hw; omega
      have hca := fun o => cell_alloc hcx o
      clear hy hw hcx
      have h8 : y % 14 = 0 ∨ y % 14 = 1 ∨ y % 14 = 2 ∨ y % 14 = 3 ∨ y % 14 = 4 ∨ y % 14 = 5 ∨ y % 14 = 6 ∨ y % 14 = 7 ∨ y % 14 = 8 ∨ y % 14 = 9 ∨ y % 14 = 10 ∨ y % 14 = 11 ∨ y % 14 = 12 ∨ y % 14 = 13 := by omega
      rcases h8 with h8 | h8 | h8 | h8 | h8 | h8 | h8 | h8 | h8 | h8 | h8 | h8 | h8 | h8
      all_goals
        go_wp2
        go_roundw
        case rel => exact ⟨k + 1, _, by omega, by omega, by go_num, rfl, app_size19 hu (by decide), hbel.alloc hbel.size _⟩
        case measure => simp [intOf]; omega
    · have hus : u.size ≤ 140737488351232 := by omega
      obtain ⟨b3, n3, S3, x3, R3⟩ := vb_ex (vparV T K null u.data.toList)
      have F2 := Lib.hid (fun X (h : Env X) => R3 _ _ _ _ (vpar_any { data := #[120] } T K null u X h hus))
      have G2 := Lib.hid (fun X (h : Env X) => R3 _ _ _ _ (rvpar_any { data := #[120] } T K null u X h hus))
      have M0 := Lib.hid (HT.out.below HBr.out)
      have KC0 := Lib.hid (KC.out.below hbel KC.out.lt)
      have KD0 := Lib.hid (KD.out.below hbel KD.out.lt)
      have hor : ¬k < zs.length ∨ (k < zs.length ∧ ¬k < 24) := by omega
      have e1 := strq_self S1
      have e2 := strq_self S2
      have e3 := strq_self S3
      clear R3 hlt hbel hu
      rcases hor with h | ⟨h, h'⟩
      all_goals
        have c0 : wr.cell? ⟨C, 0, none⟩ = some (.string sc) := KC0.out.cell 0
        have c1 : wr.cell? ⟨C, 1, none⟩ = some (.int .i64 ct) := KC0.out.cell 1
        have c2 : wr.cell? ⟨C, 2, none⟩ = some (.int .i64 ck) := KC0.out.cell 2
        have c3 : wr.cell? ⟨C, 3, none⟩ = some (.bool cn) := KC0.out.cell 3
        go_wp2_with fail
        refine (F1.out _ M0.out).mono ?_
        rintro _ y1 ⟨rfl, hq⟩
        clear c0 c1 c2 c3
        go_upto_region 8 with (fail)
        have bN := Blk.new y1 28 #[.bool b1, .int .i64 n1, .string S1]
        have hbn := below_new y1 (.cells #[.bool b1, .int .i64 n1, .string S1] 28)
        obtain ⟨Y1, hY⟩ : ∃ W, W = y1.alloc (.cells #[.bool b1, .int .i64 n1, .string S1] 28) := ⟨_, rfl⟩
        rw [← hY] at bN hbn ⊢
        obtain ⟨V1, hV⟩ : ∃ V, V = y1.heap.size := ⟨_, rfl⟩
        rw [← hV] at bN ⊢
        have hst := bst hq hbn
        have HB_1 := Lib.hid (bst HBr.out hst)
        have M1 := Lib.hid (M0.out.below hst)
        have KC1 := Lib.hid (KC0.out.below hst KC0.out.lt)
        have KD1 := Lib.hid (KD0.out.below hst KD0.out.lt)
        have B1_1 := Lib.hid bN
        clear hst hq hbn bN hY hV
        have c0 : Y1.cell? ⟨C, 0, none⟩ = some (.string sc) := KC1.out.cell 0
        have c1 : Y1.cell? ⟨C, 1, none⟩ = some (.int .i64 ct) := KC1.out.cell 1
        have c2 : Y1.cell? ⟨C, 2, none⟩ = some (.int .i64 ck) := KC1.out.cell 2
        have c3 : Y1.cell? ⟨C, 3, none⟩ = some (.bool cn) := KC1.out.cell 3
        go_wp2_with fail
        refine (G1.out _ M1.out).mono ?_
        rintro _ y2 ⟨rfl, hq⟩
        clear c0 c1 c2 c3
        go_upto_region 9 with (fail)
        have bN := Blk.new y2 28 #[.bool b1, .int .i64 n1, .string S1]
        have hbn := below_new y2 (.cells #[.bool b1, .int .i64 n1, .string S1] 28)
        obtain ⟨Y2, hY⟩ : ∃ W, W = y2.alloc (.cells #[.bool b1, .int .i64 n1, .string S1] 28) := ⟨_, rfl⟩
        rw [← hY] at bN hbn ⊢
        obtain ⟨V2, hV⟩ : ∃ V, V = y2.heap.size := ⟨_, rfl⟩
        rw [← hV] at bN ⊢
        have hst := bst hq hbn
        have HB_2 := Lib.hid (bst HB_1.out hst)
        have M2 := Lib.hid (M1.out.below hst)
        have KC2 := Lib.hid (KC1.out.below hst KC1.out.lt)
        have KD2 := Lib.hid (KD1.out.below hst KD1.out.lt)
        have B1_2 := Lib.hid (B1_1.out.below hst B1_1.out.lt)
        have B2_2 := Lib.hid bN
        clear hst hq hbn bN hY hV
        have c0 : Y2.cell? ⟨D, 0, none⟩ = some (.string { data := #[120] }) := KD2.out.cell 0
        have c1 : Y2.cell? ⟨D, 1, none⟩ = some (.int .i64 T) := KD2.out.cell 1
        have c2 : Y2.cell? ⟨D, 2, none⟩ = some (.int .i64 K) := KD2.out.cell 2
        have c3 : Y2.cell? ⟨D, 3, none⟩ = some (.bool null) := KD2.out.cell 3
        go_wp2_with fail
        refine (F2.out _ M2.out).mono ?_
        rintro _ y3 ⟨rfl, hq⟩
        clear c0 c1 c2 c3
        go_upto_region 10 with (fail)
        have bN := Blk.new y3 28 #[.bool b3, .int .i64 n3, .string S3]
        have hbn := below_new y3 (.cells #[.bool b3, .int .i64 n3, .string S3] 28)
        obtain ⟨Y3, hY⟩ : ∃ W, W = y3.alloc (.cells #[.bool b3, .int .i64 n3, .string S3] 28) := ⟨_, rfl⟩
        rw [← hY] at bN hbn ⊢
        obtain ⟨V3, hV⟩ : ∃ V, V = y3.heap.size := ⟨_, rfl⟩
        rw [← hV] at bN ⊢
        have hst := bst hq hbn
        have HB_3 := Lib.hid (bst HB_2.out hst)
        have M3 := Lib.hid (M2.out.below hst)
        have KC3 := Lib.hid (KC2.out.below hst KC2.out.lt)
        have KD3 := Lib.hid (KD2.out.below hst KD2.out.lt)
        have B1_3 := Lib.hid (B1_2.out.below hst B1_2.out.lt)
        have B2_3 := Lib.hid (B2_2.out.below hst B2_2.out.lt)
        have B3_3 := Lib.hid bN
        clear hst hq hbn bN hY hV
        have c0 : Y3.cell? ⟨D, 0, none⟩ = some (.string { data := #[120] }) := KD3.out.cell 0
        have c1 : Y3.cell? ⟨D, 1, none⟩ = some (.int .i64 T) := KD3.out.cell 1
        have c2 : Y3.cell? ⟨D, 2, none⟩ = some (.int .i64 K) := KD3.out.cell 2
        have c3 : Y3.cell? ⟨D, 3, none⟩ = some (.bool null) := KD3.out.cell 3
        go_wp2_with fail
        refine (G2.out _ M3.out).mono ?_
        rintro _ y4 ⟨rfl, hq⟩
        clear c0 c1 c2 c3
        go_upto_region 11 with (fail)
        have bN := Blk.new y4 28 #[.bool b3, .int .i64 n3, .string S3]
        have hbn := below_new y4 (.cells #[.bool b3, .int .i64 n3, .string S3] 28)
        obtain ⟨Y4, hY⟩ : ∃ W, W = y4.alloc (.cells #[.bool b3, .int .i64 n3, .string S3] 28) := ⟨_, rfl⟩
        rw [← hY] at bN hbn ⊢
        obtain ⟨V4, hV⟩ : ∃ V, V = y4.heap.size := ⟨_, rfl⟩
        rw [← hV] at bN ⊢
        have hst := bst hq hbn
        have HB_4 := Lib.hid (bst HB_3.out hst)
        have M4 := Lib.hid (M3.out.below hst)
        have KC4 := Lib.hid (KC3.out.below hst KC3.out.lt)
        have KD4 := Lib.hid (KD3.out.below hst KD3.out.lt)
        have B1_4 := Lib.hid (B1_3.out.below hst B1_3.out.lt)
        have B2_4 := Lib.hid (B2_3.out.below hst B2_3.out.lt)
        have B3_4 := Lib.hid (B3_3.out.below hst B3_3.out.lt)
        have B4_4 := Lib.hid bN
        clear hst hq hbn bN hY hV
        have c0 : Y4.cell? ⟨D, 0, none⟩ = some (.string { data := #[120] }) := KD4.out.cell 0
        have c1 : Y4.cell? ⟨D, 1, none⟩ = some (.int .i64 T) := KD4.out.cell 1
        have c2 : Y4.cell? ⟨D, 2, none⟩ = some (.int .i64 K) := KD4.out.cell 2
        have c3 : Y4.cell? ⟨D, 3, none⟩ = some (.bool null) := KD4.out.cell 3
        go_wp2_with fail
        refine (F3.out _ M4.out).mono ?_
        rintro _ y5 ⟨rfl, hq⟩
        clear c0 c1 c2 c3
        go_upto_region 12 with (fail)
        have bN := Blk.new y5 28 #[.bool b2, .int .i64 n2, .string S2]
        have hbn := below_new y5 (.cells #[.bool b2, .int .i64 n2, .string S2] 28)
        obtain ⟨Y5, hY⟩ : ∃ W, W = y5.alloc (.cells #[.bool b2, .int .i64 n2, .string S2] 28) := ⟨_, rfl⟩
        rw [← hY] at bN hbn ⊢
        obtain ⟨V5, hV⟩ : ∃ V, V = y5.heap.size := ⟨_, rfl⟩
        rw [← hV] at bN ⊢
        have hst := bst hq hbn
        have HB_5 := Lib.hid (bst HB_4.out hst)
        have M5 := Lib.hid (M4.out.below hst)
        have KC5 := Lib.hid (KC4.out.below hst KC4.out.lt)
        have KD5 := Lib.hid (KD4.out.below hst KD4.out.lt)
        have B1_5 := Lib.hid (B1_4.out.below hst B1_4.out.lt)
        have B2_5 := Lib.hid (B2_4.out.below hst B2_4.out.lt)
        have B3_5 := Lib.hid (B3_4.out.below hst B3_4.out.lt)
        have B4_5 := Lib.hid (B4_4.out.below hst B4_4.out.lt)
        have B5_5 := Lib.hid bN
        clear hst hq hbn bN hY hV
        have c0 : Y5.cell? ⟨D, 0, none⟩ = some (.string { data := #[120] }) := KD5.out.cell 0
        have c1 : Y5.cell? ⟨D, 1, none⟩ = some (.int .i64 T) := KD5.out.cell 1
        have c2 : Y5.cell? ⟨D, 2, none⟩ = some (.int .i64 K) := KD5.out.cell 2
        have c3 : Y5.cell? ⟨D, 3, none⟩ = some (.bool null) := KD5.out.cell 3
        go_wp2_with fail
        refine (G3.out _ M5.out).mono ?_
        rintro _ y6 ⟨rfl, hq⟩
        clear c0 c1 c2 c3
        go_upto_region 13 with (fail)
        have bN := Blk.new y6 28 #[.bool b2, .int .i64 n2, .string S2]
        have hbn := below_new y6 (.cells #[.bool b2, .int .i64 n2, .string S2] 28)
        obtain ⟨Y6, hY⟩ : ∃ W, W = y6.alloc (.cells #[.bool b2, .int .i64 n2, .string S2] 28) := ⟨_, rfl⟩
        rw [← hY] at bN hbn ⊢
        obtain ⟨V6, hV⟩ : ∃ V, V = y6.heap.size := ⟨_, rfl⟩
        rw [← hV] at bN ⊢
        have hst := bst hq hbn
        have HB_6 := Lib.hid (bst HB_5.out hst)
        have M6 := Lib.hid (M5.out.below hst)
        have KC6 := Lib.hid (KC5.out.below hst KC5.out.lt)
        have KD6 := Lib.hid (KD5.out.below hst KD5.out.lt)
        have B1_6 := Lib.hid (B1_5.out.below hst B1_5.out.lt)
        have B2_6 := Lib.hid (B2_5.out.below hst B2_5.out.lt)
        have B3_6 := Lib.hid (B3_5.out.below hst B3_5.out.lt)
        have B4_6 := Lib.hid (B4_5.out.below hst B4_5.out.lt)
        have B5_6 := Lib.hid (B5_5.out.below hst B5_5.out.lt)
        have B6_6 := Lib.hid bN
        clear hst hq hbn bN hY hV
        go_wp2_with fail
        refine (awake6_any _).mono ?_
        rintro _ z ⟨rfl, hq⟩
        have HBz := Lib.hid (bst HB_6.out hq)
        have Bz1 := B1_6.out.below hq B1_6.out.lt
        have z10 : z.cell? ⟨V1, 0, none⟩ = some (.bool b1) := Bz1.cell 0
        have z11 : z.cell? ⟨V1, 1, none⟩ = some (.int .i64 n1) := Bz1.cell 1
        have z12 : z.cell? ⟨V1, 2, none⟩ = some (.string S1) := Bz1.cell 2
        have Bz2 := B2_6.out.below hq B2_6.out.lt
        have z20 : z.cell? ⟨V2, 0, none⟩ = some (.bool b1) := Bz2.cell 0
        have z21 : z.cell? ⟨V2, 1, none⟩ = some (.int .i64 n1) := Bz2.cell 1
        have z22 : z.cell? ⟨V2, 2, none⟩ = some (.string S1) := Bz2.cell 2
        have Bz3 := B3_6.out.below hq B3_6.out.lt
        have z30 : z.cell? ⟨V3, 0, none⟩ = some (.bool b3) := Bz3.cell 0
        have z31 : z.cell? ⟨V3, 1, none⟩ = some (.int .i64 n3) := Bz3.cell 1
        have z32 : z.cell? ⟨V3, 2, none⟩ = some (.string S3) := Bz3.cell 2
        have Bz4 := B4_6.out.below hq B4_6.out.lt
        have z40 : z.cell? ⟨V4, 0, none⟩ = some (.bool b3) := Bz4.cell 0
        have z41 : z.cell? ⟨V4, 1, none⟩ = some (.int .i64 n3) := Bz4.cell 1
        have z42 : z.cell? ⟨V4, 2, none⟩ = some (.string S3) := Bz4.cell 2
        have Bz5 := B5_6.out.below hq B5_6.out.lt
        have z50 : z.cell? ⟨V5, 0, none⟩ = some (.bool b2) := Bz5.cell 0
        have z51 : z.cell? ⟨V5, 1, none⟩ = some (.int .i64 n2) := Bz5.cell 1
        have z52 : z.cell? ⟨V5, 2, none⟩ = some (.string S2) := Bz5.cell 2
        have Bz6 := B6_6.out.below hq B6_6.out.lt
        have z60 : z.cell? ⟨V6, 0, none⟩ = some (.bool b2) := Bz6.cell 0
        have z61 : z.cell? ⟨V6, 1, none⟩ = some (.int .i64 n2) := Bz6.cell 1
        have z62 : z.cell? ⟨V6, 2, none⟩ = some (.string S2) := Bz6.cell 2
        clear hq Bz1 Bz2 Bz3 Bz4 Bz5 Bz6
        go_wp2
        go_ret
        exact ⟨by simp, HBz.out⟩
end Go.Proofs.YtgdahafokjdafaaGreatDoor
