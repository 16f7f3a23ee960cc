/-
  The contract of ref6.ReadColumn.
-/
import Derived.Test.YtojfhlppiicpbaaDoorRWords
import Derived.Test.YtojfhlppiicpbaaDoorRReadNum
namespace Go.Proofs.YtojfhlppiicpbaaDoor
open Go.RowKit Go.Sort
set_option linter.unusedVariables false
theorem tyN_dec {b : List UInt8} : tyN b = 5 ↔ b = decW := by
  constructor
  · intro h
    unfold tyN at h
    split at h
    · cases h
    · split at h
      · cases h
      · split at h
        · cases h
        · split at h
          · cases h
          · split at h
            · rename_i e; exact e
            · cases h
  · rintro rfl; decide
theorem tyN_rest {b : List UInt8} (h1 : b ≠ tyW 1) (h2 : b ≠ tyW 2) (h3 : b ≠ tyW 3) (h4 : b ≠ tyW 4) : tyN b = 0 ∨ tyN b = 5 := by
  unfold tyN; rw [if_neg h1, if_neg h2, if_neg h3, if_neg h4]
  split <;> simp
theorem sca_long {k : List UInt8} (h : 2 < k.length) : scaV k = none := by unfold scaV; rw [if_neg (by omega)]
theorem nu_one {x : List UInt8} (h : x ≠ nullW) : nuV [x] = none := by simp only [nuV, if_neg h]
theorem col_three {a b x : List UInt8} (hx : x ≠ nullW) (h : b ≠ decW ∨ 2 < x.length) : colV [a, b, x] = none := by
  by_cases h0 : tyN b = 0
  · exact col_zero h0
  · by_cases h5 : tyN b = 5
    · rcases h with h | h
      · exact absurd (tyN_dec.1 h5) h
      · exact col_decno h5 (sca_long h)
    · exact col_midno h0 h5 (nu_one hx)
theorem col_four {a b x y : List UInt8} {q : List (List UInt8)} (h : (a :: b :: x :: y :: q).getLast? ≠ some nullW) : colV (a :: b :: x :: y :: q) = none := by
  by_cases h0 : tyN b = 0
  · exact col_zero h0
  · by_cases h5 : tyN b = 5
    · cases hs : scaV x with
      | none => exact col_decno h5 hs
      | some n =>
        refine col_decno2 h5 hs ?_
        match q, h with
        | [], h => exact nu_one (fun e => h (by rw [e]; rfl))
        | z :: q, h => rfl
    · exact col_midno h0 h5 rfl
theorem col_two {a b : List UInt8} (h1 : b ≠ tyW 1) (h2 : b ≠ tyW 2) (h3 : b ≠ tyW 3) (h4 : b ≠ tyW 4) : colV [a, b] = none := by
  rcases tyN_rest h1 h2 h3 h4 with h | h
  · exact col_zero h
  · exact col_dec0 h
theorem col_ty {a : List UInt8} {t : Int} (h1 : 1 ≤ t) (h4 : t ≤ 4) : colV [a, tyW t] = some ⟨mkS a, t, 0, false⟩ := by
  have := col_mid (a := a) (b := tyW t) (r := []) (u := false) (by rw [tyN_W h1 (by omega)]; omega) (by rw [tyN_W h1 (by omega)]; omega) rfl
  rw [this, tyN_W h1 (by omega)]
theorem last_app {W : List (List UInt8)} (h : W.getLast? = some nullW) : ∃ V, W = V ++ [nullW] := by
  obtain ⟨V, hV⟩ := List.getLast?_eq_some_iff.1 h
  exact ⟨V, hV⟩
theorem blk4_1 {w : World} {A : Nat} {T : TypeId} {x y z u : Value} (d : Value) (h : Blk w A T #[x, y, z, u]) : Blk (w.setCell ⟨A, 1, none⟩ d) A T #[x, d, z, u] := h.set_ 1 d
theorem RetCl.at_ {w w' : World} {r : Option Col} {nm : ByteArray} {ty sc : Int} {nu b : Bool} (h1 : b = true → r = some ⟨nm, ty, sc, nu⟩) (h2 : b = false → r = none) (hb : Below w.heap.size w w') : RetCl w r (.returned (.tuple #[.agg #[.string nm, .int .i64 ty, .int .i64 sc, .bool nu], .bool b])) w' := ⟨⟨nm, ty, sc, nu⟩, b, rfl, h1, h2, hb⟩
set_option maxRecDepth 100000 in
set_option maxHeartbeats 8000000 in
theorem rcol_any : ∀ (n : Nat) (W : List (List UInt8)) (g c : Nat) (w : World), W.length = n → RowAt w g W → W.length ≤ c → c ≤ maxLen → n ≤ 1000000 → (∀ x ∈ W, x.length ≤ 1000000) →
    Calls Tryd.prog 36 #[.slice (some ⟨g, 0, none⟩) W.length c] w (RetCl w (colV W)) := by
  intro n
  induction n with
  | zero =>
    intro W g c w hn hrow hc hcm hn1 hx
    obtain rfl := List.eq_nil_of_length_eq_zero hn
    have HO := Lib.hid (show colV [] = none from rfl)
    have hbR0 := below_new w (.cells #[.string { data := #[] }, .int .i64 0, .int .i64 0, .bool false] 41)
    have bR0 := Blk.new w 41 #[.string { data := #[] }, .int .i64 0, .int .i64 0, .bool false]
    obtain ⟨W0, hW0⟩ : ∃ X, X = w.alloc (.cells #[.string { data := #[] }, .int .i64 0, .int .i64 0, .bool false] 41) := ⟨_, rfl⟩
    rw [← hW0] at hbR0 bR0
    obtain ⟨R, hR⟩ : ∃ R, R = w.heap.size := ⟨_, rfl⟩
    rw [← hR] at bR0
    have hRw : w.heap.size ≤ R := by omega
    have HBR := Lib.hid bR0
    have HBL := Lib.hid hbR0
    have HW0 := Lib.hid hW0
    have HR := Lib.hid hR
    clear hbR0 bR0 hW0 hR
    unfold maxLen at hcm
    clear hn hx hrow
    go_enter Tryd.func36, Tryd.ntmps36
    go_upto_region 1 with (fail)
    rw [← HW0.out, ← HR.out]
    have R0 : W0.cell? ⟨R, 0, none⟩ = some (.string { data := #[] }) := HBR.out.cell 0
    have f0 := HBR.out.frozen 0
    have R1 : W0.cell? ⟨R, 1, none⟩ = some (.int .i64 0) := HBR.out.cell 1
    have f1 := HBR.out.frozen 1
    have R2 : W0.cell? ⟨R, 2, none⟩ = some (.int .i64 0) := HBR.out.cell 2
    have f2 := HBR.out.frozen 2
    have R3 : W0.cell? ⟨R, 3, none⟩ = some (.bool false) := HBR.out.cell 3
    have f3 := HBR.out.frozen 3
    go_wp2
    have b4 := blk4C (.string { data := #[] }) (.int .i64 0) (.int .i64 0) (.bool false) HBR.out
    have q0 : _ = some (Value.string { data := #[] }) := b4.cell 0
    have q1 : _ = some (Value.int .i64 0) := b4.cell 1
    have q2 : _ = some (Value.int .i64 0) := b4.cell 2
    have q3 : _ = some (Value.bool false) := b4.cell 3
    exact bodyPost_ret (v := .tuple #[.agg #[.string { data := #[] }, .int .i64 0, .int .i64 0, .bool false], .bool false]) (by simp [results, Tryd.results36, go_sem, q0, q1, q2, q3]) rfl (RetCl.no HO.out (below4C _ _ _ _ HBL.out hRw))
  | succ n ih =>
    intro W g c w hn hrow hc hcm hn1 hx
    have hbR0 := below_new w (.cells #[.string { data := #[] }, .int .i64 0, .int .i64 0, .bool false] 41)
    have bR0 := Blk.new w 41 #[.string { data := #[] }, .int .i64 0, .int .i64 0, .bool false]
    obtain ⟨W0, hW0⟩ : ∃ X, X = w.alloc (.cells #[.string { data := #[] }, .int .i64 0, .int .i64 0, .bool false] 41) := ⟨_, rfl⟩
    rw [← hW0] at hbR0 bR0
    obtain ⟨R, hR⟩ : ∃ R, R = w.heap.size := ⟨_, rfl⟩
    rw [← hR] at bR0
    have hRw : w.heap.size ≤ R := by omega
    have HBR := Lib.hid bR0
    have HBL := Lib.hid hbR0
    have HW0 := Lib.hid hW0
    have HR := Lib.hid hR
    clear hbR0 bR0 hW0 hR
    have HROW := Lib.hid (hrow.below HBL.out)
    have HIH := Lib.hid ih
    have HX := Lib.hid hx
    unfold maxLen at hcm
    clear hrow ih hx
    by_cases hnull : 2 < W.length ∧ W.getLast? = some nullW
    case pos =>
      obtain ⟨hlen, hl⟩ := hnull
      obtain ⟨V, rfl⟩ := last_app hl
      rw [List.length_append, List.length_singleton] at hn hlen hc ⊢
      obtain rfl : V.length = n := by omega
      have HCV := Lib.hid (colV_null (V := V) (by omega))
      have HC := Lib.hid (HIH.out V g c W0 rfl ⟨HROW.out.1, fun i x hi => HROW.out.2 i x (by rw [List.getElem?_append_left (List.getElem?_eq_some_iff.1 hi).1]; exact hi)⟩ (by omega) (by unfold maxLen; omega) (by omega) (fun x hx => HX.out x (by simp [hx])))
      have k0 : W0.cell? ⟨g, V.length, none⟩ = some (.string (mkS nullW)) := HROW.out.2 V.length nullW (by simp)
      have k2 : ((mkS nullW).toList == [110, 117, 108, 108]) = true := by rw [Go.ByteArray.toList_eq]; rfl
      have l1 : (2 : Int) < (V.length : Int) + 1 := by omega
      have l2 : (V.length : Int) + 1 - 1 = V.length := by omega
      have l3 : (V.length : Int) ≤ c := by omega
      clear hl hn hlen
      go_enter Tryd.func36, Tryd.ntmps36
      go_upto_region 1 with (fail)
      rw [← HW0.out, ← HR.out]
      go_wp2_with fail
      refine HC.out.mono ?_
      rintro _ X1 ⟨cc, ok, rfl, hy, hn, hb1⟩
      have HBR1 := Lib.hid (HBR.out.below hb1 HBR.out.lt)
      have HBL1 := Lib.hid (bst HBL.out hb1)
      have HY := Lib.hid hy
      have HN := Lib.hid hn
      clear hy hn hb1 k0 k2 HC
      go_upto_region 3 with (fail)
      have hb2 := below_new X1 (.cells #[.string cc.nm, .int .i64 cc.ty, .int .i64 cc.sc, .bool cc.nu] 41)
      have bB := Blk.new X1 41 #[.string cc.nm, .int .i64 cc.ty, .int .i64 cc.sc, .bool cc.nu]
      obtain ⟨X2, hX2⟩ : ∃ X, X = X1.alloc (.cells #[.string cc.nm, .int .i64 cc.ty, .int .i64 cc.sc, .bool cc.nu] 41) := ⟨_, rfl⟩
      rw [← hX2] at hb2 bB ⊢
      obtain ⟨Bk, hBk⟩ : ∃ g, g = X1.heap.size := ⟨_, rfl⟩
      have hBR : R ≠ Bk := by have := HBR1.out.lt; omega
      have hwB : w.heap.size ≤ Bk := by have := HBL1.out.size; omega
      rw [← hBk] at bB ⊢
      have HBB := Lib.hid bB
      have HBR2 := Lib.hid (HBR1.out.below hb2 HBR1.out.lt)
      have HBL2 := Lib.hid (bst HBL1.out hb2)
      clear hb2 bB hX2 hBk HBR1 HBL1
      obtain ⟨nm, ty, sc, nu⟩ := cc
      simp only at HBB HY HN ⊢
      have n3 : X2.cell? ⟨Bk, 3, none⟩ = some (.bool nu) := HBB.out.cell 3
      have hf3 := HBB.out.frozen 3
      cases nu with
      | true =>
        have HO := Lib.hid (show colV (V ++ [nullW]) = none by
          rw [HCV.out]
          cases ok with
          | true => rw [HY.out rfl]; rfl
          | false => rw [HN.out rfl])
        have R0 : X2.cell? ⟨R, 0, none⟩ = some (.string { data := #[] }) := HBR2.out.cell 0
        have f0 := HBR2.out.frozen 0
        have R1 : X2.cell? ⟨R, 1, none⟩ = some (.int .i64 0) := HBR2.out.cell 1
        have f1 := HBR2.out.frozen 1
        have R2 : X2.cell? ⟨R, 2, none⟩ = some (.int .i64 0) := HBR2.out.cell 2
        have f2 := HBR2.out.frozen 2
        have R3 : X2.cell? ⟨R, 3, none⟩ = some (.bool false) := HBR2.out.cell 3
        have f3 := HBR2.out.frozen 3
        go_wp2
        have b4 := blk4C (.string { data := #[] }) (.int .i64 0) (.int .i64 0) (.bool false) HBR2.out
        have q0 : _ = some (Value.string { data := #[] }) := b4.cell 0
        have q1 : _ = some (Value.int .i64 0) := b4.cell 1
        have q2 : _ = some (Value.int .i64 0) := b4.cell 2
        have q3 : _ = some (Value.bool false) := b4.cell 3
        exact bodyPost_ret (v := .tuple #[.agg #[.string { data := #[] }, .int .i64 0, .int .i64 0, .bool false], .bool false]) (by simp [results, Tryd.results36, go_sem, q0, q1, q2, q3]) rfl (RetCl.no HO.out (below4C _ _ _ _ HBL2.out hRw))
      | false =>
        have HO1 := Lib.hid (fun (h : ok = true) => (show colV (V ++ [nullW]) = some ⟨nm, ty, sc, true⟩ by rw [HCV.out, HY.out h]; rfl))
        have HO2 := Lib.hid (fun (h : ok = false) => (show colV (V ++ [nullW]) = none by rw [HCV.out, HN.out h]))
        go_upto_region 6 with (fail)
        have bB3 := blkS3 (.bool true) HBB.out
        have bR3 := farC 3 (.bool true) hBR HBR2.out
        have bL3 := HBL2.out.setCell (p := ⟨Bk, 3, none⟩) hwB (.bool true)
        obtain ⟨X3, hX3⟩ : ∃ X, X = X2.setCell ⟨Bk, 3, none⟩ (.bool true) := ⟨_, rfl⟩
        rw [← hX3] at bB3 bR3 bL3 ⊢
        have HBR3 := Lib.hid bR3
        have HBL3 := Lib.hid bL3
        clear n3 hf3 hX3 bR3 bL3 HBR2 HBL2
        have n0 : X3.cell? ⟨Bk, 0, none⟩ = some (.string nm) := bB3.cell 0
        have n1 : X3.cell? ⟨Bk, 1, none⟩ = some (.int .i64 ty) := bB3.cell 1
        have n2 : X3.cell? ⟨Bk, 2, none⟩ = some (.int .i64 sc) := bB3.cell 2
        have n3 : X3.cell? ⟨Bk, 3, none⟩ = some (.bool true) := bB3.cell 3
        have R0 : X3.cell? ⟨R, 0, none⟩ = some (.string { data := #[] }) := HBR3.out.cell 0
        have f0 := HBR3.out.frozen 0
        have R1 : X3.cell? ⟨R, 1, none⟩ = some (.int .i64 0) := HBR3.out.cell 1
        have f1 := HBR3.out.frozen 1
        have R2 : X3.cell? ⟨R, 2, none⟩ = some (.int .i64 0) := HBR3.out.cell 2
        have f2 := HBR3.out.frozen 2
        have R3 : X3.cell? ⟨R, 3, none⟩ = some (.bool false) := HBR3.out.cell 3
        have f3 := HBR3.out.frozen 3
        go_wp2
        have b4 := blk4C (.string nm) (.int .i64 ty) (.int .i64 sc) (.bool true) HBR3.out
        have q0 : _ = some (Value.string nm) := b4.cell 0
        have q1 : _ = some (Value.int .i64 ty) := b4.cell 1
        have q2 : _ = some (Value.int .i64 sc) := b4.cell 2
        have q3 : _ = some (Value.bool true) := b4.cell 3
        exact bodyPost_ret (v := .tuple #[.agg #[.string nm, .int .i64 ty, .int .i64 sc, .bool true], .bool ok]) (by simp [results, Tryd.results36, go_sem, q0, q1, q2, q3] <;> omega) rfl (RetCl.at_ HO1.out HO2.out (below4C _ _ _ _ HBL3.out hRw))
    case neg =>
      match W, hn with
      | [a], hn =>
        have HO := Lib.hid (show colV [a] = none from rfl)
        obtain rfl : n = 0 := by simpa using hn.symm
        clear hnull hn
        go_enter Tryd.func36, Tryd.ntmps36
        go_upto_region 1 with (fail)
        rw [← HW0.out, ← HR.out]
        have R0 : W0.cell? ⟨R, 0, none⟩ = some (.string { data := #[] }) := HBR.out.cell 0
        have f0 := HBR.out.frozen 0
        have R1 : W0.cell? ⟨R, 1, none⟩ = some (.int .i64 0) := HBR.out.cell 1
        have f1 := HBR.out.frozen 1
        have R2 : W0.cell? ⟨R, 2, none⟩ = some (.int .i64 0) := HBR.out.cell 2
        have f2 := HBR.out.frozen 2
        have R3 : W0.cell? ⟨R, 3, none⟩ = some (.bool false) := HBR.out.cell 3
        have f3 := HBR.out.frozen 3
        go_wp2
        have b4 := blk4C (.string { data := #[] }) (.int .i64 0) (.int .i64 0) (.bool false) HBR.out
        have q0 : _ = some (Value.string { data := #[] }) := b4.cell 0
        have q1 : _ = some (Value.int .i64 0) := b4.cell 1
        have q2 : _ = some (Value.int .i64 0) := b4.cell 2
        have q3 : _ = some (Value.bool false) := b4.cell 3
        exact bodyPost_ret (v := .tuple #[.agg #[.string { data := #[] }, .int .i64 0, .int .i64 0, .bool false], .bool false]) (by simp [results, Tryd.results36, go_sem, q0, q1, q2, q3]) rfl (RetCl.no HO.out (below4C _ _ _ _ HBL.out hRw))
      | [a, b], hn =>
        have k0 : W0.cell? ⟨g, 0, none⟩ = some (.string (mkS a)) := HROW.out.2 0 a rfl
        have k1 : W0.cell? ⟨g, 1, none⟩ = some (.string (mkS b)) := HROW.out.2 1 b rfl
        clear hnull hn
        by_cases e1 : b = tyW 1
        case pos =>
          subst e1
          have v1 : ((mkS (tyW 1)).toList == [105, 110, 116]) = true := by rw [Go.ByteArray.toList_eq]; rfl
          have HO := Lib.hid (col_ty (a := a) (t := 1) (by omega) (by omega))
          go_enter Tryd.func36, Tryd.ntmps36
          go_upto_region 1 with (fail)
          rw [← HW0.out, ← HR.out]
          go_upto_region 13 with (fail)
          have hb2 := below_new W0 (.cells #[.string (mkS a), .int .i64 0, .int .i64 0, .bool false] 41)
          have bB := Blk.new W0 41 #[.string (mkS a), .int .i64 0, .int .i64 0, .bool false]
          obtain ⟨X2, hX2⟩ : ∃ X, X = W0.alloc (.cells #[.string (mkS a), .int .i64 0, .int .i64 0, .bool false] 41) := ⟨_, rfl⟩
          rw [← hX2] at hb2 bB ⊢
          obtain ⟨Bk, hBk⟩ : ∃ g, g = W0.heap.size := ⟨_, rfl⟩
          have hBR : R ≠ Bk := by have := HBR.out.lt; omega
          have hwB : w.heap.size ≤ Bk := by have := HBL.out.size; omega
          rw [← hBk] at bB ⊢
          have HBB := Lib.hid bB
          have HBR2 := Lib.hid (HBR.out.below hb2 HBR.out.lt)
          have HBL2 := Lib.hid (bst HBL.out hb2)
          have k1' : X2.cell? ⟨g, 1, none⟩ = some (.string (mkS (tyW 1))) := (hb2.cell (p := ⟨g, 1, none⟩) HROW.out.1).trans k1
          clear hb2 bB hX2 hBk k0 k1
          have n1 : X2.cell? ⟨Bk, 1, none⟩ = some (.int .i64 0) := HBB.out.cell 1
          have hf1 := HBB.out.frozen 1
          go_upto_region 22 with (fail)
          have bB3 := blk4_1 (.int .i64 1) HBB.out
          have bR3 := farC 1 (.int .i64 1) hBR HBR2.out
          have bL3 := HBL2.out.setCell (p := ⟨Bk, 1, none⟩) hwB (.int .i64 1)
          obtain ⟨X3, hX3⟩ : ∃ X, X = X2.setCell ⟨Bk, 1, none⟩ (.int .i64 1) := ⟨_, rfl⟩
          rw [← hX3] at bB3 bR3 bL3 ⊢
          clear n1 hf1 hX3 k1'
          have x0 : X3.cell? ⟨Bk, 0, none⟩ = some (.string (mkS a)) := bB3.cell 0
          have x1 : X3.cell? ⟨Bk, 1, none⟩ = some (.int .i64 1) := bB3.cell 1
          have x2 : X3.cell? ⟨Bk, 2, none⟩ = some (.int .i64 0) := bB3.cell 2
          have x3 : X3.cell? ⟨Bk, 3, none⟩ = some (.bool false) := bB3.cell 3
          have R0 : X3.cell? ⟨R, 0, none⟩ = some (.string { data := #[] }) := bR3.cell 0
          have f0 := bR3.frozen 0
          have R1 : X3.cell? ⟨R, 1, none⟩ = some (.int .i64 0) := bR3.cell 1
          have f1 := bR3.frozen 1
          have R2 : X3.cell? ⟨R, 2, none⟩ = some (.int .i64 0) := bR3.cell 2
          have f2 := bR3.frozen 2
          have R3 : X3.cell? ⟨R, 3, none⟩ = some (.bool false) := bR3.cell 3
          have f3 := bR3.frozen 3
          have HBR3 := Lib.hid bR3
          have HBL3 := Lib.hid bL3
          clear bB3 bR3 bL3
          go_region
          all_goals
            go_wp2
            obtain ⟨Y, hY⟩ : ∃ Y, Y = ((((X3.setCell ⟨R, 0, none⟩ (.string (mkS a))).setCell ⟨R, 1, none⟩ (.int .i64 1)).setCell ⟨R, 2, none⟩ (.int .i64 0)).setCell ⟨R, 3, none⟩ (.bool false)).drew := ⟨_, rfl⟩
            rw [← hY]
            have b4 : Blk Y R 41 #[.string (mkS a), .int .i64 1, .int .i64 0, .bool false] := by rw [hY]; exact blk4C _ _ _ _ HBR3.out
            have bw : Below w.heap.size w Y := by rw [hY]; exact (below4C _ _ _ _ HBL3.out hRw).drew
            clear hY
            have p0 : Y.cell? ⟨R, 0, none⟩ = some (.string (mkS a)) := b4.cell 0
            have p1 : Y.cell? ⟨R, 1, none⟩ = some (.int .i64 1) := b4.cell 1
            have p2 : Y.cell? ⟨R, 2, none⟩ = some (.int .i64 0) := b4.cell 2
            have p3 : Y.cell? ⟨R, 3, none⟩ = some (.bool false) := b4.cell 3
            exact bodyPost_ret (v := .tuple #[.agg #[.string (mkS a), .int .i64 1, .int .i64 0, .bool false], .bool true]) (by simp [results, Tryd.results36, go_sem, p0, p1, p2, p3]) rfl (RetCl.yes HO.out bw)
        by_cases e2 : b = tyW 2
        case pos =>
          clear e1
          subst e2
          have v1 : ((mkS (tyW 2)).toList == [105, 110, 116]) = false := by rw [Go.ByteArray.toList_eq]; rfl
          have v2 : ((mkS (tyW 2)).toList == [98, 111, 111, 108]) = true := by rw [Go.ByteArray.toList_eq]; rfl
          have HO := Lib.hid (col_ty (a := a) (t := 2) (by omega) (by omega))
          go_enter Tryd.func36, Tryd.ntmps36
          go_upto_region 1 with (fail)
          rw [← HW0.out, ← HR.out]
          go_upto_region 13 with (fail)
          have hb2 := below_new W0 (.cells #[.string (mkS a), .int .i64 0, .int .i64 0, .bool false] 41)
          have bB := Blk.new W0 41 #[.string (mkS a), .int .i64 0, .int .i64 0, .bool false]
          obtain ⟨X2, hX2⟩ : ∃ X, X = W0.alloc (.cells #[.string (mkS a), .int .i64 0, .int .i64 0, .bool false] 41) := ⟨_, rfl⟩
          rw [← hX2] at hb2 bB ⊢
          obtain ⟨Bk, hBk⟩ : ∃ g, g = W0.heap.size := ⟨_, rfl⟩
          have hBR : R ≠ Bk := by have := HBR.out.lt; omega
          have hwB : w.heap.size ≤ Bk := by have := HBL.out.size; omega
          rw [← hBk] at bB ⊢
          have HBB := Lib.hid bB
          have HBR2 := Lib.hid (HBR.out.below hb2 HBR.out.lt)
          have HBL2 := Lib.hid (bst HBL.out hb2)
          have k1' : X2.cell? ⟨g, 1, none⟩ = some (.string (mkS (tyW 2))) := (hb2.cell (p := ⟨g, 1, none⟩) HROW.out.1).trans k1
          clear hb2 bB hX2 hBk k0 k1
          have n1 : X2.cell? ⟨Bk, 1, none⟩ = some (.int .i64 0) := HBB.out.cell 1
          have hf1 := HBB.out.frozen 1
          go_upto_region 22 with (fail)
          have bB3 := blk4_1 (.int .i64 2) HBB.out
          have bR3 := farC 1 (.int .i64 2) hBR HBR2.out
          have bL3 := HBL2.out.setCell (p := ⟨Bk, 1, none⟩) hwB (.int .i64 2)
          obtain ⟨X3, hX3⟩ : ∃ X, X = X2.setCell ⟨Bk, 1, none⟩ (.int .i64 2) := ⟨_, rfl⟩
          rw [← hX3] at bB3 bR3 bL3 ⊢
          clear n1 hf1 hX3 k1'
          have x0 : X3.cell? ⟨Bk, 0, none⟩ = some (.string (mkS a)) := bB3.cell 0
          have x1 : X3.cell? ⟨Bk, 1, none⟩ = some (.int .i64 2) := bB3.cell 1
          have x2 : X3.cell? ⟨Bk, 2, none⟩ = some (.int .i64 0) := bB3.cell 2
          have x3 : X3.cell? ⟨Bk, 3, none⟩ = some (.bool false) := bB3.cell 3
          have R0 : X3.cell? ⟨R, 0, none⟩ = some (.string { data := #[] }) := bR3.cell 0
          have f0 := bR3.frozen 0
          have R1 : X3.cell? ⟨R, 1, none⟩ = some (.int .i64 0) := bR3.cell 1
          have f1 := bR3.frozen 1
          have R2 : X3.cell? ⟨R, 2, none⟩ = some (.int .i64 0) := bR3.cell 2
          have f2 := bR3.frozen 2
          have R3 : X3.cell? ⟨R, 3, none⟩ = some (.bool false) := bR3.cell 3
          have f3 := bR3.frozen 3
          have HBR3 := Lib.hid bR3
          have HBL3 := Lib.hid bL3
          clear bB3 bR3 bL3
          go_region
          all_goals
            go_wp2
            obtain ⟨Y, hY⟩ : ∃ Y, Y = ((((X3.setCell ⟨R, 0, none⟩ (.string (mkS a))).setCell ⟨R, 1, none⟩ (.int .i64 2)).setCell ⟨R, 2, none⟩ (.int .i64 0)).setCell ⟨R, 3, none⟩ (.bool false)).drew := ⟨_, rfl⟩
            rw [← hY]
            have b4 : Blk Y R 41 #[.string (mkS a), .int .i64 2, .int .i64 0, .bool false] := by rw [hY]; exact blk4C _ _ _ _ HBR3.out
            have bw : Below w.heap.size w Y := by rw [hY]; exact (below4C _ _ _ _ HBL3.out hRw).drew
            clear hY
            have p0 : Y.cell? ⟨R, 0, none⟩ = some (.string (mkS a)) := b4.cell 0
            have p1 : Y.cell? ⟨R, 1, none⟩ = some (.int .i64 2) := b4.cell 1
            have p2 : Y.cell? ⟨R, 2, none⟩ = some (.int .i64 0) := b4.cell 2
            have p3 : Y.cell? ⟨R, 3, none⟩ = some (.bool false) := b4.cell 3
            exact bodyPost_ret (v := .tuple #[.agg #[.string (mkS a), .int .i64 2, .int .i64 0, .bool false], .bool true]) (by simp [results, Tryd.results36, go_sem, p0, p1, p2, p3]) rfl (RetCl.yes HO.out bw)
        by_cases e3 : b = tyW 3
        case pos =>
          clear e1 e2
          subst e3
          have v1 : ((mkS (tyW 3)).toList == [105, 110, 116]) = false := by rw [Go.ByteArray.toList_eq]; rfl
          have v2 : ((mkS (tyW 3)).toList == [98, 111, 111, 108]) = false := by rw [Go.ByteArray.toList_eq]; rfl
          have v3 : ((mkS (tyW 3)).toList == [98, 121, 116, 101, 115]) = true := by rw [Go.ByteArray.toList_eq]; rfl
          have HO := Lib.hid (col_ty (a := a) (t := 3) (by omega) (by omega))
          go_enter Tryd.func36, Tryd.ntmps36
          go_upto_region 1 with (fail)
          rw [← HW0.out, ← HR.out]
          go_upto_region 13 with (fail)
          have hb2 := below_new W0 (.cells #[.string (mkS a), .int .i64 0, .int .i64 0, .bool false] 41)
          have bB := Blk.new W0 41 #[.string (mkS a), .int .i64 0, .int .i64 0, .bool false]
          obtain ⟨X2, hX2⟩ : ∃ X, X = W0.alloc (.cells #[.string (mkS a), .int .i64 0, .int .i64 0, .bool false] 41) := ⟨_, rfl⟩
          rw [← hX2] at hb2 bB ⊢
          obtain ⟨Bk, hBk⟩ : ∃ g, g = W0.heap.size := ⟨_, rfl⟩
          have hBR : R ≠ Bk := by have := HBR.out.lt; omega
          have hwB : w.heap.size ≤ Bk := by have := HBL.out.size; omega
          rw [← hBk] at bB ⊢
          have HBB := Lib.hid bB
          have HBR2 := Lib.hid (HBR.out.below hb2 HBR.out.lt)
          have HBL2 := Lib.hid (bst HBL.out hb2)
          have k1' : X2.cell? ⟨g, 1, none⟩ = some (.string (mkS (tyW 3))) := (hb2.cell (p := ⟨g, 1, none⟩) HROW.out.1).trans k1
          clear hb2 bB hX2 hBk k0 k1
          have n1 : X2.cell? ⟨Bk, 1, none⟩ = some (.int .i64 0) := HBB.out.cell 1
          have hf1 := HBB.out.frozen 1
          go_upto_region 22 with (fail)
          have bB3 := blk4_1 (.int .i64 3) HBB.out
          have bR3 := farC 1 (.int .i64 3) hBR HBR2.out
          have bL3 := HBL2.out.setCell (p := ⟨Bk, 1, none⟩) hwB (.int .i64 3)
          obtain ⟨X3, hX3⟩ : ∃ X, X = X2.setCell ⟨Bk, 1, none⟩ (.int .i64 3) := ⟨_, rfl⟩
          rw [← hX3] at bB3 bR3 bL3 ⊢
          clear n1 hf1 hX3 k1'
          have x0 : X3.cell? ⟨Bk, 0, none⟩ = some (.string (mkS a)) := bB3.cell 0
          have x1 : X3.cell? ⟨Bk, 1, none⟩ = some (.int .i64 3) := bB3.cell 1
          have x2 : X3.cell? ⟨Bk, 2, none⟩ = some (.int .i64 0) := bB3.cell 2
          have x3 : X3.cell? ⟨Bk, 3, none⟩ = some (.bool false) := bB3.cell 3
          have R0 : X3.cell? ⟨R, 0, none⟩ = some (.string { data := #[] }) := bR3.cell 0
          have f0 := bR3.frozen 0
          have R1 : X3.cell? ⟨R, 1, none⟩ = some (.int .i64 0) := bR3.cell 1
          have f1 := bR3.frozen 1
          have R2 : X3.cell? ⟨R, 2, none⟩ = some (.int .i64 0) := bR3.cell 2
          have f2 := bR3.frozen 2
          have R3 : X3.cell? ⟨R, 3, none⟩ = some (.bool false) := bR3.cell 3
          have f3 := bR3.frozen 3
          have HBR3 := Lib.hid bR3
          have HBL3 := Lib.hid bL3
          clear bB3 bR3 bL3
          go_region
          all_goals
            go_wp2
            obtain ⟨Y, hY⟩ : ∃ Y, Y = ((((X3.setCell ⟨R, 0, none⟩ (.string (mkS a))).setCell ⟨R, 1, none⟩ (.int .i64 3)).setCell ⟨R, 2, none⟩ (.int .i64 0)).setCell ⟨R, 3, none⟩ (.bool false)).drew := ⟨_, rfl⟩
            rw [← hY]
            have b4 : Blk Y R 41 #[.string (mkS a), .int .i64 3, .int .i64 0, .bool false] := by rw [hY]; exact blk4C _ _ _ _ HBR3.out
            have bw : Below w.heap.size w Y := by rw [hY]; exact (below4C _ _ _ _ HBL3.out hRw).drew
            clear hY
            have p0 : Y.cell? ⟨R, 0, none⟩ = some (.string (mkS a)) := b4.cell 0
            have p1 : Y.cell? ⟨R, 1, none⟩ = some (.int .i64 3) := b4.cell 1
            have p2 : Y.cell? ⟨R, 2, none⟩ = some (.int .i64 0) := b4.cell 2
            have p3 : Y.cell? ⟨R, 3, none⟩ = some (.bool false) := b4.cell 3
            exact bodyPost_ret (v := .tuple #[.agg #[.string (mkS a), .int .i64 3, .int .i64 0, .bool false], .bool true]) (by simp [results, Tryd.results36, go_sem, p0, p1, p2, p3]) rfl (RetCl.yes HO.out bw)
        by_cases e4 : b = tyW 4
        case pos =>
          clear e1 e2 e3
          subst e4
          have v1 : ((mkS (tyW 4)).toList == [105, 110, 116]) = false := by rw [Go.ByteArray.toList_eq]; rfl
          have v2 : ((mkS (tyW 4)).toList == [98, 111, 111, 108]) = false := by rw [Go.ByteArray.toList_eq]; rfl
          have v3 : ((mkS (tyW 4)).toList == [98, 121, 116, 101, 115]) = false := by rw [Go.ByteArray.toList_eq]; rfl
          have v4 : ((mkS (tyW 4)).toList == [100, 97, 116, 101]) = true := by rw [Go.ByteArray.toList_eq]; rfl
          have HO := Lib.hid (col_ty (a := a) (t := 4) (by omega) (by omega))
          go_enter Tryd.func36, Tryd.ntmps36
          go_upto_region 1 with (fail)
          rw [← HW0.out, ← HR.out]
          go_upto_region 13 with (fail)
          have hb2 := below_new W0 (.cells #[.string (mkS a), .int .i64 0, .int .i64 0, .bool false] 41)
          have bB := Blk.new W0 41 #[.string (mkS a), .int .i64 0, .int .i64 0, .bool false]
          obtain ⟨X2, hX2⟩ : ∃ X, X = W0.alloc (.cells #[.string (mkS a), .int .i64 0, .int .i64 0, .bool false] 41) := ⟨_, rfl⟩
          rw [← hX2] at hb2 bB ⊢
          obtain ⟨Bk, hBk⟩ : ∃ g, g = W0.heap.size := ⟨_, rfl⟩
          have hBR : R ≠ Bk := by have := HBR.out.lt; omega
          have hwB : w.heap.size ≤ Bk := by have := HBL.out.size; omega
          rw [← hBk] at bB ⊢
          have HBB := Lib.hid bB
          have HBR2 := Lib.hid (HBR.out.below hb2 HBR.out.lt)
          have HBL2 := Lib.hid (bst HBL.out hb2)
          have k1' : X2.cell? ⟨g, 1, none⟩ = some (.string (mkS (tyW 4))) := (hb2.cell (p := ⟨g, 1, none⟩) HROW.out.1).trans k1
          clear hb2 bB hX2 hBk k0 k1
          have n1 : X2.cell? ⟨Bk, 1, none⟩ = some (.int .i64 0) := HBB.out.cell 1
          have hf1 := HBB.out.frozen 1
          go_upto_region 22 with (fail)
          have bB3 := blk4_1 (.int .i64 4) HBB.out
          have bR3 := farC 1 (.int .i64 4) hBR HBR2.out
          have bL3 := HBL2.out.setCell (p := ⟨Bk, 1, none⟩) hwB (.int .i64 4)
          obtain ⟨X3, hX3⟩ : ∃ X, X = X2.setCell ⟨Bk, 1, none⟩ (.int .i64 4) := ⟨_, rfl⟩
          rw [← hX3] at bB3 bR3 bL3 ⊢
          clear n1 hf1 hX3 k1'
          have x0 : X3.cell? ⟨Bk, 0, none⟩ = some (.string (mkS a)) := bB3.cell 0
          have x1 : X3.cell? ⟨Bk, 1, none⟩ = some (.int .i64 4) := bB3.cell 1
          have x2 : X3.cell? ⟨Bk, 2, none⟩ = some (.int .i64 0) := bB3.cell 2
          have x3 : X3.cell? ⟨Bk, 3, none⟩ = some (.bool false) := bB3.cell 3
          have R0 : X3.cell? ⟨R, 0, none⟩ = some (.string { data := #[] }) := bR3.cell 0
          have f0 := bR3.frozen 0
          have R1 : X3.cell? ⟨R, 1, none⟩ = some (.int .i64 0) := bR3.cell 1
          have f1 := bR3.frozen 1
          have R2 : X3.cell? ⟨R, 2, none⟩ = some (.int .i64 0) := bR3.cell 2
          have f2 := bR3.frozen 2
          have R3 : X3.cell? ⟨R, 3, none⟩ = some (.bool false) := bR3.cell 3
          have f3 := bR3.frozen 3
          have HBR3 := Lib.hid bR3
          have HBL3 := Lib.hid bL3
          clear bB3 bR3 bL3
          go_region
          all_goals
            go_wp2
            obtain ⟨Y, hY⟩ : ∃ Y, Y = ((((X3.setCell ⟨R, 0, none⟩ (.string (mkS a))).setCell ⟨R, 1, none⟩ (.int .i64 4)).setCell ⟨R, 2, none⟩ (.int .i64 0)).setCell ⟨R, 3, none⟩ (.bool false)).drew := ⟨_, rfl⟩
            rw [← hY]
            have b4 : Blk Y R 41 #[.string (mkS a), .int .i64 4, .int .i64 0, .bool false] := by rw [hY]; exact blk4C _ _ _ _ HBR3.out
            have bw : Below w.heap.size w Y := by rw [hY]; exact (below4C _ _ _ _ HBL3.out hRw).drew
            clear hY
            have p0 : Y.cell? ⟨R, 0, none⟩ = some (.string (mkS a)) := b4.cell 0
            have p1 : Y.cell? ⟨R, 1, none⟩ = some (.int .i64 4) := b4.cell 1
            have p2 : Y.cell? ⟨R, 2, none⟩ = some (.int .i64 0) := b4.cell 2
            have p3 : Y.cell? ⟨R, 3, none⟩ = some (.bool false) := b4.cell 3
            exact bodyPost_ret (v := .tuple #[.agg #[.string (mkS a), .int .i64 4, .int .i64 0, .bool false], .bool true]) (by simp [results, Tryd.results36, go_sem, p0, p1, p2, p3]) rfl (RetCl.yes HO.out bw)
        have v1 : ((mkS b).toList == [105, 110, 116]) = false := by rw [Go.ByteArray.toList_eq]; exact beq_false_of_ne e1
        have v2 : ((mkS b).toList == [98, 111, 111, 108]) = false := by rw [Go.ByteArray.toList_eq]; exact beq_false_of_ne e2
        have v3 : ((mkS b).toList == [98, 121, 116, 101, 115]) = false := by rw [Go.ByteArray.toList_eq]; exact beq_false_of_ne e3
        have v4 : ((mkS b).toList == [100, 97, 116, 101]) = false := by rw [Go.ByteArray.toList_eq]; exact beq_false_of_ne e4
        have HO := Lib.hid (col_two (a := a) e1 e2 e3 e4)
        clear e1 e2 e3 e4
        go_enter Tryd.func36, Tryd.ntmps36
        go_upto_region 1 with (fail)
        rw [← HW0.out, ← HR.out]
        go_upto_region 13 with (fail)
        have hb2 := below_new W0 (.cells #[.string (mkS a), .int .i64 0, .int .i64 0, .bool false] 41)
        have bB := Blk.new W0 41 #[.string (mkS a), .int .i64 0, .int .i64 0, .bool false]
        obtain ⟨X2, hX2⟩ : ∃ X, X = W0.alloc (.cells #[.string (mkS a), .int .i64 0, .int .i64 0, .bool false] 41) := ⟨_, rfl⟩
        rw [← hX2] at hb2 bB ⊢
        obtain ⟨Bk, hBk⟩ : ∃ g, g = W0.heap.size := ⟨_, rfl⟩
        have hBR : R ≠ Bk := by have := HBR.out.lt; omega
        have hwB : w.heap.size ≤ Bk := by have := HBL.out.size; omega
        rw [← hBk] at bB ⊢
        have HBB := Lib.hid bB
        have HBR2 := Lib.hid (HBR.out.below hb2 HBR.out.lt)
        have HBL2 := Lib.hid (bst HBL.out hb2)
        have k1' : X2.cell? ⟨g, 1, none⟩ = some (.string (mkS b)) := (hb2.cell (p := ⟨g, 1, none⟩) HROW.out.1).trans k1
        clear hb2 bB hX2 hBk k0 k1
        have n1 : X2.cell? ⟨Bk, 1, none⟩ = some (.int .i64 0) := HBB.out.cell 1
        have hf1 := HBB.out.frozen 1
        go_upto_region 22 with (fail)
        have bB3 := HBB.out
        have bR3 := HBR2.out
        have bL3 := HBL2.out
        obtain ⟨X3, hX3⟩ : ∃ X, X = X2 := ⟨_, rfl⟩
        rw [← hX3] at bB3 bR3 bL3 ⊢
        clear n1 hf1 hX3 k1'
        have x0 : X3.cell? ⟨Bk, 0, none⟩ = some (.string (mkS a)) := bB3.cell 0
        have x1 : X3.cell? ⟨Bk, 1, none⟩ = some (.int .i64 0) := bB3.cell 1
        have x2 : X3.cell? ⟨Bk, 2, none⟩ = some (.int .i64 0) := bB3.cell 2
        have x3 : X3.cell? ⟨Bk, 3, none⟩ = some (.bool false) := bB3.cell 3
        have R0 : X3.cell? ⟨R, 0, none⟩ = some (.string { data := #[] }) := bR3.cell 0
        have f0 := bR3.frozen 0
        have R1 : X3.cell? ⟨R, 1, none⟩ = some (.int .i64 0) := bR3.cell 1
        have f1 := bR3.frozen 1
        have R2 : X3.cell? ⟨R, 2, none⟩ = some (.int .i64 0) := bR3.cell 2
        have f2 := bR3.frozen 2
        have R3 : X3.cell? ⟨R, 3, none⟩ = some (.bool false) := bR3.cell 3
        have f3 := bR3.frozen 3
        have HBR3 := Lib.hid bR3
        have HBL3 := Lib.hid bL3
        clear bB3 bR3 bL3
        go_region
        all_goals
          go_wp2
          obtain ⟨Y, hY⟩ : ∃ Y, Y = ((((X3.setCell ⟨R, 0, none⟩ (.string (mkS a))).setCell ⟨R, 1, none⟩ (.int .i64 0)).setCell ⟨R, 2, none⟩ (.int .i64 0)).setCell ⟨R, 3, none⟩ (.bool false)).drew := ⟨_, rfl⟩
          rw [← hY]
          have b4 : Blk Y R 41 #[.string (mkS a), .int .i64 0, .int .i64 0, .bool false] := by rw [hY]; exact blk4C _ _ _ _ HBR3.out
          have bw : Below w.heap.size w Y := by rw [hY]; exact (below4C _ _ _ _ HBL3.out hRw).drew
          clear hY
          have p0 : Y.cell? ⟨R, 0, none⟩ = some (.string (mkS a)) := b4.cell 0
          have p1 : Y.cell? ⟨R, 1, none⟩ = some (.int .i64 0) := b4.cell 1
          have p2 : Y.cell? ⟨R, 2, none⟩ = some (.int .i64 0) := b4.cell 2
          have p3 : Y.cell? ⟨R, 3, none⟩ = some (.bool false) := b4.cell 3
          exact bodyPost_ret (v := .tuple #[.agg #[.string (mkS a), .int .i64 0, .int .i64 0, .bool false], .bool false]) (by simp [results, Tryd.results36, go_sem, p0, p1, p2, p3]) rfl (RetCl.no HO.out bw)
      | [a, b, x], hn =>
        have hxn : x ≠ nullW := fun e => hnull ⟨by simp, by rw [e]; rfl⟩
        have k0 : W0.cell? ⟨g, 0, none⟩ = some (.string (mkS a)) := HROW.out.2 0 a rfl
        have k1 : W0.cell? ⟨g, 1, none⟩ = some (.string (mkS b)) := HROW.out.2 1 b rfl
        have k2 : W0.cell? ⟨g, 2, none⟩ = some (.string (mkS x)) := HROW.out.2 2 x rfl
        have v2 : ((mkS x).toList == [110, 117, 108, 108]) = false := by rw [Go.ByteArray.toList_eq]; exact beq_false_of_ne hxn
        have hxl : (mkS x).size = x.length := by rw [← sizeD, mkS_data]
        have hxb := HX.out x (by simp)
        clear hnull hn
        by_cases hb : b = decW
        case neg =>
          have HO := Lib.hid (col_three (a := a) hxn (.inl hb))
          have v1 : ((mkS b).toList == [100, 101, 99, 105, 109, 97, 108]) = false := by rw [Go.ByteArray.toList_eq]; exact beq_false_of_ne hb
          clear hb hxn
          go_enter Tryd.func36, Tryd.ntmps36
          go_upto_region 1 with (fail)
          rw [← HW0.out, ← HR.out]
          have R0 : W0.cell? ⟨R, 0, none⟩ = some (.string { data := #[] }) := HBR.out.cell 0
          have f0 := HBR.out.frozen 0
          have R1 : W0.cell? ⟨R, 1, none⟩ = some (.int .i64 0) := HBR.out.cell 1
          have f1 := HBR.out.frozen 1
          have R2 : W0.cell? ⟨R, 2, none⟩ = some (.int .i64 0) := HBR.out.cell 2
          have f2 := HBR.out.frozen 2
          have R3 : W0.cell? ⟨R, 3, none⟩ = some (.bool false) := HBR.out.cell 3
          have f3 := HBR.out.frozen 3
          go_wp2
          have b4 := blk4C (.string { data := #[] }) (.int .i64 0) (.int .i64 0) (.bool false) HBR.out
          have q0 : _ = some (Value.string { data := #[] }) := b4.cell 0
          have q1 : _ = some (Value.int .i64 0) := b4.cell 1
          have q2 : _ = some (Value.int .i64 0) := b4.cell 2
          have q3 : _ = some (Value.bool false) := b4.cell 3
          exact bodyPost_ret (v := .tuple #[.agg #[.string { data := #[] }, .int .i64 0, .int .i64 0, .bool false], .bool false]) (by simp [results, Tryd.results36, go_sem, q0, q1, q2, q3]) rfl (RetCl.no HO.out (below4C _ _ _ _ HBL.out hRw))
        subst hb
        have v1 : ((mkS decW).toList == [100, 101, 99, 105, 109, 97, 108]) = true := by rw [Go.ByteArray.toList_eq]; rfl
        by_cases hx2 : x.length ≤ 2
        case neg =>
          have HO := Lib.hid (col_three (a := a) hxn (.inr (show 2 < x.length by omega)) (b := decW))
          have l2 : ¬((mkS x).size : Int) ≤ 2 := by omega
          clear hxn
          go_enter Tryd.func36, Tryd.ntmps36
          go_upto_region 1 with (fail)
          rw [← HW0.out, ← HR.out]
          have R0 : W0.cell? ⟨R, 0, none⟩ = some (.string { data := #[] }) := HBR.out.cell 0
          have f0 := HBR.out.frozen 0
          have R1 : W0.cell? ⟨R, 1, none⟩ = some (.int .i64 0) := HBR.out.cell 1
          have f1 := HBR.out.frozen 1
          have R2 : W0.cell? ⟨R, 2, none⟩ = some (.int .i64 0) := HBR.out.cell 2
          have f2 := HBR.out.frozen 2
          have R3 : W0.cell? ⟨R, 3, none⟩ = some (.bool false) := HBR.out.cell 3
          have f3 := HBR.out.frozen 3
          go_wp2
          have b4 := blk4C (.string { data := #[] }) (.int .i64 0) (.int .i64 0) (.bool false) HBR.out
          have q0 : _ = some (Value.string { data := #[] }) := b4.cell 0
          have q1 : _ = some (Value.int .i64 0) := b4.cell 1
          have q2 : _ = some (Value.int .i64 0) := b4.cell 2
          have q3 : _ = some (Value.bool false) := b4.cell 3
          exact bodyPost_ret (v := .tuple #[.agg #[.string { data := #[] }, .int .i64 0, .int .i64 0, .bool false], .bool false]) (by simp [results, Tryd.results36, go_sem, q0, q1, q2, q3]) rfl (RetCl.no HO.out (below4C _ _ _ _ HBL.out hRw))
        have l2 : ((mkS x).size : Int) ≤ 2 := by omega
        obtain ⟨m, e, hme⟩ : ∃ m e, readV x = (m, e) := ⟨_, _, rfl⟩
        have HC := Lib.hid (show Calls Tryd.prog 46 #[.string (mkS x)] W0 (RetRs W0 (m, e)) by rw [← hme]; exact readnum_any (mkS x) W0 (by omega))
        have HS : scaV x = if e = 0 ∧ 0 ≤ m then some m else none := by
          unfold scaV; rw [hme]
          by_cases h : e = 0 ∧ 0 ≤ m
          · rw [if_pos h, if_pos ⟨hx2, h⟩]
          · rw [if_neg h, if_neg (fun h2 => h h2.2)]
        have h5 : tyN decW = 5 := by decide
        by_cases he : e = 0
        case neg =>
          have HO := Lib.hid (show colV [a, decW, x] = none from col_decno h5 (by rw [HS, if_neg (fun h => he h.1)]))
          have qe : (e == 0) = false := by rw [beq_eq_false_iff_ne]; exact he
          clear HS he hme h5 hx2 hxn
          go_enter Tryd.func36, Tryd.ntmps36
          go_upto_region 1 with (fail)
          rw [← HW0.out, ← HR.out]
          have R0 : W0.cell? ⟨R, 0, none⟩ = some (.string { data := #[] }) := HBR.out.cell 0
          have f0 := HBR.out.frozen 0
          have R1 : W0.cell? ⟨R, 1, none⟩ = some (.int .i64 0) := HBR.out.cell 1
          have f1 := HBR.out.frozen 1
          have R2 : W0.cell? ⟨R, 2, none⟩ = some (.int .i64 0) := HBR.out.cell 2
          have f2 := HBR.out.frozen 2
          have R3 : W0.cell? ⟨R, 3, none⟩ = some (.bool false) := HBR.out.cell 3
          have f3 := HBR.out.frozen 3
          go_wp2_with fail
          refine HC.out.mono ?_
          rintro _ _ ⟨rfl, rfl⟩
          go_wp2
          have b4 := blk4C (.string (mkS a)) (.int .i64 5) (.int .i64 m) (.bool false) HBR.out
          have q0 : _ = some (Value.string (mkS a)) := b4.cell 0
          have q1 : _ = some (Value.int .i64 5) := b4.cell 1
          have q2 : _ = some (Value.int .i64 m) := b4.cell 2
          have q3 : _ = some (Value.bool false) := b4.cell 3
          exact bodyPost_ret (v := .tuple #[.agg #[.string (mkS a), .int .i64 5, .int .i64 m, .bool false], .bool false]) (by simp [results, Tryd.results36, go_sem, q0, q1, q2, q3] <;> omega) rfl (RetCl.no HO.out (below4C _ _ _ _ HBL.out hRw))
        subst he
        by_cases hm : 0 ≤ m
        case neg =>
          have HO := Lib.hid (show colV [a, decW, x] = none from col_decno h5 (by rw [HS, if_neg (fun h => hm h.2)]))
          have hm2 : m < 0 := by omega
          clear HS hme h5 hx2 hxn
          go_enter Tryd.func36, Tryd.ntmps36
          go_upto_region 1 with (fail)
          rw [← HW0.out, ← HR.out]
          have R0 : W0.cell? ⟨R, 0, none⟩ = some (.string { data := #[] }) := HBR.out.cell 0
          have f0 := HBR.out.frozen 0
          have R1 : W0.cell? ⟨R, 1, none⟩ = some (.int .i64 0) := HBR.out.cell 1
          have f1 := HBR.out.frozen 1
          have R2 : W0.cell? ⟨R, 2, none⟩ = some (.int .i64 0) := HBR.out.cell 2
          have f2 := HBR.out.frozen 2
          have R3 : W0.cell? ⟨R, 3, none⟩ = some (.bool false) := HBR.out.cell 3
          have f3 := HBR.out.frozen 3
          go_wp2_with fail
          refine HC.out.mono ?_
          rintro _ _ ⟨rfl, rfl⟩
          go_wp2
          have b4 := blk4C (.string (mkS a)) (.int .i64 5) (.int .i64 m) (.bool false) HBR.out
          have q0 : _ = some (Value.string (mkS a)) := b4.cell 0
          have q1 : _ = some (Value.int .i64 5) := b4.cell 1
          have q2 : _ = some (Value.int .i64 m) := b4.cell 2
          have q3 : _ = some (Value.bool false) := b4.cell 3
          exact bodyPost_ret (v := .tuple #[.agg #[.string (mkS a), .int .i64 5, .int .i64 m, .bool false], .bool false]) (by simp [results, Tryd.results36, go_sem, q0, q1, q2, q3] <;> omega) rfl (RetCl.no HO.out (below4C _ _ _ _ HBL.out hRw))
        have HO := Lib.hid (show colV [a, decW, x] = some ⟨mkS a, 5, m, false⟩ from col_dec (k := x) (q := []) h5 (by rw [HS, if_pos ⟨rfl, hm⟩]) rfl)
        clear HS hme h5 hx2 hxn
        go_enter Tryd.func36, Tryd.ntmps36
        go_upto_region 1 with (fail)
        rw [← HW0.out, ← HR.out]
        have R0 : W0.cell? ⟨R, 0, none⟩ = some (.string { data := #[] }) := HBR.out.cell 0
        have f0 := HBR.out.frozen 0
        have R1 : W0.cell? ⟨R, 1, none⟩ = some (.int .i64 0) := HBR.out.cell 1
        have f1 := HBR.out.frozen 1
        have R2 : W0.cell? ⟨R, 2, none⟩ = some (.int .i64 0) := HBR.out.cell 2
        have f2 := HBR.out.frozen 2
        have R3 : W0.cell? ⟨R, 3, none⟩ = some (.bool false) := HBR.out.cell 3
        have f3 := HBR.out.frozen 3
        go_wp2_with fail
        refine HC.out.mono ?_
        rintro _ _ ⟨rfl, rfl⟩
        go_wp2
        have b4 := blk4C (.string (mkS a)) (.int .i64 5) (.int .i64 m) (.bool false) HBR.out
        have q0 : _ = some (Value.string (mkS a)) := b4.cell 0
        have q1 : _ = some (Value.int .i64 5) := b4.cell 1
        have q2 : _ = some (Value.int .i64 m) := b4.cell 2
        have q3 : _ = some (Value.bool false) := b4.cell 3
        exact bodyPost_ret (v := .tuple #[.agg #[.string (mkS a), .int .i64 5, .int .i64 m, .bool false], .bool true]) (by simp [results, Tryd.results36, go_sem, q0, q1, q2, q3] <;> omega) rfl (RetCl.yes HO.out (below4C _ _ _ _ HBL.out hRw))
      | a :: b :: x :: y :: q, hn =>
        have HO := Lib.hid (show colV (a :: b :: x :: y :: q) = none from col_four (fun e => hnull ⟨by simp, e⟩))
        obtain ⟨z, hz⟩ : ∃ z, (a :: b :: x :: y :: q).getLast? = some z := ⟨_, List.getLast?_eq_some_getLast (by simp)⟩
        have hzn : z ≠ nullW := fun e => hnull ⟨by simp, by rw [hz, e]⟩
        obtain ⟨j, hj⟩ : ∃ j, j = q.length := ⟨_, rfl⟩
        have kz : W0.cell? ⟨g, j + 3, none⟩ = some (.string (mkS z)) := HROW.out.2 (j + 3) z (by rw [List.getLast?_eq_getElem?] at hz; rw [← hz]; congr 1; simp; omega)
        have hl : (a :: b :: x :: y :: q).length = j + 4 := by simp; omega
        have vz : ((mkS z).toList == [110, 117, 108, 108]) = false := by rw [Go.ByteArray.toList_eq]; exact beq_false_of_ne hzn
        rw [hl] at hc ⊢
        have l1 : (2 : Int) < (j : Int) + 4 := by omega
        have l2 : (j : Int) + 4 - 1 = (j : Int) + 3 := by omega
        have l3 : ((j : Int) + 4 == 3) = false := by rw [beq_eq_false_iff_ne]; omega
        have l4 : ((j : Int) + 4 != 2) = true := by rw [bne_iff_ne]; omega
        clear hnull hn hz hzn hj hl
        go_enter Tryd.func36, Tryd.ntmps36
        go_upto_region 1 with (fail)
        rw [← HW0.out, ← HR.out]
        have R0 : W0.cell? ⟨R, 0, none⟩ = some (.string { data := #[] }) := HBR.out.cell 0
        have f0 := HBR.out.frozen 0
        have R1 : W0.cell? ⟨R, 1, none⟩ = some (.int .i64 0) := HBR.out.cell 1
        have f1 := HBR.out.frozen 1
        have R2 : W0.cell? ⟨R, 2, none⟩ = some (.int .i64 0) := HBR.out.cell 2
        have f2 := HBR.out.frozen 2
        have R3 : W0.cell? ⟨R, 3, none⟩ = some (.bool false) := HBR.out.cell 3
        have f3 := HBR.out.frozen 3
        go_wp2
        have b4 := blk4C (.string { data := #[] }) (.int .i64 0) (.int .i64 0) (.bool false) HBR.out
        have q0 : _ = some (Value.string { data := #[] }) := b4.cell 0
        have q1 : _ = some (Value.int .i64 0) := b4.cell 1
        have q2 : _ = some (Value.int .i64 0) := b4.cell 2
        have q3 : _ = some (Value.bool false) := b4.cell 3
        exact bodyPost_ret (v := .tuple #[.agg #[.string { data := #[] }, .int .i64 0, .int .i64 0, .bool false], .bool false]) (by simp [results, Tryd.results36, go_sem, q0, q1, q2, q3]) rfl (RetCl.no HO.out (below4C _ _ _ _ HBL.out hRw))
end Go.Proofs.YtojfhlppiicpbaaDoor
