/-
  predtext's parser: column.
-/
import Derived.Test.YtjnamjkdjcndiaaGreatDoorM17
import Derived.Test.YtjnamjkdjcndiaaGreatDoorM15
namespace Go.Proofs.YtjnamjkdjcndiaaGreatDoor
open Go.RowKit Go.Sort
theorem empty_of {W : ByteArray} {l : List UInt8} (h : W.data.toList = l) (hl : l = []) : W.toList.isEmpty = true ∧ W.toList = [] := by
  have : W.toList = [] := by rw [Go.ByteArray.toList_eq, h, hl]
  rw [this]; exact ⟨rfl, rfl⟩
theorem full_of {W : ByteArray} {l : List UInt8} (h : W.data.toList = l) (hl : l ≠ []) : W.toList.isEmpty = false := by
  rw [Go.ByteArray.toList_eq, h]
  cases l with
  | nil => exact absurd rfl hl
  | cons => rfl
def RetColP (w : World) (g N : Nat) (sv nv : Value) (key wh e0 : Int) (S : ByteArray) (op : Int) (b : Bool) (n : Int) (s : ByteArray) (lu : Value) (x y : Int) (r : Except (Nat × Int) (Nat × Nat)) (e : Ending) (w' : World) : Prop :=
  Kp (fun i => i = g ∨ i = N) w w' ∧ match r with
  | .ok (j, K) => e = .returned (.bool true) ∧ Blk w' g 54 #[sv, .int .i64 key, .string S, .int .i64 j, nv, .int .i64 wh, .int .i64 e0] ∧ Blk w' N 66 #[.int .i64 op, .int .i64 K, .bool b, .int .i64 n, .string s, lu, .int .i64 x, .int .i64 y]
  | .error (k, er) => e = .returned (.bool false) ∧ (∃ i : Nat, Blk w' g 54 #[sv, .int .i64 key, .string S, .int .i64 i, nv, .int .i64 k, .int .i64 er])
theorem col_err {cs : List Col} {T : List UInt8} {i : Nat} (h : wd T (sk T i) = []) : colP cs T i = .error (sk T i, 2) := if_pos h
theorem col_name {cs : List Col} {T : List UInt8} {i : Nat} (h : wd T (sk T i) ≠ []) (hf : findC cs ⟨(wd T (sk T i)).toArray⟩ < 0) : colP cs T i = .error (sk T i, 3) := by unfold colP; rw [if_neg h, if_pos hf]
theorem col_ok {cs : List Col} {T : List UInt8} {i : Nat} (h : wd T (sk T i) ≠ []) (hf : ¬ findC cs ⟨(wd T (sk T i)).toArray⟩ < 0) : colP cs T i = .ok (we T (sk T i), (findC cs ⟨(wd T (sk T i)).toArray⟩).toNat) := by unfold colP; rw [if_neg h, if_neg hf]
set_option maxRecDepth 100000 in
set_option maxHeartbeats 4000000 in
theorem pcol_any (w0 : World) (g N i : Nat) (sv nv lu : Value) (key wh e0 op c0 n x y : Int) (b : Bool) (s S : ByteArray) (cs : List Col) (w : World) (hB : Blk w g 54 #[sv, .int .i64 key, .string S, .int .i64 i, nv, .int .i64 wh, .int .i64 e0]) (hN : Blk w N 66 #[.int .i64 op, .int .i64 c0, .bool b, .int .i64 n, .string s, lu, .int .i64 x, .int .i64 y])
    (hi : i ≤ S.size) (hS : S.size ≤ 65536) (hcs : Sl w0 4 sv cs.length (cols cs)) (hb0 : Below w0.heap.size w0 w) (hg : w0.heap.size ≤ g) (hn : w0.heap.size ≤ N) (hcl : cs.length ≤ 1000) :
    Calls Tryz.prog 70 #[.pointer (some ⟨g, 0, none⟩), .pointer (some ⟨N, 0, none⟩)] w (RetColP w g N sv nv key wh e0 S op b n s lu x y (colP cs S.data.toList i)) := by
  have hgN : g ≠ N := by intro e; subst e; have := hB.symm.trans hN; injection this with this; injection this with _ h; revert h; decide
  have HW := Lib.hid (pword_any g i sv nv key wh e0 S w hB hi hS)
  obtain ⟨k, hk⟩ : ∃ k, sk S.data.toList i = k := ⟨_, rfl⟩
  obtain ⟨T, hT⟩ : ∃ T, wd S.data.toList k = T := ⟨_, rfl⟩
  obtain ⟨m, hm⟩ : ∃ m, we S.data.toList k = m := ⟨_, rfl⟩
  have H1 := Lib.hid (col_err (cs := cs) (T := S.data.toList) (i := i))
  have H2 := Lib.hid (col_name (cs := cs) (T := S.data.toList) (i := i))
  have H3 := Lib.hid (col_ok (cs := cs) (T := S.data.toList) (i := i))
  unfold RetWord at HW
  rw [hk, hT] at H1 H2 H3
  rw [hk, hT, hm] at HW
  rw [hm] at H3
  clear hk hT hm hB
  have HN := Lib.hid hN
  have HCS := Lib.hid hcs
  have HB0 := Lib.hid hb0
  obtain ⟨AS, cS, rfl, _, _⟩ := hcs.form
  clear hN hcs hb0
  go_enter Tryz.func70, Tryz.ntmps70
  go_wp2_with fail
  refine HW.out.mono ?_
  rintro _ w1 ⟨W, hW, rfl, hB, ho⟩
  have HB := Lib.hid hB
  have HK := Lib.hid (Kp.only (S := fun i => i = g ∨ i = N) Kp.refl ho (.inl (.inl rfl)))
  have HN1 := Lib.hid (HN.out.grown ho (by intro e; injection e with e; exact hgN e))
  have HB1 := Lib.hid (below_only HB0.out ho hg HB0.out.size)
  clear hB ho HN HW
  by_cases hT : T = []
  · obtain ⟨e1, e2⟩ := empty_of hW hT
    have HR := Lib.hid (H1.out hT)
    clear hT hW H1 H2 H3
    go_wp2_with fail
    refine (pfail_any g m _ nv key wh e0 _ _ S w1 HB.out).mono ?_
    rintro _ w2 ⟨rfl, hB2, ho2⟩
    have HB2 := Lib.hid hB2
    have HK2 := Lib.hid (HK.out.only ho2 (.inl (.inl rfl)))
    clear hB2 ho2
    go_wp2
    go_ret
    rw [HR.out]
    exact ⟨HK2.out, rfl, m, HB2.out⟩
  · have e1 := full_of hW hT
    have hWT : W = ⟨T.toArray⟩ := by cases W; cases hW; rfl
    have HF := Lib.hid (find_any _ cs key W w1 (HCS.out.below HB1.out) (by omega))
    obtain ⟨z, hz⟩ : ∃ z, findC cs W = z := ⟨_, rfl⟩
    rw [hz] at HF
    have H2' := Lib.hid (H2.out hT)
    have H3' := Lib.hid (H3.out hT)
    rw [← hWT, hz] at H2' H3'
    clear hT hW H1 H2 H3 hWT hz
    have bb := HB.out
    have s0 := bb.cell 0
    have s1 := bb.cell 1
    have n1 := HN1.out.cell 1
    have nf := HN1.out.frozen 1
    simp only [List.getElem?_toArray, List.getElem?_cons_zero, List.getElem?_cons_succ] at s0 s1 n1
    clear bb
    go_wp2_with fail
    refine HF.out.mono ?_
    rintro _ w2 ⟨rfl, hb2⟩
    have HB2 := Lib.hid (HB.out.below hb2 HB.out.lt)
    have HN2 := Lib.hid (HN1.out.below hb2 HN1.out.lt)
    have HK2 := Lib.hid (HK.out.below hb2)
    clear hb2 s0 s1 n1 nf HF HB1
    have n1 := HN2.out.cell 1
    have nf := HN2.out.frozen 1
    simp only [List.getElem?_toArray, List.getElem?_cons_zero, List.getElem?_cons_succ] at n1
    go_upto_region 5 with (fail)
    obtain ⟨X, hX⟩ : ∃ X, X = w2.setCell ⟨N, 1, none⟩ (.int .i64 z) := ⟨_, rfl⟩
    have kb := HN2.out.set_ 1 (.int .i64 z)
    simp only [List.setIfInBounds_toArray, List.set_cons_zero, List.set_cons_succ] at kb
    have HNX := Lib.hid kb
    have HBX := Lib.hid (HB2.out.row (grownBy_set w2 ⟨N, 1, none⟩ (.int .i64 z)) hgN)
    have HKX := Lib.hid (HK2.out.set (p := ⟨N, 1, none⟩) (.inl (.inr rfl)) (.int .i64 z))
    clear kb
    rw [← hX] at HNX HBX HKX ⊢
    clear hX n1 nf HN2 HB2 HK2
    have n1 := HNX.out.cell 1
    simp only [List.getElem?_toArray, List.getElem?_cons_zero, List.getElem?_cons_succ] at n1
    by_cases hz : z < 0
    · have q1 : decide (z < 0) = true := by simpa using hz
      have HR := Lib.hid (H2'.out hz)
      clear H2' H3'
      go_wp2_with fail
      refine (pfail_any g m _ nv key wh e0 _ _ S X HBX.out).mono ?_
      rintro _ w3 ⟨rfl, hB3, ho3⟩
      have HB3 := Lib.hid hB3
      have HK3 := Lib.hid (HKX.out.only ho3 (.inl (.inl rfl)))
      clear hB3 ho3
      go_wp2
      go_ret
      rw [HR.out]
      exact ⟨HK3.out, rfl, m, HB3.out⟩
    · have q1 : decide (z < 0) = false := by simpa using hz
      have HR := Lib.hid (H3'.out (by omega))
      clear H2' H3'
      go_wp2
      go_ret
      rw [HR.out]
      exact ⟨HKX.out, rfl, HBX.out, by rw [show ((z.toNat : Nat) : Int) = z by omega]; exact HNX.out⟩
end Go.Proofs.YtjnamjkdjcndiaaGreatDoor
