/-
  The contracts of snapshot.Window and of ref18.Window.
-/
import Derived.Test.YtoikgjhekemjdaaLHist
import Derived.Test.YtoikgjhekemjdaaBase
namespace Go.Proofs.Ytoikgjhekemjdaa
open Go.RowKit Go.Sort
theorem SlSn.nil (w : World) : SlSn w (.slice none 0 0) [] := ⟨[], rfl, Sl.nil _ _, fun k s u h => by simp at h⟩
theorem snps_drop : ∀ {h : List Snp} {us : List Value} (k : Nat), us.length = h.length → (snps h us).drop (k * 4) = snps (h.drop k) (us.drop k)
  | [], us, k, hl => by have : us = [] := List.eq_nil_of_length_eq_zero hl; subst this; simp [snps]
  | x :: h, [], k, hl => by simp at hl
  | x :: h, y :: us, 0, hl => by simp
  | x :: h, y :: us, k + 1, hl => by
    simp only [snps, List.drop_succ_cons]
    rw [List.drop_append, List.drop_eq_nil_of_le (by show 4 ≤ _; omega), List.nil_append, show (k + 1) * 4 - (snCells x y).length = k * 4 by show (k + 1) * 4 - 4 = _; omega]
    exact snps_drop k (by simpa using hl)
theorem SlSn.drop {w : World} {ad : Addr} {c n k : Nat} {h : List Snp} (hs : SlSn w (.slice (some ad) n c) h) (hn : n = h.length) (hk : k < n) : SlSn w (.slice (some (ad.add (k * 4))) (n - k) (c - k)) (h.drop k) := by
  subst hn
  obtain ⟨us, h1, h2, h3⟩ := hs
  refine ⟨us.drop k, by simp [h1], ?_, fun j s u hj hu => h3 (k + j) s u (by rw [List.getElem?_drop] at hj; exact hj) (by rw [List.getElem?_drop] at hu; exact hu)⟩
  obtain ⟨A', c', e, q1, q2, q3, q4⟩ := h2
  injection e with e1 _ e3
  subst e1 e3
  rw [List.length_drop, ← snps_drop k h1]
  refine ⟨_, _, rfl, by omega, by unfold maxLen at q2 ⊢; omega, by rw [List.length_drop, q3]; omega, fun hp => ?_⟩
  obtain ⟨ad', e, hb, hc⟩ := q4 (by omega)
  injection e with e
  subst e
  refine ⟨_, rfl, by rw [block_of_add]; exact hb, fun j u hu => ?_⟩
  rw [List.getElem?_drop] at hu
  rw [add_of_add]; exact hc _ _ hu
/-- The last versions. -/
def winV (h : List Snp) (k : Int) : List Snp := if k < 1 then [] else h.drop (h.length - k.toNat)
def RetSl (w : World) (L : List Snp) (e : Ending) (w' : World) : Prop := ∃ v, e = .returned v ∧ SlSn w' v L ∧ Below w.heap.size w w'
theorem one_snps (h : List Snp) (us : List Value) (hu : ∀ u ∈ us, u.oneCell' = true) : ∀ y ∈ snps h us, y.oneCell' = true := by
  induction h generalizing us with
  | nil => intro y hy; simp [snps] at hy
  | cons s h ih =>
    cases us with
    | nil => intro y hy; simp [snps] at hy
    | cons u us =>
      intro y hy
      simp only [snps, List.mem_append, snCells, List.mem_cons, List.not_mem_nil, or_false] at hy
      rcases hy with (rfl | rfl | rfl | rfl) | hy
      · rfl
      · rfl
      · rfl
      · exact hu _ (by simp)
      · exact ih us (fun u hu' => hu u (by simp [hu'])) y hy
set_option maxRecDepth 100000 in
set_option maxHeartbeats 4000000 in
theorem rwin_any (ad : Addr) (c : Nat) (h : List Snp) (k : Int) (w : World) (hs : SlSn w (.slice (some ad) h.length c) h) (h0 : 0 < h.length) (hl : h.length ≤ 1000) (hk : -9223372036854775808 ≤ k ∧ k ≤ 9223372036854775807) :
    Calls Try.prog 31 #[.slice (some ad) h.length c, .int .i64 k] w (RetSl w (winV h k)) := by
  obtain ⟨_, _, e, hc1, hc2⟩ := hs.form
  cases e
  unfold maxLen at hc2
  obtain ⟨hk1, hk2⟩ := hk
  by_cases hlt : k < 1
  · have HV := Lib.hid (show winV h k = [] from if_pos hlt)
    go_enter Try.func31, Try.ntmps31
    go_wp2
    go_ret
    exact ⟨_, rfl, by rw [HV.out]; exact SlSn.nil _, Below.refl _ _⟩
  obtain ⟨K, hK⟩ : ∃ K : Nat, h.length - k.toNat = K := ⟨_, rfl⟩
  have HV := Lib.hid (show winV h k = h.drop K by unfold winV; rw [if_neg hlt, hK])
  have hKl : K < h.length := by omega
  have HD := Lib.hid (hs.drop rfl hKl)
  have hmax : max 0 ((h.length : Int) - k) = K := by omega
  have hdd : decide (k < 1) = false := by simpa using hlt
  have HKL := Lib.hid hKl
  obtain ⟨us, u1, u2, u3⟩ := HD.out
  have HON := Lib.hid (one_snps (h.drop K) us (fun u hu => by
    obtain ⟨j, hj, e⟩ := List.mem_iff_getElem.1 hu
    obtain ⟨A, c, e2, _⟩ := (u3 j _ u (List.getElem?_eq_getElem (show j < (h.drop K).length by omega)) (by rw [List.getElem?_eq_getElem hj, e])).form
    rw [e2]; rfl))
  have U3 := Lib.hid u3
  have HLD := Lib.hid (show (h.drop K).length = h.length - K by simp)
  obtain ⟨M, hM⟩ : ∃ M, h.length - K = M := ⟨_, rfl⟩
  rw [HLD.out, hM] at u2
  have HMM := Lib.hid hM
  have hM2 : M ≤ 1000 := by omega
  clear u3
  go_enter Try.func31, Try.ntmps31
  go_upto_region 3 with (fail)
  go_wp2_with (at_builtin; go_must (refine appN _ _ (World.ownsRow_nil w w.heap.size 24 4) u2 (Nat.le_refl _) under_snap info_snap rfl (by decide) HON.out (by omega) (by omega) rfl rfl rfl rfl ?_))
  intro v3 w3 ho3 hg3 _
  have hb3 : Below w.heap.size w w3 := ⟨hg3.os, hg3.tape, hg3.output, hg3.size, fun i hi => hg3.block i hi (by simp [Value.ownBlock])⟩
  have HF := Lib.hid (show SlSn w3 v3 (winV h k) by
    rw [HV.out]
    refine ⟨us, u1, ?_, fun j s u hj hu => (U3.out j s u hj hu).below hb3⟩
    have := Sl.of_own ho3
    rw [HLD.out, HMM.out]
    simpa using this)
  have HB3 := Lib.hid hb3
  clear ho3 hg3 hb3
  go_wp2
  go_ret
  exact ⟨_, rfl, HF.out, HB3.out⟩
set_option maxRecDepth 100000 in
set_option maxHeartbeats 8000000 in
theorem win_any (ad : Addr) (c : Nat) (h : List Snp) (k : Int) (w : World) (hs : SlSn w (.slice (some ad) h.length c) h) (h0 : 0 < h.length) (hl : h.length ≤ 1000) (hle : ∀ s ∈ h, s.l.length ≤ 1000000) (hk : -9223372036854775808 ≤ k ∧ k ≤ 9223372036854775807) :
    Calls Try.prog 30 #[.slice (some ad) h.length c, .int .i64 k] w (RetSl w (winV h k)) := by
  obtain ⟨_, _, e, hc1, hc2⟩ := hs.form
  cases e
  unfold maxLen at hc2
  obtain ⟨hk1, hk2⟩ := hk
  by_cases hlt : k < 1
  · have HV := Lib.hid (show winV h k = [] from if_pos hlt)
    go_enter Try.func30, Try.ntmps30
    go_wp2
    go_ret
    exact ⟨_, rfl, by rw [HV.out]; exact SlSn.nil _, Below.refl _ _⟩
  obtain ⟨K, hK⟩ : ∃ K : Nat, h.length - k.toNat = K := ⟨_, rfl⟩
  have HV := Lib.hid (show winV h k = h.drop K by unfold winV; rw [if_neg hlt, hK])
  have hKl : K < h.length := by omega
  have HD := Lib.hid (hs.drop rfl hKl)
  have hmax : max 0 ((h.length : Int) - k) = K := by omega
  have hdd : decide (k < 1) = false := by simpa using hlt
  have HLD := Lib.hid (show (h.drop K).length = h.length - K by simp)
  have HLE := Lib.hid (show ∀ s ∈ h.drop K, s.l.length ≤ 1000000 from fun s hs => hle s (List.mem_of_mem_drop hs))
  obtain ⟨L, hL⟩ : ∃ L, h.drop K = L := ⟨_, rfl⟩
  rw [hL] at HD HLD HLE HV
  have HL1 := Lib.hid (show L.length ≤ 1000 by rw [HLD.out]; omega)
  clear hle hL
  go_enter Try.func30, Try.ntmps30
  go_wp2
  go_loopw [5, 18] (fun vl i wr => ∃ m : Nat, i = .int .i64 m ∧ m ≤ L.length ∧ OwnSn wr w.heap.size vl (L.take m) ∧ Below w.heap.size w wr) (fun _ i _ => L.length - (intOf i).toNat)
  case atStart => exact ⟨0, rfl, by omega, OwnSn.nil _ _, Below.refl _ _⟩
  case round =>
    obtain ⟨m, rfl, hm, hown, hbel⟩ := hrel
    have hll := HLD.out
    have hl1 := HL1.out
    by_cases hlm : m < L.length
    · obtain ⟨ad1, s, u, p, hA, hse, hp, hSA, hSl⟩ := (HD.out.below hbel).load (k := m) hll.symm (by omega)
      cases hA
      obtain ⟨hplt, c0, c1, c2, c3⟩ := hSA
      obtain ⟨AL, cL, rfl, hL1, hL2⟩ := hSl.form
      have HSE := Lib.hid hse
      have HLM := Lib.hid hlm
      have HS6 := Lib.hid (HLE.out s (List.mem_of_getElem? hse))
      have HTL := Lib.hid (show (L.take m).length = m by rw [List.length_take]; omega)
      clear hse
      go_upto_region 7 with (fail)
      obtain ⟨w2, hw2⟩ : ∃ w2, w2 = wr.alloc (.cells #[.int .i64 s.ver, .int .i64 s.seq, .int .i64 s.nid, .slice AL s.l.length cL] 24) := ⟨_, rfl⟩
      obtain ⟨B, hB⟩ : ∃ B, wr.heap.size = B := ⟨_, rfl⟩
      have BS := Lib.hid (show Blk w2 B 24 #[.int .i64 s.ver, .int .i64 s.seq, .int .i64 s.nid, .slice AL s.l.length cL] by rw [hw2, ← hB]; exact Blk.new _ _ _)
      have W2 := Lib.hid (show Below wr.heap.size wr w2 by rw [hw2]; exact abel _ _)
      have HCL := Lib.hid (clone_any (.slice AL s.l.length cL) s.l w2 (hSl.below W2.out) HS6.out)
      have OWN := Lib.hid hown
      have BEL := Lib.hid hbel
      have HBB := Lib.hid hB
      rw [← hw2]
      simp only [hB]
      clear hw2 hown hbel hSl c0 c1 c2 c3 hB hplt
      have bb := BS.out
      have n0 := bb.cell 0
      have n1 := bb.cell 1
      have n2 := bb.cell 2
      have n3 := bb.cell 3
      simp only [List.getElem?_toArray, List.getElem?_cons_zero, List.getElem?_cons_succ] at n0 n1 n2 n3
      clear bb
      go_wp2_with fail
      refine HCL.out.mono ?_
      rintro _ w3 ⟨v3, rfl, ho3, hb3⟩
      obtain ⟨A3, k3, rfl, _, _⟩ := (Sl.of_own ho3).form
      have R3 := Lib.hid (BS.out.below hb3 BS.out.lt)
      have W3 := Lib.hid (bst W2.out hb3)
      have O3 := Lib.hid ho3
      clear hb3 ho3 HCL n0 n1 n2 n3
      have bb := R3.out
      have n0 := bb.cell 0
      have n1 := bb.cell 1
      have n2 := bb.cell 2
      have n3 := bb.cell 3
      simp only [List.getElem?_toArray, List.getElem?_cons_zero, List.getElem?_cons_succ] at n0 n1 n2 n3
      clear bb
      have f3 := R3.out.frozen 3
      have hlt3 := R3.out.lt
      go_upto_region 8 with (fail)
      obtain ⟨w4, hw4⟩ : ∃ w4, w4 = w3.setCell ⟨B, 3, none⟩ (.slice A3 s.l.length k3) := ⟨_, rfl⟩
      have kg : w3.grownBy w4 (some B) := by rw [hw4]; exact grownBy_set w3 ⟨B, 3, none⟩ _
      have R4 := Lib.hid (show Blk w4 B 24 #[.int .i64 s.ver, .int .i64 s.seq, .int .i64 s.nid, .slice A3 s.l.length k3] by rw [hw4]; exact R3.out.set_ 3 (.slice A3 s.l.length k3))
      have W4 := Lib.hid (below_row W3.out kg (by have := HBB.out; omega) W3.out.size)
      have O4 := Lib.hid (own_row O3.out kg (fun b hb e => own_blk_ne O3.out R3.out (by decide) (by rw [hb, e])))
      rw [← hw4]
      clear hw4 kg f3 hlt3 n0 n1 n2 n3
      obtain ⟨us, hu1, hu2, hu3⟩ := OWN.out.below W4.out
      rw [HTL.out] at hu2
      have HU := Lib.hid (⟨hu1, hu3⟩ : _ ∧ _)
      have HBW := Lib.hid (bst BEL.out W4.out)
      have hsz := HBW.out.size
      clear hu1 hu3
      have bb := R4.out
      have n0 := bb.cell 0
      have n1 := bb.cell 1
      have n2 := bb.cell 2
      have n3 := bb.cell 3
      simp only [List.getElem?_toArray, List.getElem?_cons_zero, List.getElem?_cons_succ] at n0 n1 n2 n3
      clear bb
      have hl4 := R4.out.lt
      go_wp2_with (at_builtin; go_must (refine app1 _ _ hu2 (Below.refl w.heap.size w4) (Nat.le_refl _) hsz under_snap info_snap rfl (by decide) rfl (one4 _ _ _ _ _ _) (by omega) (by omega) rfl rfl rfl rfl ?_))
      intro g' cap' w9 ho9 hb9 hg9 hor9
      have O9 := Lib.hid (own_snoc (h := L.take m) (s := s) (u := .slice A3 s.l.length k3) HU.out.1 (by rw [HTL.out]; exact hu2) HU.out.2 (own_mono O4.out (Nat.le_trans BEL.out.size W2.out.size)) (by rw [HTL.out]; exact ho9) hg9)
      have HTK := Lib.hid (show L.take (m + 1) = L.take m ++ [s] by rw [List.take_add_one, HSE.out]; rfl)
      have B9 := Lib.hid (HBW.out.trans hb9)
      clear ho9 hb9 hg9 hor9 hu2 hsz n0 n1 n2 n3 hl4
      go_wp2
      go_roundw
      case rel => exact ⟨m + 1, by go_num, HLM.out, by rw [HTK.out]; exact O9.out, B9.out⟩
      case measure => have := HLM.out; simp [intOf]; omega
    · have hmL : L.take m = L := List.take_of_length_le (by omega)
      rw [hmL] at hown
      have OWN := Lib.hid hown
      have BEL := Lib.hid hbel
      clear hown hbel hmL
      go_wp2
      go_ret
      exact ⟨_, rfl, by rw [HV.out]; exact OWN.out.sl, BEL.out⟩
end Go.Proofs.Ytoikgjhekemjdaa
