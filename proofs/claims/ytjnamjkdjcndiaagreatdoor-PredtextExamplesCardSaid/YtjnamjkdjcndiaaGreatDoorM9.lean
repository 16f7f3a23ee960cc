/-
  Words, plain laws and contracts on which the walks lean, in one text.
-/
import Derived.Test.YtjnamjkdjcndiaaGreatDoorM8
import Derived.Test.YtjnamjkdjcndiaaGreatDoorShelf
import Derived.Test.YtjnamjkdjcndiaaGreatDoorM1
import Derived.Deep.QuietTactic
import Derived.BigQuiet
import Derived.Test.YtjnamjkdjcndiaaGreatDoorM7
import Derived.Shelf.Strconv.ErrVarParseInt
import Derived.Deep.DeepCutAuto
import Derived.Deep.CutBlock
namespace Go.Proofs.YtjnamjkdjcndiaaGreatDoor
open Go.RowKit Go.Sort
set_option linter.unusedVariables false
set_option maxHeartbeats 1000000 in
theorem ddig_any (s : ByteArray) (w : World) (hs : s.size ≤ 9223372036854775807) : Calls Tryz.prog 130 #[.string s] w (Ret0 w (digsB s.data.toList)) := by
  go_enter Tryz.func130, Tryz.ntmps130
  go_wp2
  go_loop [6] (fun i => ∃ k : Nat, k ≤ s.size ∧ i = .int .i64 k ∧ Hid (DigTo s k)) (fun i => s.size - (intOf i).toNat)
  case atStart => exact ⟨0, by omega, rfl, Lib.hid (DigTo.zero s)⟩
  case round =>
    obtain ⟨k, hk, rfl, hok⟩ := hrel
    by_cases hlt : k < s.size
    · rcases digB_cases s[k] with ⟨ho, h1, h2⟩ | ⟨ho, h1⟩ | ⟨ho, h1⟩
      · have HO := Lib.hid (hok.out.next hlt ho)
        clear ho hok
        go_wp2
        go_round
        case rel => exact ⟨k + 1, by omega, by go_num, HO⟩
        case measure => simp [intOf]; omega
      · have HN := Lib.hid (digs_no hlt ho)
        clear ho hok
        go_wp2
        go_ret
        exact Ret0.mk_ HN.out
      · have HN := Lib.hid (digs_no hlt ho)
        clear ho hok
        go_wp2
        go_ret
        exact Ret0.mk_ HN.out
    · rcases Nat.eq_zero_or_pos s.size with h0 | h0
      · have HN := Lib.hid (digs_nil h0)
        have e1 : s.toList = [] := toList_nil h0
        have e0 : s.toList.isEmpty = true := by rw [e1]; rfl
        clear hok
        go_wp2
        go_ret
        exact Ret0.mk_ HN.out
      · have HN := Lib.hid (digs_yes h0 hok.out (by omega))
        have e0 : s.toList.isEmpty = false := toList_ne h0
        clear hok
        go_wp2
        go_ret
        exact Ret0.mk_ HN.out
theorem hasPre_neg (l : List UInt8) : Lib.hasPrefix l [45] = negB l := by
  cases l with
  | nil => rfl
  | cons c r =>
    unfold Lib.hasPrefix negB
    rw [List.headD_cons]
    by_cases h : c = 45
    · subst h; simp [List.isPrefixOf]
    · rw [decide_eq_false h]; simp [List.isPrefixOf, Ne.symm h]
def RetCutP (w : World) (B : ByteArray) (b : Bool) (e : Ending) (w' : World) : Prop := e = .returned (.tuple #[.string B, .bool b]) ∧ w = w'
set_option maxHeartbeats 1000000 in
theorem cutpre_in (s B : ByteArray) (hB : B.data.toList = bodyL s.data.toList) (w : World) (hs : s.size ≤ 9223372036854775807) :
    Calls Tryz.prog 157 #[.string s, .string { data := #[45] }] w (RetCutP w B (negB s.data.toList)) := by
  have CH := Lib.hid (fun X => Tryz.stringslite_HasPrefix s { data := #[45] } X)
  rw [show ({ data := #[45] } : ByteArray).data.toList = [45] from rfl, hasPre_neg] at CH
  cases hn : negB s.data.toList with
  | false =>
    have hBs : B = s := strEq (by rw [hB]; unfold bodyL; rw [hn]; rfl)
    rw [hn] at CH
    subst hBs
    clear hB hn
    go_enter Tryz.func157, Tryz.ntmps157
    go_wp2_with fail
    refine (CH.out _).mono ?_
    rintro _ _ ⟨rfl, rfl⟩
    go_wp2
    go_ret2
    exact ⟨rfl, rfl⟩
  | true =>
    have h0 : 0 < s.size := by
      rcases Nat.eq_zero_or_pos s.size with h | h
      · have : s.data.toList = [] := List.eq_nil_of_length_eq_zero (by rw [size_data]; exact h)
        rw [this] at hn; exact absurd hn (by decide)
      · exact h
    have hBs : s.extract 1 s.size = B := strEq (by
      rw [hB]; unfold bodyL; rw [hn, if_pos rfl, Lib.extract_from]; simp)
    have HB := Lib.hid hBs
    rw [hn] at CH
    clear hB hn hBs
    go_enter Tryz.func157, Tryz.ntmps157
    go_wp2_with fail
    refine (CH.out _).mono ?_
    rintro _ _ ⟨rfl, rfl⟩
    go_wp2
    go_ret2
    exact ⟨by rw [← HB.out]; first | rfl | simp, rfl⟩
theorem cutpre_any (s B : ByteArray) (hB : B.data.toList = bodyL s.data.toList) (w : World) (hs : s.size ≤ 9223372036854775807) :
    Calls Tryz.prog 128 #[.string s, .string { data := #[45] }] w (RetCutP w B (negB s.data.toList)) := by
  have CH := Lib.hid (cutpre_in s B hB w hs)
  clear hB
  go_enter Tryz.func128, Tryz.ntmps128
  go_wp2_with fail
  refine CH.out.mono ?_
  rintro _ _ ⟨rfl, rfl⟩
  go_wp2
  go_ret2
  exact ⟨rfl, rfl⟩
def RetCut (w : World) (W F : ByteArray) (b : Bool) (e : Ending) (w' : World) : Prop := e = .returned (.tuple #[.string W, .string F, .bool b]) ∧ ∃ n, w' = w.drewN n
set_option maxHeartbeats 1000000 in
theorem cut_in (s W F : ByteArray) (pt : Bool) (hW : W.data.toList = cutW s.data.toList) (hF : F.data.toList = (cutR s.data.toList).tail) (hp : pt = decide (cutR s.data.toList ≠ [])) (w : World) (hs : s.size ≤ 9223372036854775806) :
    Calls Tryz.prog 158 #[.string s, .string { data := #[46] }] w (RetCut w W F pt) := by
  have CI := Lib.hid (fun X => Tryz.stringslite_Index_one s 46 X)
  have hge := Lib.indexByte_ge s.data.toList 46
  by_cases h : Lib.indexByte s.data.toList 46 = -1
  · obtain ⟨e1, e2⟩ := cut_none h
    rw [e1] at hW
    rw [e2] at hF hp
    obtain rfl : W = s := strEq hW
    obtain rfl : F = { data := #[] } := strEq hF
    obtain rfl : pt = false := by rw [hp]; simp
    rw [h] at CI
    clear hW hF hp hge h e1 e2
    go_enter Tryz.func158, Tryz.ntmps158
    go_wp2_with fail
    refine (CI.out _).mono ?_
    rintro _ _ ⟨rfl, rfl⟩
    go_wp2
    go_ret3
    exact ⟨rfl, 0, rfl⟩
  · obtain ⟨i, hi⟩ : ∃ i : Nat, Lib.indexByte s.data.toList 46 = (i : Int) := ⟨(Lib.indexByte s.data.toList 46).toNat, by omega⟩
    obtain ⟨e1, e2, e3⟩ := cut_some hi
    rw [e1] at hW
    rw [e2] at hF hp
    rw [size_data] at e3
    have hWs := Lib.hid (show s.extract 0 i = W from strEq (by rw [hW, Lib.extract_upto]))
    have hFs := Lib.hid (show s.extract (i + 1) s.size = F from strEq (by rw [hF, Lib.extract_from]; rfl))
    obtain rfl : pt = true := by rw [hp]; simp
    rw [hi] at CI
    clear hW hF hp hge h hi e1 e2
    go_enter Tryz.func158, Tryz.ntmps158
    go_wp2_with fail
    refine (CI.out _).mono ?_
    rintro _ _ ⟨rfl, rfl⟩
    go_wp2
    go_quiet (fail)
    go_wp2
    go_ret3
    exact ⟨by rw [← hWs.out, ← hFs.out]; first | rfl | simp, _, rfl⟩
theorem cut_any (s W F : ByteArray) (pt : Bool) (hW : W.data.toList = cutW s.data.toList) (hF : F.data.toList = (cutR s.data.toList).tail) (hp : pt = decide (cutR s.data.toList ≠ [])) (w : World) (hs : s.size ≤ 9223372036854775806) :
    Calls Tryz.prog 129 #[.string s, .string { data := #[46] }] w (RetCut w W F pt) := by
  have CH := Lib.hid (cut_in s W F pt hW hF hp w hs)
  clear hW hF hp
  go_enter Tryz.func129, Tryz.ntmps129
  go_wp2_with fail
  refine CH.out.mono ?_
  rintro _ _ ⟨rfl, n, rfl⟩
  go_wp2
  go_ret3
  exact ⟨rfl, n, rfl⟩
end Go.Proofs.YtjnamjkdjcndiaaGreatDoor
namespace Go.Proofs.YtjnamjkdjcndiaaGreatDoor
end Go.Proofs.YtjnamjkdjcndiaaGreatDoor
namespace Go.Proofs.YtjnamjkdjcndiaaGreatDoor
open Go.RowKit Go.Sort
set_option linter.unusedVariables false
def RetRb (w : World) (r : Int × Int) (e : Ending) (w' : World) : Prop := e = .returned (.tuple #[.int .i64 r.1, .int .i64 r.2]) ∧ Below w.heap.size w w'
theorem RetRb.mk_ {w w' : World} {r : Int × Int} {a b : Int} (h : r = (a, b)) (hb : Below w.heap.size w w') : RetRb w r (.returned (.tuple #[.int .i64 a, .int .i64 b])) w' := by subst h; exact ⟨rfl, hb⟩
theorem cut_len (t : List UInt8) : (cutW t).length + (cutR t).tail.length ≤ t.length := by
  have h := congrArg List.length (cut_whole t)
  rw [List.length_append] at h
  have : (cutR t).tail.length ≤ (cutR t).length := by rw [List.length_tail]; omega
  omega
theorem body_len (l : List UInt8) : (bodyL l).length ≤ l.length := by
  unfold bodyL; split
  · rw [List.length_tail]; omega
  · exact Nat.le_refl _
theorem rep_48 (c : Nat) : Lib.repeatL [48] c = List.replicate c 48 := by
  induction c with
  | zero => rfl
  | succ c ih => rw [Lib.repeatL, ih]; rfl
/-- ParseInt at digits: the number, where it is small. -/
theorem pint_ok (Z : ByteArray) (hd : Z.data.toList.all digB = true) (hne : Z.data.toList ≠ []) (hv : valN Z.data.toList ≤ 999999999999999999) (w : World) (hs : Z.size ≤ 281474976710656) :
    Calls Tryz.prog 127 #[.string Z, .int .i64 10, .int .i64 64] w fun e w' => e = .returned (.tuple #[.int .i64 (valN Z.data.toList : Int), .nilIface]) ∧ Below w.heap.size w w' :=
  (Tryz.strconv_ParseInt_10_at64_ok Z (by omega) _ (pint_small hd hne hv) w).mono fun _ _ ⟨h1, h2⟩ => ⟨h1, below_bw h2⟩
/-- ParseInt at digits: where the number is great, an error, or a number that is not permitted. -/
def RetPBig (w : World) (e : Ending) (w' : World) : Prop :=
  (∃ (x : Int) (N : Nat), e = .returned (.tuple #[.int .i64 x, .iface 199 (.pointer (some ⟨N, 0, none⟩))]) ∧ Below w.heap.size w w') ∨
  (∃ x : Int, withB x = false ∧ e = .returned (.tuple #[.int .i64 x, .nilIface]) ∧ Below w.heap.size w w')
theorem pint_big (Z : ByteArray) (hd : Z.data.toList.all digB = true) (hne : Z.data.toList ≠ []) (hv : 999999999999999999 < valN Z.data.toList) (w : World) (hs : Z.size ≤ 281474976710656) (hE : Env w) :
    Calls Tryz.prog 127 #[.string Z, .int .i64 10, .int .i64 64] w (RetPBig w) := by
  obtain ⟨_, ⟨tp, p, h1⟩, ⟨tq, q, h2⟩⟩ := hE
  rcases hh : Lib.parseIntB 64 Z.data.toList with x | _ | _
  · have hx := pint_sound hd hne hh
    exact (Tryz.strconv_ParseInt_10_at64_ok Z (by omega) _ hh w).mono fun _ _ ⟨h1, h2⟩ => .inr ⟨x, by unfold withB; simp; omega, h1, below_bw h2⟩
  · exact (Any.strconv_ParseInt_10_at64_syntax_var Tryz.laysC174 Z (by omega) hh tp p w h1).mono fun _ _ ⟨N, a, _, _, b⟩ => .inl ⟨0, N, a, b⟩
  · exact (Tryz.strconv_ParseInt_10_at64_range_var Z (by omega) hh tq q w h2).mono fun _ _ ⟨N, a, _, _, b⟩ => .inl ⟨_, N, a, b⟩
theorem below_dn (w : World) (n : Nat) : Below w.heap.size w (w.drewN n) := below_drewN (Below.refl _ _) n
set_option maxRecDepth 100000 in
set_option maxHeartbeats 4000000 in
theorem decpar_any (s : ByteArray) (k : Int) (w : World) (hE : Env w) (hs : s.size ≤ 140737488351232) :
    Calls Tryz.prog 111 #[.string s, .int .i64 k] w (RetRb w (decP s.data.toList k)) := by
  have C1 := Lib.hid (fun X => scales_any k X)
  cases hk : scaB k with
  | false =>
    have HF := Lib.hid (decP_range (l := s.data.toList) hk)
    rw [hk] at C1
    clear hk
    go_enter Tryz.func111, Tryz.ntmps111
    go_wp2_with fail
    refine (C1.out _).mono ?_
    rintro _ _ ⟨rfl, rfl⟩
    go_wp2
    go_ret2
    exact RetRb.mk_ HF.out (Below.refl _ _)
  | true =>
  rw [hk] at C1
  have HE := Lib.hid hE
  have HK := Lib.hid hk
  have hk2 := scaB_bd hk
  obtain ⟨j, rfl⟩ := Int.eq_ofNat_of_zero_le hk2.1
  have hj : j ≤ 18 := by omega
  clear hE hk hk2
  obtain ⟨B, hB⟩ : ∃ B : ByteArray, B.data.toList = bodyL s.data.toList := ⟨⟨(bodyL s.data.toList).toArray⟩, by simp⟩
  obtain ⟨W, hW⟩ : ∃ W : ByteArray, W.data.toList = cutW B.data.toList := ⟨⟨(cutW B.data.toList).toArray⟩, by simp⟩
  obtain ⟨F, hF⟩ : ∃ F : ByteArray, F.data.toList = (cutR B.data.toList).tail := ⟨⟨(cutR B.data.toList).tail.toArray⟩, by simp⟩
  obtain ⟨pt, hp⟩ : ∃ pt : Bool, pt = decide (cutR B.data.toList ≠ []) := ⟨_, rfl⟩
  obtain ⟨ng, hn⟩ : ∃ ng : Bool, negB s.data.toList = ng := ⟨_, rfl⟩
  have hBl : B.size ≤ s.size := by rw [← size_data, ← size_data, hB]; exact body_len _
  have hWF : W.size + F.size ≤ B.size := by rw [← size_data, ← size_data F, ← size_data B, hW, hF]; exact cut_len _
  have CP := Lib.hid (fun X => cutpre_any s B hB X (by omega))
  rw [hn] at CP
  have CC := Lib.hid (fun X => cut_any B W F pt hW hF hp X (by omega))
  have D1 := Lib.hid (fun X => ddig_any W X (by omega))
  have D2 := Lib.hid (fun X => ddig_any F X (by omega))
  have HB := Lib.hid hB
  have HW := Lib.hid hW
  have HFF := Lib.hid hF
  have HP := Lib.hid hp
  have HN := Lib.hid hn
  clear hB hW hF hp hn
  cases hd1 : digsB W.data.toList with
  | false =>
    rw [hd1] at D1
    have HO := Lib.hid (decP_form HK.out (by rw [← HB.out]; exact form_bad1 (by rw [← HW.out]; exact hd1)) : decP s.data.toList (j : Int) = (0, 2))
    clear hd1
    go_enter Tryz.func111, Tryz.ntmps111
    go_wp2_with fail
    refine (C1.out _).mono ?_
    rintro _ _ ⟨rfl, rfl⟩
    go_wp2_with fail
    refine (CP.out _).mono ?_
    rintro _ _ ⟨rfl, rfl⟩
    go_wp2_with fail
    refine (CC.out _).mono ?_
    rintro _ _ ⟨rfl, n, rfl⟩
    go_wp2_with fail
    refine (D1.out _).mono ?_
    rintro _ _ ⟨rfl, rfl⟩
    go_wp2
    go_ret2
    exact RetRb.mk_ HO.out (below_dn w n)
  | true =>
  rw [hd1] at D1
  have HD1 := Lib.hid hd1
  have hW0 : 0 < W.size := by
    rcases Nat.eq_zero_or_pos W.size with h | h
    · rw [digs_nil h] at hd1; cases hd1
    · exact h
  clear hd1
  by_cases hld : 1 < W.size ∧ (W[0].toNat : Int) = 48
  case pos =>
    obtain ⟨l1, l2⟩ := hld
    have HO := Lib.hid (show decP s.data.toList (j : Int) = (0, 2) from decP_form HK.out (by
      rw [← HB.out]
      refine form_bad2 ?_
      rw [← HW.out]
      unfold leadB
      rw [size_data, head_data W hW0, decide_eq_true l1, decide_eq_true (UInt8.toNat_inj.1 (show W[0].toNat = (48 : UInt8).toNat by have : (48 : UInt8).toNat = 48 := rfl; omega))]; rfl))
    go_enter Tryz.func111, Tryz.ntmps111
    go_wp2_with fail
    refine (C1.out _).mono ?_
    rintro _ _ ⟨rfl, rfl⟩
    go_wp2_with fail
    refine (CP.out _).mono ?_
    rintro _ _ ⟨rfl, rfl⟩
    go_wp2_with fail
    refine (CC.out _).mono ?_
    rintro _ _ ⟨rfl, n, rfl⟩
    go_wp2_with fail
    refine (D1.out _).mono ?_
    rintro _ _ ⟨rfl, rfl⟩
    go_wp2
    go_ret2
    exact RetRb.mk_ HO.out (below_dn w n)
  have HLD := Lib.hid (show leadB (cutW B.data.toList) = false by
    rw [← HW.out]
    unfold leadB
    rw [size_data, head_data W hW0]
    by_cases h1 : 1 < W.size
    · have h2 : W[0] ≠ 48 := fun e => hld ⟨h1, by rw [e]; rfl⟩
      rw [decide_eq_false h2, Bool.and_false]
    · rw [decide_eq_false h1, Bool.false_and])
  have hld2 : ¬(1 < W.size) ∨ (1 < W.size ∧ (W[0].toNat : Int) ≠ 48) := by
    by_cases h1 : 1 < W.size
    · exact .inr ⟨h1, fun h => hld ⟨h1, h⟩⟩
    · exact .inl h1
  clear hld
  by_cases hdp : pt = true ∧ digsB F.data.toList = false
  case pos =>
    obtain ⟨rfl, hd2⟩ := hdp
    have HO := Lib.hid (show decP s.data.toList (j : Int) = (0, 2) from decP_form HK.out (by
      rw [← HB.out]
      exact form_bad3 (by have := HP.out; intro e; rw [e] at this; simp at this) (by rw [← HFF.out]; exact hd2)))
    rw [hd2] at D2
    clear hd2
    rcases hld2 with l1 | ⟨l1, l2⟩
    · skip
      go_enter Tryz.func111, Tryz.ntmps111
      go_wp2_with fail
      refine (C1.out _).mono ?_
      rintro _ _ ⟨rfl, rfl⟩
      go_wp2_with fail
      refine (CP.out _).mono ?_
      rintro _ _ ⟨rfl, rfl⟩
      go_wp2_with fail
      refine (CC.out _).mono ?_
      rintro _ _ ⟨rfl, n, rfl⟩
      go_wp2_with fail
      refine (D1.out _).mono ?_
      rintro _ _ ⟨rfl, rfl⟩
      go_wp2_with fail
      refine (D2.out _).mono ?_
      rintro _ _ ⟨rfl, rfl⟩
      go_wp2
      go_ret2
      exact RetRb.mk_ HO.out (below_dn w n)
    · have l3 : ((W[0].toNat : Int) == 48) = false := by rw [beq_eq_false_iff_ne]; exact l2
      go_enter Tryz.func111, Tryz.ntmps111
      go_wp2_with fail
      refine (C1.out _).mono ?_
      rintro _ _ ⟨rfl, rfl⟩
      go_wp2_with fail
      refine (CP.out _).mono ?_
      rintro _ _ ⟨rfl, rfl⟩
      go_wp2_with fail
      refine (CC.out _).mono ?_
      rintro _ _ ⟨rfl, n, rfl⟩
      go_wp2_with fail
      refine (D1.out _).mono ?_
      rintro _ _ ⟨rfl, rfl⟩
      go_wp2_with fail
      refine (D2.out _).mono ?_
      rintro _ _ ⟨rfl, rfl⟩
      go_wp2
      go_ret2
      exact RetRb.mk_ HO.out (below_dn w n)
  have HFO := Lib.hid (show FormOk (bodyL s.data.toList) by
    rw [← HB.out]
    refine ⟨by rw [← HW.out]; exact HD1.out, HLD.out, ?_⟩
    by_cases h : cutR B.data.toList = []
    · exact .inl h
    · refine .inr ?_
      rw [← HFF.out]
      have hpt : pt = true := by rw [HP.out]; simpa using h
      cases hd : digsB F.data.toList with
      | true => rfl
      | false => exact absurd ⟨hpt, hd⟩ hdp)
  have hdp2 : pt = false ∨ (pt = true ∧ digsB F.data.toList = true) := by
    cases hpt : pt with
    | false => exact .inl rfl
    | true =>
      refine .inr ⟨rfl, ?_⟩
      cases hd : digsB F.data.toList with
      | true => rfl
      | false => exact absurd ⟨hpt, hd⟩ hdp
  clear hdp
  have HWd := Lib.hid (show W.data.toList.all digB = true by have := HD1.out; unfold digsB at this; rw [Bool.and_eq_true] at this; exact this.1)
  have HFd := Lib.hid (show F.data.toList.all digB = true by rw [HFF.out, HB.out]; exact HFO.out.fdig)
  -- what stands behind the test of the form
  have HZ0 := Lib.hid (show ∀ (h1 : ng = true) (h2 : zeroB (W ++ F).data.toList = true), decP s.data.toList (j : Int) = (0, 2) from fun h1 h2 => by
    refine decP_zero HK.out HFO.out (HN.out.trans h1) ?_
    rw [← HB.out, ← HW.out, ← HFF.out, ← Array.toList_append, ← ByteArray.data_append]; exact h2)
  have HZ1 := Lib.hid (show ∀ (h : (ng && zeroB (W ++ F).data.toList) = false), decP s.data.toList (j : Int) = if (j : Int) < (F.size : Int) then (0, 8) else outP ng (valP W.data.toList F.data.toList (j - F.size)) from fun h => by
    have := decP_out (k := (j : Int)) HK.out HFO.out (by rw [HN.out, ← HB.out, ← HW.out, ← HFF.out, ← Array.toList_append, ← ByteArray.data_append]; exact h)
    rw [this, HN.out, ← HB.out, ← HW.out, ← HFF.out, size_data, Int.toNat_natCast])
  have CT := Lib.hid (fun X => Tryz.strings_Trim_one (W ++ F) 48 (by decide) X (by rw [ByteArray.size_append]; omega))
  have hWFs : (W ++ F).size = W.size + F.size := ByteArray.size_append
  rcases hld2 with l1 | ⟨l1, l2⟩
  all_goals
    try have l3 : ((W[0].toNat : Int) == 48) = false := by rw [beq_eq_false_iff_ne]; exact l2
    rcases hdp2 with rfl | ⟨rfl, hd2⟩
    all_goals
      try rw [hd2] at D2
      try clear hd2
      go_enter Tryz.func111, Tryz.ntmps111
      go_wp2_with fail
      refine (C1.out _).mono ?_
      rintro _ _ ⟨rfl, rfl⟩
      go_wp2_with fail
      refine (CP.out _).mono ?_
      rintro _ _ ⟨rfl, rfl⟩
      go_wp2_with fail
      refine (CC.out _).mono ?_
      rintro _ _ ⟨rfl, n, rfl⟩
      go_wp2_with fail
      refine (D1.out _).mono ?_
      rintro _ _ ⟨rfl, rfl⟩
      try (go_wp2_with fail; refine (D2.out _).mono ?_; rintro _ _ ⟨rfl, rfl⟩)
      go_upto_region 7 with (fail)
      obtain ⟨W1, hW1⟩ : ∃ W1, W1 = w.drewN n := ⟨_, rfl⟩
      have HB1 := Lib.hid (show Below w.heap.size w W1 by rw [hW1]; exact below_dn w n)
      rw [← hW1]
      clear hW1
      cases ng with
      | true =>
        cases hz : zeroB (W ++ F).data.toList with
        | true =>
          have HO := Lib.hid (HZ0.out rfl hz)
          have e0 : (⟨(Lib.trimB (W ++ F).data.toList 48).toArray⟩ : ByteArray) = { data := #[] } := by rw [trim_yes hz]
          rw [e0] at CT
          clear hz e0
          go_wp2_with fail
          refine (CT.out _).mono ?_
          rintro _ w2 ⟨rfl, hw2⟩
          have HB2 := Lib.hid (show Below w.heap.size w w2 by rcases hw2 with rfl | rfl; exact HB1.out; exact HB1.out.drew)
          clear hw2
          go_wp2
          go_ret2
          exact RetRb.mk_ HO.out HB2.out
        | false =>
          have HO := Lib.hid (HZ1.out (by rw [hz]; rfl))
          obtain ⟨Z0, hZ0⟩ : ∃ Z0 : ByteArray, Z0 = ⟨(Lib.trimB (W ++ F).data.toList 48).toArray⟩ := ⟨_, rfl⟩
          have e0 : Z0.toList.isEmpty = false := by
            rw [Go.ByteArray.toList_eq, hZ0, List.isEmpty_eq_false_iff]; exact trim_no hz
          rw [← hZ0] at CT
          clear hz hZ0
          go_wp2_with fail
          refine (CT.out _).mono ?_
          rintro _ w2 ⟨rfl, hw2⟩
          have HB2 := Lib.hid (show Below w.heap.size w w2 by rcases hw2 with rfl | rfl; exact HB1.out; exact HB1.out.drew)
          clear hw2 HB1
          by_cases hlong : (j : Int) < (F.size : Int)
          · have HO2 := Lib.hid (HO.out.trans (if_pos hlong))
            go_wp2
            go_ret2
            exact RetRb.mk_ HO2.out HB2.out
          · have HO2 := Lib.hid (HO.out.trans (if_neg hlong))
            have hFj : F.size ≤ j := by omega
            obtain ⟨Z, hZ⟩ : ∃ Z : ByteArray, W ++ F ++ ⟨(Lib.repeatL [48] (j - F.size)).toArray⟩ = Z := ⟨_, rfl⟩
            have hZl : Z.data.toList = W.data.toList ++ F.data.toList ++ List.replicate (j - F.size) 48 := by
              rw [← hZ, ByteArray.data_append, Array.toList_append, ByteArray.data_append, Array.toList_append, rep_48]
            have hZs : Z.size = W.size + F.size + (j - F.size) := by rw [← size_data, hZl]; simp only [List.length_append, List.length_replicate, size_data]
            have hRs : (⟨(Lib.repeatL [48] (j - F.size)).toArray⟩ : ByteArray).size = j - F.size := by rw [← size_data, rep_48]; simp
            obtain ⟨Rp, hRp⟩ : ∃ Rp : ByteArray, (⟨(Lib.repeatL [48] (j - F.size)).toArray⟩ : ByteArray) = Rp := ⟨_, rfl⟩
            rw [hRp] at hZ hRs
            have CR := Lib.hid (Tryz.strings_Repeat { data := #[48] } (j - F.size) w2 (by omega) (by show 1 * (j - F.size) ≤ _; omega))
            rw [show ({ data := #[48] } : ByteArray).data.toList = [48] from rfl, hRp, show ((j - F.size : Nat) : Int) = (j : Int) - (F.size : Int) by omega] at CR
            have hZd : Z.data.toList.all digB = true := by rw [hZl, List.all_append, List.all_append, HWd.out, HFd.out, rep_dig]; rfl
            have hZne : Z.data.toList ≠ [] := by intro e; have := size_data Z; rw [e] at this; simp at this; omega
            have hZv : valN Z.data.toList = valP W.data.toList F.data.toList (j - F.size) := by rw [hZl]; rfl
            have HZ := Lib.hid hZ
            have HRp := Lib.hid hRp
            clear hRp hZ
            rw [← hZv] at HO2
            by_cases hbig : 999999999999999999 < valN Z.data.toList
            · have HO3 := Lib.hid (HO2.out.trans (show outP true (valN Z.data.toList) = (0, 8) from if_pos hbig))
              have PB := Lib.hid (fun X h => pint_big Z hZd hZne hbig X (by omega) h)
              clear hZd hZne hZv hZl hbig
              go_wp2_with fail
              refine CR.out.mono ?_
              rintro _ w3 ⟨rfl, hw3⟩
              have HB3 := Lib.hid (bst HB2.out hw3)
              clear hw3
              go_wp2_with fail
              rw [HZ.out]
              refine (PB.out _ (HE.out.below HB3.out)).mono ?_
              rintro _ w4 hw4
              rcases hw4 with ⟨x, N, rfl, hb4⟩ | ⟨x, hx, rfl, hb4⟩
              · have HB4 := Lib.hid (bst HB3.out hb4)
                clear hb4
                go_wp2
                go_ret2
                exact RetRb.mk_ HO3.out HB4.out
              · have HB4 := Lib.hid (bst HB3.out hb4)
                have CW := Lib.hid (fun X => within_any x X)
                rw [hx] at CW
                clear hb4 hx
                go_wp2_with fail
                refine (CW.out _).mono ?_
                rintro _ _ ⟨rfl, rfl⟩
                go_wp2
                go_ret2
                exact RetRb.mk_ HO3.out HB4.out
            · have HO3 := Lib.hid (HO2.out.trans (show outP true (valN Z.data.toList) = (-(valN Z.data.toList : Int), 0) from if_neg hbig))
              have PS := Lib.hid (fun X => pint_ok Z hZd hZne (by omega) X (by omega))
              have CW := Lib.hid (fun X => within_any (valN Z.data.toList : Int) X)
              rw [show withB (valN Z.data.toList : Int) = true by unfold withB; simp; omega] at CW
              obtain ⟨x, hx⟩ : ∃ x, valN Z.data.toList = x := ⟨_, rfl⟩
              rw [hx] at CW PS HO3 hbig
              clear hZd hZne hZv hZl hx
              go_wp2_with fail
              refine CR.out.mono ?_
              rintro _ w3 ⟨rfl, hw3⟩
              have HB3 := Lib.hid (bst HB2.out hw3)
              clear hw3
              go_wp2_with fail
              rw [HZ.out]
              refine (PS.out _).mono ?_
              rintro _ w4 ⟨rfl, hb4⟩
              have HB4 := Lib.hid (bst HB3.out hb4)
              clear hb4
              go_wp2_with fail
              refine (CW.out _).mono ?_
              rintro _ _ ⟨rfl, rfl⟩
              go_wp2
              go_ret2
              exact RetRb.mk_ HO3.out HB4.out
      | false =>
        have HO := Lib.hid (HZ1.out rfl)
        have HB2 := HB1
        obtain ⟨w2, hw2⟩ : ∃ w2, w2 = W1 := ⟨_, rfl⟩
        rw [← hw2] at HB2 ⊢
        clear hw2 HB1
        by_cases hlong : (j : Int) < (F.size : Int)
        · have HO2 := Lib.hid (HO.out.trans (if_pos hlong))
          go_wp2
          go_ret2
          exact RetRb.mk_ HO2.out HB2.out
        · have HO2 := Lib.hid (HO.out.trans (if_neg hlong))
          have hFj : F.size ≤ j := by omega
          obtain ⟨Z, hZ⟩ : ∃ Z : ByteArray, W ++ F ++ ⟨(Lib.repeatL [48] (j - F.size)).toArray⟩ = Z := ⟨_, rfl⟩
          have hZl : Z.data.toList = W.data.toList ++ F.data.toList ++ List.replicate (j - F.size) 48 := by
            rw [← hZ, ByteArray.data_append, Array.toList_append, ByteArray.data_append, Array.toList_append, rep_48]
          have hZs : Z.size = W.size + F.size + (j - F.size) := by rw [← size_data, hZl]; simp only [List.length_append, List.length_replicate, size_data]
          have hRs : (⟨(Lib.repeatL [48] (j - F.size)).toArray⟩ : ByteArray).size = j - F.size := by rw [← size_data, rep_48]; simp
          obtain ⟨Rp, hRp⟩ : ∃ Rp : ByteArray, (⟨(Lib.repeatL [48] (j - F.size)).toArray⟩ : ByteArray) = Rp := ⟨_, rfl⟩
          rw [hRp] at hZ hRs
          have CR := Lib.hid (Tryz.strings_Repeat { data := #[48] } (j - F.size) w2 (by omega) (by show 1 * (j - F.size) ≤ _; omega))
          rw [show ({ data := #[48] } : ByteArray).data.toList = [48] from rfl, hRp, show ((j - F.size : Nat) : Int) = (j : Int) - (F.size : Int) by omega] at CR
          have hZd : Z.data.toList.all digB = true := by rw [hZl, List.all_append, List.all_append, HWd.out, HFd.out, rep_dig]; rfl
          have hZne : Z.data.toList ≠ [] := by intro e; have := size_data Z; rw [e] at this; simp at this; omega
          have hZv : valN Z.data.toList = valP W.data.toList F.data.toList (j - F.size) := by rw [hZl]; rfl
          have HZ := Lib.hid hZ
          have HRp := Lib.hid hRp
          clear hRp hZ
          rw [← hZv] at HO2
          by_cases hbig : 999999999999999999 < valN Z.data.toList
          · have HO3 := Lib.hid (HO2.out.trans (show outP false (valN Z.data.toList) = (0, 8) from if_pos hbig))
            have PB := Lib.hid (fun X h => pint_big Z hZd hZne hbig X (by omega) h)
            clear hZd hZne hZv hZl hbig
            go_wp2_with fail
            refine CR.out.mono ?_
            rintro _ w3 ⟨rfl, hw3⟩
            have HB3 := Lib.hid (bst HB2.out hw3)
            clear hw3
            go_wp2_with fail
            rw [HZ.out]
            refine (PB.out _ (HE.out.below HB3.out)).mono ?_
            rintro _ w4 hw4
            rcases hw4 with ⟨x, N, rfl, hb4⟩ | ⟨x, hx, rfl, hb4⟩
            · have HB4 := Lib.hid (bst HB3.out hb4)
              clear hb4
              go_wp2
              go_ret2
              exact RetRb.mk_ HO3.out HB4.out
            · have HB4 := Lib.hid (bst HB3.out hb4)
              have CW := Lib.hid (fun X => within_any x X)
              rw [hx] at CW
              clear hb4 hx
              go_wp2_with fail
              refine (CW.out _).mono ?_
              rintro _ _ ⟨rfl, rfl⟩
              go_wp2
              go_ret2
              exact RetRb.mk_ HO3.out HB4.out
          · have HO3 := Lib.hid (HO2.out.trans (show outP false (valN Z.data.toList) = ((valN Z.data.toList : Int), 0) from if_neg hbig))
            have PS := Lib.hid (fun X => pint_ok Z hZd hZne (by omega) X (by omega))
            have CW := Lib.hid (fun X => within_any (valN Z.data.toList : Int) X)
            rw [show withB (valN Z.data.toList : Int) = true by unfold withB; simp; omega] at CW
            obtain ⟨x, hx⟩ : ∃ x, valN Z.data.toList = x := ⟨_, rfl⟩
            rw [hx] at CW PS HO3 hbig
            clear hZd hZne hZv hZl hx
            go_wp2_with fail
            refine CR.out.mono ?_
            rintro _ w3 ⟨rfl, hw3⟩
            have HB3 := Lib.hid (bst HB2.out hw3)
            clear hw3
            go_wp2_with fail
            rw [HZ.out]
            refine (PS.out _).mono ?_
            rintro _ w4 ⟨rfl, hb4⟩
            have HB4 := Lib.hid (bst HB3.out hb4)
            clear hb4
            go_wp2_with fail
            refine (CW.out _).mono ?_
            rintro _ _ ⟨rfl, rfl⟩
            go_wp2
            go_ret2
            exact RetRb.mk_ HO3.out HB4.out
end Go.Proofs.YtjnamjkdjcndiaaGreatDoor
namespace Go.Proofs.YtjnamjkdjcndiaaGreatDoor
/-- The number of a day. -/
def daysV (y m d : Int) : Int × Int := if y < 1 ∨ 9999 < y ∨ m < 1 ∨ 12 < m ∨ d < 1 ∨ monL y m < d then (0, 4) else (jan y + cum y (m.toNat - 1) + d - 1, 0)
def pieY (l : List UInt8) : List UInt8 := l.take 4
def pieM (l : List UInt8) : List UInt8 := (l.drop 5).take 2
def pieD (l : List UInt8) : List UInt8 := l.drop 8
def dparV (l : List UInt8) : Int × Int :=
  if l.length ≠ 10 ∨ l.getD 4 0 ≠ 45 ∨ l.getD 7 0 ≠ 45 then (0, 2)
  else if ((pieY l).all digB && (pieM l).all digB && (pieD l).all digB) = false then (0, 2)
  else daysV (valN (pieY l)) (valN (pieM l)) (valN (pieD l))
theorem daysV_civ {n y m d : Int} (h : IsCiv n y m d) : daysV y m d = (n, 0) := by
  obtain ⟨h1, h2, k, rfl, hk, hn, h3, h4⟩ := h
  unfold daysV
  rw [if_neg (by omega), show ((k : Int) + 1).toNat - 1 = k by omega, ← hn]
theorem date_back {n y m d : Int} {Y M D : Nat} (h : IsCiv n y m d) (hy : y = Y) (hm : m = M) (hd : d = D) (hY : Y < 10000) (hM : M < 100) (hD : D < 100) : dparV (dateL Y M D) = (n, 0) := by
  have v4 := digL_val Y 4
  have v2 := digL_val M 2
  have v3 := digL_val D 2
  have a4 := digL_all Y 4
  have a2 := digL_all M 2
  have a3 := digL_all D 2
  have e : dateL Y M D = digL Y 4 ++ [45] ++ digL M 2 ++ [45] ++ digL D 2 := rfl
  rw [e]
  rw [digL_4 Y hY] at v4 a4 ⊢
  rw [digL_2 M hM] at v2 a2 ⊢
  rw [digL_2 D hD] at v3 a3 ⊢
  generalize UInt8.ofNat (48 + Y / 1000 % 10) = y0 at v4 a4 ⊢
  generalize UInt8.ofNat (48 + Y / 100 % 10) = y1 at v4 a4 ⊢
  generalize UInt8.ofNat (48 + Y / 10 % 10) = y2 at v4 a4 ⊢
  generalize UInt8.ofNat (48 + Y % 10) = y3 at v4 a4 ⊢
  generalize UInt8.ofNat (48 + M / 10 % 10) = m0 at v2 a2 ⊢
  generalize UInt8.ofNat (48 + M % 10) = m1 at v2 a2 ⊢
  generalize UInt8.ofNat (48 + D / 10 % 10) = d0 at v3 a3 ⊢
  generalize UInt8.ofNat (48 + D % 10) = d1 at v3 a3 ⊢
  have pY : pieY ([y0, y1, y2, y3] ++ [45] ++ [m0, m1] ++ [45] ++ [d0, d1]) = [y0, y1, y2, y3] := rfl
  have pM : pieM ([y0, y1, y2, y3] ++ [45] ++ [m0, m1] ++ [45] ++ [d0, d1]) = [m0, m1] := rfl
  have pD : pieD ([y0, y1, y2, y3] ++ [45] ++ [m0, m1] ++ [45] ++ [d0, d1]) = [d0, d1] := rfl
  unfold dparV
  rw [if_neg (by rintro (h1 | h1 | h1) <;> exact h1 rfl), pY, pM, pD, a4, a2, a3, if_neg (by decide), v4, v2, v3, ← hy, ← hm, ← hd]
  exact daysV_civ h
end Go.Proofs.YtjnamjkdjcndiaaGreatDoor
