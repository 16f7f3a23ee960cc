/-
  The contracts of decimal.digits, of strings.CutPrefix at "-", and of strings.Cut at ".".
-/
import Derived.Test.YtgdahafokjdafaaGreatDoorDecScan
import Derived.Test.YtgdahafokjdafaaGreatDoorShelf
import Derived.Test.YtgdahafokjdafaaGreatDoorBase
import Derived.Deep.QuietTactic
import Derived.BigQuiet
namespace Go.Proofs.YtgdahafokjdafaaGreatDoor
open Go.RowKit Go.Sort
set_option linter.unusedVariables false
set_option maxHeartbeats 1000000 in
theorem ddig_any (s : ByteArray) (w : World) (hs : s.size ≤ 9223372036854775807) : Calls Tryz.prog 37 #[.string s] w (Ret0 w (digsB s.data.toList)) := by
  go_enter Tryz.func37, Tryz.ntmps37
  go_wp2
  go_loop [6] (fun i => ∃ k : Nat, k ≤ s.size ∧ i = .int .i64 k ∧ Hid (DigTo s k)) (fun i => s.size - (intOf i).toNat)
  case atStart => exact ⟨0, by omega, rfl, Lib.hid (DigTo.zero s)⟩
  case round =>
    obtain ⟨k, hk, rfl, hok⟩ := hrel
    by_cases hlt : k < s.size
    · rcases digB_cases s[k] with ⟨ho, h1, h2⟩ | ⟨ho, h1⟩ | ⟨ho, h1⟩
      · have HO := Lib.hid (hok.out.next hlt ho)
        clear ho hok
        go_wp2
        go_round
        case rel => exact ⟨k + 1, by omega, by go_num, HO⟩
        case measure => simp [intOf]; omega
      · have HN := Lib.hid (digs_no hlt ho)
        clear ho hok
        go_wp2
        go_ret
        exact Ret0.mk_ HN.out
      · have HN := Lib.hid (digs_no hlt ho)
        clear ho hok
        go_wp2
        go_ret
        exact Ret0.mk_ HN.out
    · rcases Nat.eq_zero_or_pos s.size with h0 | h0
      · have HN := Lib.hid (digs_nil h0)
        have e1 : s.toList = [] := toList_nil h0
        have e0 : s.toList.isEmpty = true := by rw [e1]; rfl
        clear hok
        go_wp2
        go_ret
        exact Ret0.mk_ HN.out
      · have HN := Lib.hid (digs_yes h0 hok.out (by omega))
        have e0 : s.toList.isEmpty = false := toList_ne h0
        clear hok
        go_wp2
        go_ret
        exact Ret0.mk_ HN.out
theorem hasPre_neg (l : List UInt8) : Lib.hasPrefix l [45] = negB l := by
  cases l with
  | nil => rfl
  | cons c r =>
    unfold Lib.hasPrefix negB
    rw [List.headD_cons]
    by_cases h : c = 45
    · subst h; simp [List.isPrefixOf]
    · rw [decide_eq_false h]; simp [List.isPrefixOf, Ne.symm h]
def RetCutP (w : World) (B : ByteArray) (b : Bool) (e : Ending) (w' : World) : Prop := e = .returned (.tuple #[.string B, .bool b]) ∧ w = w'
set_option maxHeartbeats 1000000 in
theorem cutpre_in (s B : ByteArray) (hB : B.data.toList = bodyL s.data.toList) (w : World) (hs : s.size ≤ 9223372036854775807) :
    Calls Tryz.prog 67 #[.string s, .string { data := #[45] }] w (RetCutP w B (negB s.data.toList)) := by
  have CH := Lib.hid (fun X => Tryz.stringslite_HasPrefix s { data := #[45] } X)
  rw [show ({ data := #[45] } : ByteArray).data.toList = [45] from rfl, hasPre_neg] at CH
  cases hn : negB s.data.toList with
  | false =>
    have hBs : B = s := strEq (by rw [hB]; unfold bodyL; rw [hn]; rfl)
    rw [hn] at CH
    subst hBs
    clear hB hn
    go_enter Tryz.func67, Tryz.ntmps67
    go_wp2_with fail
    refine (CH.out _).mono ?_
    rintro _ _ ⟨rfl, rfl⟩
    go_wp2
    go_ret2
    exact ⟨rfl, rfl⟩
  | true =>
    have h0 : 0 < s.size := by
      rcases Nat.eq_zero_or_pos s.size with h | h
      · have : s.data.toList = [] := List.eq_nil_of_length_eq_zero (by rw [size_data]; exact h)
        rw [this] at hn; exact absurd hn (by decide)
      · exact h
    have hBs : s.extract 1 s.size = B := strEq (by
      rw [hB]; unfold bodyL; rw [hn, if_pos rfl, Lib.extract_from]; simp)
    have HB := Lib.hid hBs
    rw [hn] at CH
    clear hB hn hBs
    go_enter Tryz.func67, Tryz.ntmps67
    go_wp2_with fail
    refine (CH.out _).mono ?_
    rintro _ _ ⟨rfl, rfl⟩
    go_wp2
    go_ret2
    exact ⟨by rw [← HB.out]; first | rfl | simp, rfl⟩
theorem cutpre_any (s B : ByteArray) (hB : B.data.toList = bodyL s.data.toList) (w : World) (hs : s.size ≤ 9223372036854775807) :
    Calls Tryz.prog 35 #[.string s, .string { data := #[45] }] w (RetCutP w B (negB s.data.toList)) := by
  have CH := Lib.hid (cutpre_in s B hB w hs)
  clear hB
  go_enter Tryz.func35, Tryz.ntmps35
  go_wp2_with fail
  refine CH.out.mono ?_
  rintro _ _ ⟨rfl, rfl⟩
  go_wp2
  go_ret2
  exact ⟨rfl, rfl⟩
def RetCut (w : World) (W F : ByteArray) (b : Bool) (e : Ending) (w' : World) : Prop := e = .returned (.tuple #[.string W, .string F, .bool b]) ∧ ∃ n, w' = w.drewN n
set_option maxHeartbeats 1000000 in
theorem cut_in (s W F : ByteArray) (pt : Bool) (hW : W.data.toList = cutW s.data.toList) (hF : F.data.toList = (cutR s.data.toList).tail) (hp : pt = decide (cutR s.data.toList ≠ [])) (w : World) (hs : s.size ≤ 9223372036854775806) :
    Calls Tryz.prog 68 #[.string s, .string { data := #[46] }] w (RetCut w W F pt) := by
  have CI := Lib.hid (fun X => Tryz.stringslite_Index_one s 46 X)
  have hge := Lib.indexByte_ge s.data.toList 46
  by_cases h : Lib.indexByte s.data.toList 46 = -1
  · obtain ⟨e1, e2⟩ := cut_none h
    rw [e1] at hW
    rw [e2] at hF hp
    obtain rfl : W = s := strEq hW
    obtain rfl : F = { data := #[] } := strEq hF
    obtain rfl : pt = false := by rw [hp]; simp
    rw [h] at CI
    clear hW hF hp hge h e1 e2
    go_enter Tryz.func68, Tryz.ntmps68
    go_wp2_with fail
    refine (CI.out _).mono ?_
    rintro _ _ ⟨rfl, rfl⟩
    go_wp2
    go_ret3
    exact ⟨rfl, 0, rfl⟩
  · obtain ⟨i, hi⟩ : ∃ i : Nat, Lib.indexByte s.data.toList 46 = (i : Int) := ⟨(Lib.indexByte s.data.toList 46).toNat, by omega⟩
    obtain ⟨e1, e2, e3⟩ := cut_some hi
    rw [e1] at hW
    rw [e2] at hF hp
    rw [size_data] at e3
    have hWs := Lib.hid (show s.extract 0 i = W from strEq (by rw [hW, Lib.extract_upto]))
    have hFs := Lib.hid (show s.extract (i + 1) s.size = F from strEq (by rw [hF, Lib.extract_from]; rfl))
    obtain rfl : pt = true := by rw [hp]; simp
    rw [hi] at CI
    clear hW hF hp hge h hi e1 e2
    go_enter Tryz.func68, Tryz.ntmps68
    go_wp2_with fail
    refine (CI.out _).mono ?_
    rintro _ _ ⟨rfl, rfl⟩
    go_wp2
    go_quiet (fail)
    go_wp2
    go_ret3
    exact ⟨by rw [← hWs.out, ← hFs.out]; first | rfl | simp, _, rfl⟩
theorem cut_any (s W F : ByteArray) (pt : Bool) (hW : W.data.toList = cutW s.data.toList) (hF : F.data.toList = (cutR s.data.toList).tail) (hp : pt = decide (cutR s.data.toList ≠ [])) (w : World) (hs : s.size ≤ 9223372036854775806) :
    Calls Tryz.prog 36 #[.string s, .string { data := #[46] }] w (RetCut w W F pt) := by
  have CH := Lib.hid (cut_in s W F pt hW hF hp w hs)
  clear hW hF hp
  go_enter Tryz.func36, Tryz.ntmps36
  go_wp2_with fail
  refine CH.out.mono ?_
  rintro _ _ ⟨rfl, n, rfl⟩
  go_wp2
  go_ret3
  exact ⟨rfl, n, rfl⟩
end Go.Proofs.YtgdahafokjdafaaGreatDoor
