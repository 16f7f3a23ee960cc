/-
  The contract of decimal.Format.
-/
import Derived.Test.YtjnamjkdjcndiaaDoorBase
import Derived.Test.YtjnamjkdjcndiaaDoorShelf
import Derived.Lib.Strings
import Derived.Lib.ItoaLen
import Derived.Lib.Repeat
import Derived.Lib.SmallJoins
import Derived.Lib.QuietBelow
import Derived.Deep.QuietTactic
import Derived.BigQuiet
namespace Go.Proofs.YtjnamjkdjcndiaaDoor
open Go.RowKit Go.Sort
/-- The library's table of powers of ten is as its text lays it. -/
abbrev Tab (w : World) : Prop := Lib.TabIs Tryd.prog w "internal/strconv.uint64pow10" .u64 Lib.pow10Tab
theorem tab_glob : Tryd.prog.globalNamed "internal/strconv.uint64pow10" = some 0 := by kernel_rfl
theorem Tab.below {w w' : World} (h : Tab w) (hb : Below w.heap.size w w') : Tab w' := Joins.tab_stays tab_glob h hb (Nat.le_refl _)
theorem sizeD (s : ByteArray) : s.data.toList.length = s.size := by rw [Array.length_toList]; rfl
theorem strEq {s t : ByteArray} (h : s.data.toList = t.data.toList) : s = t := by
  cases s; cases t; simp only [ByteArray.mk.injEq]; exact Array.toList_inj.1 h
def padL (m k : Nat) : List UInt8 := List.replicate (k + 1 - (Lib.itoa m).length) 48 ++ Lib.itoa m
theorem itoa_pos (m : Nat) : 1 ≤ (Lib.itoa (m : Int)).length := by
  rw [Lib.itoa_nonneg, Lib.decDigits_length]; exact Lib.nDigits_pos m
theorem itoa_le (m : Nat) (h : m ≤ 999999999999999999) : (Lib.itoa (m : Int)).length ≤ 21 := Lib.itoa_length_le m (by omega) (by omega)
theorem repeatL_48 (c : Nat) : Lib.repeatL [48] c = List.replicate c 48 := by
  induction c with
  | zero => rfl
  | succ c ih => rw [Lib.repeatL, ih]; rfl
theorem padL_len (m k : Nat) : k < (padL m k).length := by unfold padL; rw [List.length_append, List.length_replicate]; have := itoa_pos m; omega
theorem padL_le (m k : Nat) (h : m ≤ 999999999999999999) (hk : k ≤ 18) : (padL m k).length ≤ 60 := by unfold padL; rw [List.length_append, List.length_replicate]; have := itoa_le m h; omega
/-- The text of a number with a scale. -/
def decStr (neg : Bool) (m k : Nat) : List UInt8 :=
  (if neg then [45] else []) ++ (if k = 0 then padL m k else (padL m k).take ((padL m k).length - k) ++ [46] ++ (padL m k).drop ((padL m k).length - k))
def decV (n k : Int) : List UInt8 × Int := if withB n && scaB k then (decStr (decide (n < 0)) n.natAbs k.toNat, 0) else ([], 4)
theorem fin_eq (sg P : ByteArray) (j : Nat) (_h : j < P.size) : (sg ++ P.extract 0 (P.size - j) ++ { data := #[46] } ++ P.extract (P.size - j) P.size).data.toList = sg.data.toList ++ (P.data.toList.take (P.data.toList.length - j) ++ [46] ++ P.data.toList.drop (P.data.toList.length - j)) := by
  have e1 : (P.extract 0 (P.size - j)).data.toList = P.data.toList.take (P.data.toList.length - j) := by rw [Lib.extract_data, List.drop_zero, sizeD, Nat.sub_zero]
  have e2 : (P.extract (P.size - j) P.size).data.toList = P.data.toList.drop (P.data.toList.length - j) := by
    rw [Lib.extract_data, sizeD]; exact List.take_of_length_le (by rw [List.length_drop, sizeD]; omega)
  rw [ByteArray.data_append, ByteArray.data_append, ByteArray.data_append, Array.toList_append, Array.toList_append, Array.toList_append, e1, e2]
  simp
def RetDec (w : World) (r : List UInt8 × Int) (e : Ending) (w' : World) : Prop := e = .returned (.tuple #[.string ⟨r.1.toArray⟩, .int .i64 r.2]) ∧ Below w.heap.size w w'
theorem RetDec.mk_ {w w' : World} {r : List UInt8 × Int} {s : ByteArray} {x : Int} (h1 : s.data.toList = r.1) (h2 : x = r.2) (hb : Below w.heap.size w w') : RetDec w r (.returned (.tuple #[.string s, .int .i64 x])) w' := by
  subst h2; unfold RetDec; rw [← h1]; exact ⟨rfl, hb⟩
theorem below_gd (w : World) (k : Nat) (os : Array Obj) : Below w.heap.size w (grow (w.drewN k) os) := by
  have := below_regrown w (w.drawn + k) os
  exact this
set_option maxRecDepth 100000 in
set_option maxHeartbeats 4000000 in
theorem decfmt_any (n k : Int) (w : World) (htab : Tab w) :
    Calls Tryd.prog 57 #[.int .i64 n, .int .i64 k] w (RetDec w (decV n k)) := by
  have C1 := Lib.hid (fun X => within_any n X)
  have C2 := Lib.hid (fun X => scales_any k X)
  have HT := Lib.hid htab
  clear htab
  by_cases hok : (withB n && scaB k) = true
  case neg =>
    have HF := Lib.hid (show decV n k = ([], 4) by unfold decV; rw [if_neg hok])
    cases e1 : withB n
    all_goals cases e2 : scaB k
    all_goals try (exfalso; apply hok; rw [e1, e2]; rfl)
    all_goals
      clear hok
      rw [e1] at C1
      rw [e2] at C2
      clear e1 e2
      go_enter Tryd.func57, Tryd.ntmps57
      go_wp2_with (first
        | (with_reducible refine (C1.out _).mono ?_; rintro _ _ ⟨rfl, rfl⟩)
        | (with_reducible refine (C2.out _).mono ?_; rintro _ _ ⟨rfl, rfl⟩))
      go_ret2
      exact RetDec.mk_ (by rw [HF.out]) (by rw [HF.out]) (Below.refl _ _)
  case pos =>
  have HF := Lib.hid (show decV n k = (decStr (decide (n < 0)) n.natAbs k.toNat, 0) by unfold decV; rw [if_pos hok])
  simp only [Bool.and_eq_true] at hok
  have k1 := withB_bd hok.1
  have k2 := scaB_bd hok.2
  rw [hok.1] at C1
  rw [hok.2] at C2
  clear hok
  obtain ⟨j, rfl⟩ := Int.eq_ofNat_of_zero_le k2.1
  rw [Int.toNat_natCast] at HF
  have hj : j ≤ 18 := by omega
  obtain ⟨m, hm⟩ : ∃ m, n.natAbs = m := ⟨_, rfl⟩
  have hm1 : m ≤ 999999999999999999 := by omega
  rw [hm] at HF
  have l1 := itoa_pos m
  have l2 := itoa_le m hm1
  have p1 := padL_len m j
  have p2 := padL_le m j hm1 hj
  have CF := Lib.hid (fun X (h : Tab X) => Tryd.strconv_FormatInt_10 (m : Int) (by omega) (by omega) X h)
  have CR := Lib.hid (fun X (c : Nat) (h : c ≤ 100) => Tryd.strings_Repeat { data := #[48] } c X (by omega) (by show 1 * c ≤ _; omega))
  obtain ⟨D, hD⟩ : ∃ D : ByteArray, D = ⟨(Lib.itoa (m : Int)).toArray⟩ := ⟨_, rfl⟩
  rw [← hD] at CF
  have hDl : D.data.toList = Lib.itoa (m : Int) := by rw [hD]
  have hDs : D.size = (Lib.itoa (m : Int)).length := by rw [← sizeD, hDl]
  clear hD
  obtain ⟨P, hP⟩ : ∃ P : ByteArray, P = ⟨(padL m j).toArray⟩ := ⟨_, rfl⟩
  have hPl : P.data.toList = padL m j := by rw [hP]
  have hPs : P.size = (padL m j).length := by rw [← sizeD, hPl]
  clear hP
  rw [← hDs] at l1 l2
  rw [← hPs] at p1 p2
  have HPl := Lib.hid hPl
  have HPs := Lib.hid hPs
  by_cases hneg : n < 0
  · obtain rfl : n = -(m : Int) := by omega
    have hm0 : 1 ≤ m := by omega
    by_cases hj0 : j = 0
    · have t0 : ((j : Int) == 0) = true := by simp; omega
      have hlen : ¬D.size ≤ j := by omega
      have HJ := Lib.hid hj0
      have hPD : P = D := strEq (by rw [hPl, hDl]; unfold padL; rw [← hDs, show j + 1 - D.size = 0 by omega]; rfl)
      subst hPD
      clear hj0
      have HDs := Lib.hid hDs
      have HDl := Lib.hid hDl
      clear hPl hPs hDs hDl hm
      go_enter Tryd.func57, Tryd.ntmps57
      go_wp2_with (first
        | (with_reducible refine (C1.out _).mono ?_; rintro _ _ ⟨rfl, rfl⟩)
        | (with_reducible refine (C2.out _).mono ?_; rintro _ _ ⟨rfl, rfl⟩))
      refine (CF.out _ HT.out).mono ?_
      rintro _ w1 ⟨rfl, dk, os, rfl⟩
      have HB1 := Lib.hid (below_gd w dk os)
      obtain ⟨W1, hW1⟩ : ∃ W1, W1 = grow (w.drewN dk) os := ⟨_, rfl⟩
      rw [← hW1] at HB1 ⊢
      clear hW1
      go_wp2
      go_ret2
      exact RetDec.mk_ (by rw [HF.out]; simp only [decStr]; rw [if_pos HJ.out, if_pos (by simpa using hneg), ← HPl.out]; simp) (by rw [HF.out]) HB1.out
    · have t0 : ((j : Int) == 0) = false := by simp; omega
      by_cases hlen : D.size ≤ j
      · have HPD := Lib.hid (show (⟨(Lib.repeatL [48] (j + 1 - D.size)).toArray⟩ : ByteArray) ++ D = P from strEq (by rw [hPl, ByteArray.data_append, Array.toList_append, hDl]; unfold padL; rw [← hDs, repeatL_48]))
        have hRs : (⟨(Lib.repeatL [48] (j + 1 - D.size)).toArray⟩ : ByteArray).size = j + 1 - D.size := by rw [← sizeD, repeatL_48]; simp
        obtain ⟨Rp, hRp⟩ : ∃ Rp : ByteArray, (⟨(Lib.repeatL [48] (j + 1 - D.size)).toArray⟩ : ByteArray) = Rp := ⟨_, rfl⟩
        rw [hRp] at HPD hRs
        have CR' := Lib.hid (fun X => CR.out X (j + 1 - D.size) (by omega))
        rw [show ({ data := #[48] } : ByteArray).data.toList = [48] from rfl, hRp, show ((j + 1 - D.size : Nat) : Int) = (j : Int) + 1 - (D.size : Int) by omega] at CR'
        clear hRp CR
        have HDs := Lib.hid hDs
        have HDl := Lib.hid hDl
        clear hPl hPs hDs hDl hm
        go_enter Tryd.func57, Tryd.ntmps57
        go_wp2_with (first
          | (with_reducible refine (C1.out _).mono ?_; rintro _ _ ⟨rfl, rfl⟩)
          | (with_reducible refine (C2.out _).mono ?_; rintro _ _ ⟨rfl, rfl⟩))
        refine (CF.out _ HT.out).mono ?_
        rintro _ w1 ⟨rfl, dk, os, rfl⟩
        have HB1 := Lib.hid (below_gd w dk os)
        obtain ⟨W1, hW1⟩ : ∃ W1, W1 = grow (w.drewN dk) os := ⟨_, rfl⟩
        rw [← hW1] at HB1 ⊢
        clear hW1
        go_wp2_with fail
        refine (CR'.out _).mono ?_
        rintro _ w2 ⟨rfl, hb2⟩
        have HB2 := Lib.hid (bst HB1.out hb2)
        clear hb2
        go_wp2
        rw [HPD.out]
        have hw1 : IntKind.i64.wrap ((P.size : Int) - (j : Int)) = (P.size : Int) - j := IntWalk.i64_in _ (by omega)
        have hw2 : 0 ≤ (P.size : Int) - j := by omega
        have hw3 : ((P.size : Int) - (j : Int)).toNat = P.size - j := by omega
        go_quiet (fail)
        clear hw1 hw2 hw3
        go_wp2
        go_ret2
        exact RetDec.mk_ (by rw [HF.out]; simp only [decStr]; rw [if_neg hj0, if_pos (by simpa using hneg), ← HPl.out]; exact fin_eq { data := #[45] } P j p1) (by rw [HF.out]) (below_drewN HB2.out _)
      · have hPD : P = D := strEq (by rw [hPl, hDl]; unfold padL; rw [← hDs, show j + 1 - D.size = 0 by omega]; rfl)
        subst hPD
        have HDs := Lib.hid hDs
        have HDl := Lib.hid hDl
        clear hPl hPs hDs hDl hm
        go_enter Tryd.func57, Tryd.ntmps57
        go_wp2_with (first
          | (with_reducible refine (C1.out _).mono ?_; rintro _ _ ⟨rfl, rfl⟩)
          | (with_reducible refine (C2.out _).mono ?_; rintro _ _ ⟨rfl, rfl⟩))
        refine (CF.out _ HT.out).mono ?_
        rintro _ w1 ⟨rfl, dk, os, rfl⟩
        have HB1 := Lib.hid (below_gd w dk os)
        obtain ⟨W1, hW1⟩ : ∃ W1, W1 = grow (w.drewN dk) os := ⟨_, rfl⟩
        rw [← hW1] at HB1 ⊢
        clear hW1
        go_wp2
        have hw1 : IntKind.i64.wrap ((P.size : Int) - (j : Int)) = (P.size : Int) - j := IntWalk.i64_in _ (by omega)
        have hw2 : 0 ≤ (P.size : Int) - j := by omega
        have hw3 : ((P.size : Int) - (j : Int)).toNat = P.size - j := by omega
        go_quiet (fail)
        clear hw1 hw2 hw3
        go_wp2
        go_ret2
        exact RetDec.mk_ (by rw [HF.out]; simp only [decStr]; rw [if_neg hj0, if_pos (by simpa using hneg), ← HPl.out]; exact fin_eq { data := #[45] } P j p1) (by rw [HF.out]) (below_drewN HB1.out _)
  · obtain rfl : n = (m : Int) := by omega
    by_cases hj0 : j = 0
    · have t0 : ((j : Int) == 0) = true := by simp; omega
      have hlen : ¬D.size ≤ j := by omega
      have HJ := Lib.hid hj0
      have hPD : P = D := strEq (by rw [hPl, hDl]; unfold padL; rw [← hDs, show j + 1 - D.size = 0 by omega]; rfl)
      subst hPD
      clear hj0
      have HDs := Lib.hid hDs
      have HDl := Lib.hid hDl
      clear hPl hPs hDs hDl hm
      go_enter Tryd.func57, Tryd.ntmps57
      go_wp2_with (first
        | (with_reducible refine (C1.out _).mono ?_; rintro _ _ ⟨rfl, rfl⟩)
        | (with_reducible refine (C2.out _).mono ?_; rintro _ _ ⟨rfl, rfl⟩))
      refine (CF.out _ HT.out).mono ?_
      rintro _ w1 ⟨rfl, dk, os, rfl⟩
      have HB1 := Lib.hid (below_gd w dk os)
      obtain ⟨W1, hW1⟩ : ∃ W1, W1 = grow (w.drewN dk) os := ⟨_, rfl⟩
      rw [← hW1] at HB1 ⊢
      clear hW1
      go_wp2
      go_ret2
      exact RetDec.mk_ (by rw [HF.out]; simp only [decStr]; rw [if_pos HJ.out, if_neg (by simp), ← HPl.out]; simp) (by rw [HF.out]) HB1.out
    · have t0 : ((j : Int) == 0) = false := by simp; omega
      by_cases hlen : D.size ≤ j
      · have HPD := Lib.hid (show (⟨(Lib.repeatL [48] (j + 1 - D.size)).toArray⟩ : ByteArray) ++ D = P from strEq (by rw [hPl, ByteArray.data_append, Array.toList_append, hDl]; unfold padL; rw [← hDs, repeatL_48]))
        have hRs : (⟨(Lib.repeatL [48] (j + 1 - D.size)).toArray⟩ : ByteArray).size = j + 1 - D.size := by rw [← sizeD, repeatL_48]; simp
        obtain ⟨Rp, hRp⟩ : ∃ Rp : ByteArray, (⟨(Lib.repeatL [48] (j + 1 - D.size)).toArray⟩ : ByteArray) = Rp := ⟨_, rfl⟩
        rw [hRp] at HPD hRs
        have CR' := Lib.hid (fun X => CR.out X (j + 1 - D.size) (by omega))
        rw [show ({ data := #[48] } : ByteArray).data.toList = [48] from rfl, hRp, show ((j + 1 - D.size : Nat) : Int) = (j : Int) + 1 - (D.size : Int) by omega] at CR'
        clear hRp CR
        have HDs := Lib.hid hDs
        have HDl := Lib.hid hDl
        clear hPl hPs hDs hDl hm
        go_enter Tryd.func57, Tryd.ntmps57
        go_wp2_with (first
          | (with_reducible refine (C1.out _).mono ?_; rintro _ _ ⟨rfl, rfl⟩)
          | (with_reducible refine (C2.out _).mono ?_; rintro _ _ ⟨rfl, rfl⟩))
        refine (CF.out _ HT.out).mono ?_
        rintro _ w1 ⟨rfl, dk, os, rfl⟩
        have HB1 := Lib.hid (below_gd w dk os)
        obtain ⟨W1, hW1⟩ : ∃ W1, W1 = grow (w.drewN dk) os := ⟨_, rfl⟩
        rw [← hW1] at HB1 ⊢
        clear hW1
        go_wp2_with fail
        refine (CR'.out _).mono ?_
        rintro _ w2 ⟨rfl, hb2⟩
        have HB2 := Lib.hid (bst HB1.out hb2)
        clear hb2
        go_wp2
        rw [HPD.out]
        have hw1 : IntKind.i64.wrap ((P.size : Int) - (j : Int)) = (P.size : Int) - j := IntWalk.i64_in _ (by omega)
        have hw2 : 0 ≤ (P.size : Int) - j := by omega
        have hw3 : ((P.size : Int) - (j : Int)).toNat = P.size - j := by omega
        go_quiet (fail)
        clear hw1 hw2 hw3
        go_wp2
        go_ret2
        exact RetDec.mk_ (by rw [HF.out]; simp only [decStr]; rw [if_neg hj0, if_neg (by simp), ← HPl.out]; exact fin_eq { data := #[] } P j p1) (by rw [HF.out]) (below_drewN HB2.out _)
      · have hPD : P = D := strEq (by rw [hPl, hDl]; unfold padL; rw [← hDs, show j + 1 - D.size = 0 by omega]; rfl)
        subst hPD
        have HDs := Lib.hid hDs
        have HDl := Lib.hid hDl
        clear hPl hPs hDs hDl hm
        go_enter Tryd.func57, Tryd.ntmps57
        go_wp2_with (first
          | (with_reducible refine (C1.out _).mono ?_; rintro _ _ ⟨rfl, rfl⟩)
          | (with_reducible refine (C2.out _).mono ?_; rintro _ _ ⟨rfl, rfl⟩))
        refine (CF.out _ HT.out).mono ?_
        rintro _ w1 ⟨rfl, dk, os, rfl⟩
        have HB1 := Lib.hid (below_gd w dk os)
        obtain ⟨W1, hW1⟩ : ∃ W1, W1 = grow (w.drewN dk) os := ⟨_, rfl⟩
        rw [← hW1] at HB1 ⊢
        clear hW1
        go_wp2
        have hw1 : IntKind.i64.wrap ((P.size : Int) - (j : Int)) = (P.size : Int) - j := IntWalk.i64_in _ (by omega)
        have hw2 : 0 ≤ (P.size : Int) - j := by omega
        have hw3 : ((P.size : Int) - (j : Int)).toNat = P.size - j := by omega
        go_quiet (fail)
        clear hw1 hw2 hw3
        go_wp2
        go_ret2
        exact RetDec.mk_ (by rw [HF.out]; simp only [decStr]; rw [if_neg hj0, if_neg (by simp), ← HPl.out]; exact fin_eq { data := #[] } P j p1) (by rw [HF.out]) (below_drewN HB1.out _)
end Go.Proofs.YtjnamjkdjcndiaaDoor
