/-
  The contracts of date.Days, ref1.Days, date.digits, date.Parse.
-/
import Derived.Test.YtjnamjkdjcndiaaGreatDoorM9
import Derived.Test.YtjnamjkdjcndiaaGreatDoorM7
namespace Go.Proofs.YtjnamjkdjcndiaaGreatDoor
open Go.RowKit Go.Sort
set_option linter.unusedVariables false
theorem daysV_bad {y m d : Int} (h : y < 1 ∨ 9999 < y ∨ m < 1 ∨ 12 < m ∨ d < 1 ∨ monL y m < d) : daysV y m d = (0, 4) := if_pos h
theorem daysV_good {y d : Int} {k : Nat} (hy : 1 ≤ y ∧ y ≤ 9999) (hk : k ≤ 11) (h1 : 1 ≤ d) (h2 : d ≤ monL y ((k : Int) + 1)) : daysV y ((k : Int) + 1) d = (jan y + cum y k + d - 1, 0) := by
  unfold daysV; rw [if_neg (by omega), show ((k : Int) + 1).toNat - 1 = k by omega]
theorem cum_bd (y : Int) : ∀ k : Nat, 0 ≤ cum y k ∧ cum y k ≤ 31 * k
  | 0 => by simp [cum]
  | k + 1 => by have := cum_bd y k; have := monL_bd y ((k : Int) + 1); simp only [cum]; omega
theorem jan_bd {y : Int} (h : 1 ≤ y ∧ y ≤ 9999) : -719162 ≤ jan y ∧ jan y ≤ 2932896 := by unfold jan; omega
set_option maxRecDepth 100000 in
set_option maxHeartbeats 2000000 in
theorem days_any (y m d : Int) (w : World) (hy : 0 ≤ y ∧ y ≤ 9999) (hm : 0 ≤ m ∧ m ≤ 99) (hd : 0 ≤ d ∧ d ≤ 99) : Calls Tryz.prog 132 #[.int .i64 y, .int .i64 m, .int .i64 d] w (RetRs w (daysV y m d)) := by
  by_cases h1 : y < 1
  · have HO := Lib.hid (daysV_bad (y := y) (m := m) (d := d) (.inl h1))
    go_enter Tryz.func132, Tryz.ntmps132
    go_wp2
    go_ret2
    exact RetRs.mk_ HO.out
  by_cases h2 : m < 1
  · have HO := Lib.hid (daysV_bad (y := y) (m := m) (d := d) (.inr (.inr (.inl h2))))
    go_enter Tryz.func132, Tryz.ntmps132
    go_wp2
    go_ret2
    exact RetRs.mk_ HO.out
  by_cases h3 : 12 < m
  · have HO := Lib.hid (daysV_bad (y := y) (m := m) (d := d) (.inr (.inr (.inr (.inl h3)))))
    go_enter Tryz.func132, Tryz.ntmps132
    go_wp2
    go_ret2
    exact RetRs.mk_ HO.out
  by_cases h4 : d < 1
  · have HO := Lib.hid (daysV_bad (y := y) (m := m) (d := d) (.inr (.inr (.inr (.inr (.inl h4))))))
    go_enter Tryz.func132, Tryz.ntmps132
    go_wp2
    go_ret2
    exact RetRs.mk_ HO.out
  obtain ⟨k, rfl⟩ : ∃ k : Nat, m = (k : Int) + 1 := ⟨(m - 1).toNat, by omega⟩
  have hk : k ≤ 11 := by omega
  have ML := Lib.hid (fun X => ret0_int rfl (mlen_any y ((k : Int) + 1) X (by omega) (by omega)))
  have hmb := monL_bd y ((k : Int) + 1)
  have HG := Lib.hid (fun h => daysV_good (y := y) (d := d) (k := k) (by omega) hk (by omega) h)
  have HB := Lib.hid (fun h => daysV_bad (y := y) (m := (k : Int) + 1) (d := d) (.inr (.inr (.inr (.inr (.inr h))))))
  obtain ⟨M, hM⟩ : ∃ M, monL y ((k : Int) + 1) = M := ⟨_, rfl⟩
  rw [hM] at ML hmb HG HB
  clear hM
  by_cases h5 : M < d
  · have HO := Lib.hid (HB.out h5)
    have q5 : decide (M < d) = true := decide_eq_true h5
    go_enter Tryz.func132, Tryz.ntmps132
    go_wp2_with fail
    refine (ML.out _).mono ?_
    rintro _ _ ⟨rfl, rfl⟩
    go_wp2
    go_ret2
    exact RetRs.mk_ HO.out
  have HO := Lib.hid (HG.out (by omega))
  have q5 : decide (M < d) = false := decide_eq_false h5
  have hcb := cum_bd y
  have HCB := Lib.hid hcb
  have hjb := jan_bd (y := y) (by omega)
  have HJ := Lib.hid (show jan y = 365 * (y - 1) + (y - 1) / 4 - (y - 1) / 100 + (y - 1) / 400 - 719162 from rfl)
  clear hcb h5 hmb HG HB
  go_enter Tryz.func132, Tryz.ntmps132
  go_wp2_with fail
  refine (ML.out _).mono ?_
  rintro _ _ ⟨rfl, rfl⟩
  go_wp2
  go_loop [9, 10] (fun n i => ∃ j : Nat, j ≤ k ∧ i = .int .i64 ((j : Int) + 1) ∧ n = .int .i64 (jan y + 719162 + d - 1 + cum y j)) (fun _ i => (k + 1 : Int).toNat - (intOf i).toNat)
  case atStart => exact ⟨0, by omega, rfl, by rw [HJ.out]; simp only [cum]; congr 1; omega⟩
  case round =>
    obtain ⟨j, hj, rfl, rfl⟩ := hrel
    by_cases hlt : j < k
    · have C := Lib.hid (fun X => ret0_int rfl (mlen_any y ((j : Int) + 1) X (by omega) (by omega)))
      have hmb := monL_bd y ((j : Int) + 1)
      have hc := HCB.out j
      have HS := Lib.hid (show cum y (j + 1) = cum y j + monL y ((j : Int) + 1) from rfl)
      obtain ⟨M', hM'⟩ : ∃ M, monL y ((j : Int) + 1) = M := ⟨_, rfl⟩
      rw [hM'] at C hmb HS
      obtain ⟨Cj, hCj⟩ : ∃ C, cum y j = C := ⟨_, rfl⟩
      rw [hCj] at hc HS ⊢
      obtain ⟨J, hJ⟩ : ∃ J, jan y = J := ⟨_, rfl⟩
      rw [hJ] at hjb
      rw [hJ]
      clear hM' hCj hJ
      have hlt2 : (j : Int) + 1 < (k : Int) + 1 := by omega
      go_wp2_with (first
        | (with_reducible refine (C.out _).mono ?_; rintro _ _ ⟨rfl, rfl⟩))
      go_round
      case rel => exact ⟨j + 1, by omega, by go_num, by rw [HS.out]; first | go_num | (congr 1; omega)⟩
      case measure => simp [intOf]; omega
    · obtain rfl : j = k := by omega
      have hc := HCB.out j
      obtain ⟨Cj, hCj⟩ : ∃ C, cum y j = C := ⟨_, rfl⟩
      rw [hCj] at hc HO ⊢
      obtain ⟨J, hJ⟩ : ∃ J, jan y = J := ⟨_, rfl⟩
      rw [hJ] at hjb HO ⊢
      clear hCj hJ
      go_wp2
      go_ret2
      exact RetRs.mk_ (HO.out.trans (by congr 1; omega))
def RetDg (w : World) (l : List UInt8) (e : Ending) (w' : World) : Prop := (l.all digB = true ∧ e = .returned (.tuple #[.int .i64 (valN l : Int), .bool true]) ∧ w = w') ∨ (l.all digB = false ∧ e = .returned (.tuple #[.int .i64 0, .bool false]) ∧ w = w')
theorem digs_bd {l : List UInt8} (h : l.all digB = true) : valN l < 10 ^ l.length := by
  induction l with
  | nil => decide
  | cons c r ih =>
    simp only [List.all_cons, Bool.and_eq_true] at h
    have hc := h.1
    unfold digB at hc
    rw [decide_eq_true_eq] at hc
    have h1 := ih h.2
    have h2 := valN_app [c] r
    have h3 : valN [c] = c.toNat - 48 := by unfold valN stepN; simp
    rw [List.singleton_append, h3] at h2
    rw [h2, List.length_cons, Nat.pow_succ]
    have h4 : (c.toNat - 48) * 10 ^ r.length ≤ 9 * 10 ^ r.length := Nat.mul_le_mul_right _ (by omega)
    omega
theorem pre_bd {s : ByteArray} {k : Nat} (h : DigTo s k) (hk : k ≤ s.size) (hs : s.size ≤ 4) : valN (s.data.toList.take k) < 10000 := by
  have ha : (s.data.toList.take k).all digB = true := by
    rw [List.all_eq_true]
    intro c hc
    obtain ⟨j, hj⟩ := List.mem_iff_getElem?.1 hc
    have hjk : j < k := by
      have := (List.getElem?_eq_some_iff.1 hj).1
      rw [List.length_take] at this; omega
    rw [List.getElem?_take_of_lt hjk, get_data s j (by omega)] at hj
    injection hj with hj
    rw [← hj]; exact h j (by omega) hjk
  have h1 := digs_bd ha
  have h2 : (s.data.toList.take k).length ≤ 4 := by rw [List.length_take, size_data]; omega
  have h3 : 10 ^ (s.data.toList.take k).length ≤ 10 ^ 4 := Nat.pow_le_pow_right (by decide) h2
  omega
theorem val_next {s : ByteArray} {q : Nat} (h : q < s.size) : valN (s.data.toList.take (q + 1)) = valN (s.data.toList.take q) * 10 + (s[q].toNat - 48) := by
  rw [List.take_add_one, get_data s q h, Option.toList_some, valN_snoc]
set_option maxRecDepth 100000 in
set_option maxHeartbeats 2000000 in
theorem ddigits_any (s : ByteArray) (w : World) (hs : s.size ≤ 4) : Calls Tryz.prog 131 #[.string s] w (RetDg w s.data.toList) := by
  go_enter Tryz.func131, Tryz.ntmps131
  go_wp2
  go_loop [4, 8] (fun n i => ∃ k : Nat, k ≤ s.size ∧ i = .int .i64 k ∧ n = .int .i64 (valN (s.data.toList.take k) : Int) ∧ Hid (DigTo s k)) (fun _ i => s.size - (intOf i).toNat)
  case atStart => exact ⟨0, by omega, rfl, rfl, Lib.hid (DigTo.zero s)⟩
  case round =>
    obtain ⟨k, hk, rfl, rfl, hok⟩ := hrel
    have hvb := pre_bd hok.out hk hs
    by_cases hlt : k < s.size
    · have HV := Lib.hid (val_next hlt)
      obtain ⟨v, hv⟩ : ∃ v, valN (s.data.toList.take k) = v := ⟨_, rfl⟩
      rw [hv] at hvb HV ⊢
      clear hv
      have hvb2 : (v : Int) < 10000 := by omega
      rcases digB_cases s[k] with ⟨ho, h1, h2⟩ | ⟨ho, h1⟩ | ⟨ho, h1⟩
      · have HO := Lib.hid (hok.out.next hlt ho)
        clear ho hok
        go_wp2
        go_round
        case rel => exact ⟨k + 1, by omega, by go_num, by rw [HV.out]; first | go_num | (congr 1; omega), HO⟩
        case measure => simp [intOf]; omega
      · have HN := Lib.hid (dig_not hlt ho)
        clear ho hok
        go_wp2
        go_ret2
        exact .inr ⟨HN.out, rfl, rfl⟩
      · have HN := Lib.hid (dig_not hlt ho)
        clear ho hok
        go_wp2
        go_ret2
        exact .inr ⟨HN.out, rfl, rfl⟩
    · have HA := Lib.hid (hok.out.all (by omega))
      have HT := Lib.hid (show s.data.toList.take k = s.data.toList from List.take_of_length_le (by rw [size_data]; omega))
      rw [HT.out]
      clear hok
      go_wp2
      go_ret2
      exact .inl ⟨HA.out, rfl, rfl⟩
theorem dpar_len {l : List UInt8} (h : l.length ≠ 10 ∨ l.getD 4 0 ≠ 45 ∨ l.getD 7 0 ≠ 45) : dparV l = (0, 2) := by unfold dparV; rw [if_pos h]
theorem dpar_dig {l : List UInt8} (h : (pieY l).all digB = false ∨ (pieM l).all digB = false ∨ (pieD l).all digB = false) : dparV l = (0, 2) := by
  unfold dparV
  split
  · rfl
  · rw [if_pos]
    rcases h with h | h | h <;> rw [h] <;> simp
theorem dpar_ok {l : List UInt8} (h : ¬(l.length ≠ 10 ∨ l.getD 4 0 ≠ 45 ∨ l.getD 7 0 ≠ 45)) (h1 : (pieY l).all digB = true) (h2 : (pieM l).all digB = true) (h3 : (pieD l).all digB = true) : dparV l = daysV (valN (pieY l)) (valN (pieM l)) (valN (pieD l)) := by
  unfold dparV; rw [if_neg h, h1, h2, h3, if_neg (by decide)]
theorem getD_by {s : ByteArray} {k : Nat} (h : k < s.size) : s.data.toList.getD k 0 = s[k] := by
  rw [List.getD_eq_getElem?_getD, get_data s k h]; rfl
theorem ret_rs {P : Program} {f : FuncId} {args : Array Value} {w : World} {r : Int × Int} (h : Calls P f args w (RetRs w r)) : ∃ a b : Int, r = (a, b) ∧ Calls P f args w fun e w' => e = .returned (.tuple #[.int .i64 a, .int .i64 b]) ∧ w = w' := ⟨r.1, r.2, rfl, h⟩
set_option maxRecDepth 100000 in
set_option maxHeartbeats 2000000 in
theorem datepar_any (s : ByteArray) (w : World) (hs : s.size ≤ 9223372036854775807) : Calls Tryz.prog 113 #[.string s] w (RetRs w (dparV s.data.toList)) := by
  by_cases h10 : s.size = 10
  case neg =>
    have HO := Lib.hid (dpar_len (l := s.data.toList) (.inl (by rw [size_data]; exact h10)))
    have q : ((s.size : Int) != 10) = true := by simp; omega
    clear h10
    go_enter Tryz.func113, Tryz.ntmps113
    go_wp2
    go_ret2
    exact RetRs.mk_ HO.out
  have q : ((s.size : Int) != 10) = false := by simp; omega
  have p4 : 4 < s.size := by omega
  have p7 : 7 < s.size := by omega
  by_cases h4 : (s[4].toNat : Int) = 45
  case neg =>
    have HO := Lib.hid (dpar_len (l := s.data.toList) (.inr (.inl (by rw [getD_by p4]; intro e; exact h4 (by rw [e]; rfl)))))
    have q4 : ((s[4].toNat : Int) != 45) = true := by rw [bne_iff_ne]; exact h4
    clear h10 h4
    go_enter Tryz.func113, Tryz.ntmps113
    go_wp2
    go_ret2
    exact RetRs.mk_ HO.out
  have q4 : ((s[4].toNat : Int) != 45) = false := by simpa using h4
  by_cases h7 : (s[7].toNat : Int) = 45
  case neg =>
    have HO := Lib.hid (dpar_len (l := s.data.toList) (.inr (.inr (by rw [getD_by p7]; intro e; exact h7 (by rw [e]; rfl)))))
    have q7 : ((s[7].toNat : Int) != 45) = true := by rw [bne_iff_ne]; exact h7
    clear h10 h4 h7
    go_enter Tryz.func113, Tryz.ntmps113
    go_wp2
    go_ret2
    exact RetRs.mk_ HO.out
  have q7 : ((s[7].toNat : Int) != 45) = false := by simpa using h7
  have HL := Lib.hid (show ¬(s.data.toList.length ≠ 10 ∨ s.data.toList.getD 4 0 ≠ 45 ∨ s.data.toList.getD 7 0 ≠ 45) by
    rw [size_data, getD_by p4, getD_by p7]
    rintro (h | h | h)
    · exact h h10
    · exact h (UInt8.toNat_inj.1 (by have : (45 : UInt8).toNat = 45 := rfl; omega))
    · exact h (UInt8.toNat_inj.1 (by have : (45 : UInt8).toNat = 45 := rfl; omega)))
  have yl : (s.extract 0 4).data.toList = pieY s.data.toList := by rw [Lib.extract_upto]; rfl
  have ml : (s.extract 5 7).data.toList = pieM s.data.toList := by rw [Lib.extract_data]; rfl
  have dl : (s.extract 8 s.size).data.toList = pieD s.data.toList := by rw [Lib.extract_from]; rfl
  obtain ⟨Y, hY⟩ : ∃ Y, s.extract 0 4 = Y := ⟨_, rfl⟩
  obtain ⟨M, hM⟩ : ∃ M, s.extract 5 7 = M := ⟨_, rfl⟩
  obtain ⟨D, hD⟩ : ∃ D, s.extract 8 s.size = D := ⟨_, rfl⟩
  rw [hY] at yl
  rw [hM] at ml
  rw [hD] at dl
  have hYs : Y.size = 4 := by rw [← size_data, yl]; unfold pieY; rw [List.length_take, size_data]; omega
  have hMs : M.size = 2 := by rw [← size_data, ml]; unfold pieM; rw [List.length_take, List.length_drop, size_data]; omega
  have hDs : D.size = 2 := by rw [← size_data, dl]; unfold pieD; rw [List.length_drop, size_data]; omega
  have CY := Lib.hid (fun X => ddigits_any Y X (by omega))
  have CM := Lib.hid (fun X => ddigits_any M X (by omega))
  have CD := Lib.hid (fun X => ddigits_any D X (by omega))
  have HYL := Lib.hid yl
  have HML := Lib.hid ml
  have HDL := Lib.hid dl
  have HYS := Lib.hid hYs
  have HMS := Lib.hid hMs
  have HDS := Lib.hid hDs
  have H10 := Lib.hid h10
  clear yl ml dl hYs hMs hDs h4 h7 h10
  have g5 : 5 ≤ s.size := by have := H10.out; omega
  have g7 : 7 ≤ s.size := by have := H10.out; omega
  have g8 : 8 ≤ s.size := by have := H10.out; omega
  have g4 : 4 ≤ s.size := by have := H10.out; omega
  go_enter Tryz.func113, Tryz.ntmps113
  go_wp2_with fail
  refine (CY.out _).mono ?_
  rintro _ w1 (⟨hy, rfl, rfl⟩ | ⟨hy, rfl, rfl⟩)
  all_goals
    have HY1 := Lib.hid hy
    clear hy
    go_wp2_with fail
    refine (CM.out _).mono ?_
    rintro _ w2 (⟨hm, rfl, rfl⟩ | ⟨hm, rfl, rfl⟩)
  all_goals
    have HM1 := Lib.hid hm
    clear hm
    go_wp2_with fail
    refine (CD.out _).mono ?_
    rintro _ w3 (⟨hd, rfl, rfl⟩ | ⟨hd, rfl, rfl⟩)
  case inl =>
    have HO := Lib.hid (dpar_ok HL.out (by rw [← HYL.out]; exact HY1.out) (by rw [← HML.out]; exact HM1.out) (by rw [← HDL.out]; exact hd))
    have b1 := digs_bd HY1.out
    have b2 := digs_bd HM1.out
    have b3 := digs_bd hd
    rw [size_data, HYS.out] at b1
    rw [size_data, HMS.out] at b2
    rw [size_data, HDS.out] at b3
    rw [← HYL.out, ← HML.out, ← HDL.out] at HO
    obtain ⟨y, hyv⟩ : ∃ y, valN Y.data.toList = y := ⟨_, rfl⟩
    obtain ⟨m, hmv⟩ : ∃ m, valN M.data.toList = m := ⟨_, rfl⟩
    obtain ⟨d, hdv⟩ : ∃ d, valN D.data.toList = d := ⟨_, rfl⟩
    rw [hyv] at HO b1 ⊢
    rw [hmv] at HO b2 ⊢
    rw [hdv] at HO b3 ⊢
    clear hyv hmv hdv hd
    have e4 : (10 : Nat) ^ 4 = 10000 := by decide
    have e2 : (10 : Nat) ^ 2 = 100 := by decide
    obtain ⟨a, b, hab, CDY⟩ := ret_rs (days_any (y : Int) (m : Int) (d : Int) w (by omega) (by omega) (by omega))
    have CC := Lib.hid CDY
    have HAB := Lib.hid hab
    clear CDY hab b1 b2 b3 e4 e2
    go_wp2_with fail
    refine CC.out.mono ?_
    rintro _ _ ⟨rfl, rfl⟩
    go_wp2
    go_ret2
    exact RetRs.mk_ (HO.out.trans HAB.out)
  all_goals
    have HD1 := Lib.hid hd
    clear hd
    have HO := Lib.hid (dpar_dig (l := s.data.toList) (by
      rw [← HYL.out, ← HML.out, ← HDL.out]
      first
        | exact .inl HY1.out
        | exact .inr (.inl HM1.out)
        | exact .inr (.inr HD1.out)))
    go_wp2
    go_ret2
    exact RetRs.mk_ HO.out
end Go.Proofs.YtjnamjkdjcndiaaGreatDoor
