/-
  The contract of ref6.ReadNumber.
-/
import Derived.Test.YtojfhlppiicpbaaDoorRNumber
namespace Go.Proofs.YtojfhlppiicpbaaDoor
open Go.RowKit
theorem ext_tail (s : ByteArray) : (s.extract 1 s.size).data.toList = s.data.toList.tail := by
  rw [Lib.extract_data, ← List.drop_one]
  exact List.take_of_length_le (by rw [List.length_drop, sizeD]; exact Nat.le_refl _)
theorem readV_sg {s T : ByteArray} (h : s.extract 1 s.size = T) (h0 : 0 < s.size) (hc : (s[0].toNat : Int) = 45) : readV s.data.toList = readT true T.data.toList := by
  have e : s.data.toList.headD 0 = 45 := by rw [head_data s h0]; apply UInt8.toNat.inj; show _ = 45; omega
  unfold readV; rw [if_pos e, ← h, ext_tail]
theorem readV_un {s : ByteArray} (h : ∀ h0 : 0 < s.size, (s[0].toNat : Int) ≠ 45) : readV s.data.toList = readT false s.data.toList := by
  unfold readV
  rw [if_neg]
  intro e
  by_cases h0 : 0 < s.size
  · rw [head_data s h0] at e
    refine h h0 ?_
    rw [e]; rfl
  · have : s.data.toList = [] := List.eq_nil_of_length_eq_zero (by rw [size_data]; omega)
    rw [this] at e; cases e
theorem readT_nil {ng : Bool} {T : ByteArray} (h : T.size = 0) : readT ng T.data.toList = (0, 2) := by
  have : T.data.toList = [] := List.eq_nil_of_length_eq_zero (by rw [size_data]; exact h)
  unfold readT; rw [if_pos (.inl this)]
theorem readT_zero {ng : Bool} {T : ByteArray} (h0 : 0 < T.size) (hc : (T[0].toNat : Int) = 48) (h : 1 < T.size ∨ ng = true) : readT ng T.data.toList = (0, 2) := by
  have e : T.data.toList.headD 0 = 48 := by rw [head_data T h0]; apply UInt8.toNat.inj; show _ = 48; omega
  unfold readT; rw [if_pos (.inr ⟨e, by rw [size_data]; exact h⟩)]
theorem readT_on {ng : Bool} {T : ByteArray} (h0 : 0 < T.size) (h : (T[0].toNat : Int) ≠ 48 ∨ (T.size = 1 ∧ ng = false)) :
    readT ng T.data.toList = if T.data.toList.all digB = false then (0, 2) else if 19 < T.size then (0, 8)
      else if ng = true then (if valN T.data.toList ≤ 9223372036854775808 then (-(valN T.data.toList : Int), 0) else (0, 8)) else if valN T.data.toList < 9223372036854775808 then ((valN T.data.toList : Int), 0) else (0, 8) := by
  unfold readT
  rw [if_neg, size_data]
  rintro (e | ⟨e, e'⟩)
  · have := size_data T; rw [e] at this; simp at this; omega
  · rcases h with h | ⟨h, h'⟩
    · rw [head_data T h0] at e; apply h; rw [e]; rfl
    · rw [size_data] at e'
      rcases e' with e' | e'
      · omega
      · rw [h'] at e'; cases e'
/-- The first k bytes are digits. -/
def Digs (T : ByteArray) (k : Nat) : Prop := ∀ j (h : j < T.size), j < k → digB T[j] = true
theorem Digs.next {s : ByteArray} {k : Nat} (h : Digs s k) (hk : k < s.size) (hc : digB s[k] = true) : Digs s (k + 1) := fun j hj hlt => by
  by_cases e : j = k
  · subst e; exact hc
  · exact h j hj (by omega)
theorem Digs.all {s : ByteArray} (h : Digs s s.size) : s.data.toList.all digB = true := by
  rw [List.all_eq_true]
  intro c hc
  obtain ⟨k, hk⟩ := List.mem_iff_getElem?.1 hc
  have hl : k < s.size := by rw [← size_data]; exact (List.getElem?_eq_some_iff.1 hk).1
  rw [get_data s k hl] at hk
  injection hk with hk
  rw [← hk]; exact h k hl hl
theorem digs_not {s : ByteArray} {k : Nat} (hk : k < s.size) (h : digB s[k] = false) : s.data.toList.all digB = false := by
  rw [List.all_eq_false]
  exact ⟨s[k], List.mem_of_getElem? (get_data s k hk), by simp [h]⟩
theorem all_at {s : ByteArray} (h : s.data.toList.all digB = true) {k : Nat} (hk : k < s.size) : 48 ≤ s[k].toNat ∧ s[k].toNat ≤ 57 := by
  rw [List.all_eq_true] at h
  have := h _ (List.mem_of_getElem? (get_data s k hk))
  unfold digB at this; rwa [decide_eq_true_eq] at this
theorem digB_int (c : UInt8) : (digB c = true ∧ 48 ≤ (c.toNat : Int) ∧ (c.toNat : Int) ≤ 57) ∨ (digB c = false ∧ ((c.toNat : Int) < 48 ∨ 57 < (c.toNat : Int))) := by
  unfold digB
  by_cases h : 48 ≤ c.toNat ∧ c.toNat ≤ 57
  · exact .inl ⟨by rw [decide_eq_true_eq]; exact h, by omega⟩
  · exact .inr ⟨by rw [decide_eq_false_iff_not]; exact h, by omega⟩
theorem valN_mono : ∀ (r : List UInt8) (a : Nat), a ≤ r.foldl stepN a
  | [], a => Nat.le_refl _
  | c :: r, a => Nat.le_trans (by unfold stepN; omega) (valN_mono r (stepN a c))
theorem valN_take_le (l : List UInt8) (k : Nat) : valN (l.take k) ≤ valN l := by
  have e : valN l = (l.drop k).foldl stepN (valN (l.take k)) := by
    unfold valN; rw [← List.foldl_append, List.take_append_drop]
  rw [e]; exact valN_mono _ _
theorem valN_next {s : ByteArray} {k : Nat} (hk : k < s.size) : valN (s.data.toList.take (k + 1)) = valN (s.data.toList.take k) * 10 + (s[k].toNat - 48) := by
  rw [List.take_add_one, get_data s k hk, Option.toList_some, valN_snoc]
theorem valN_lt : ∀ (l : List UInt8), l.all digB = true → valN l < 10 ^ l.length := by
  intro l
  induction h : l.length generalizing l with
  | zero => intro _; obtain rfl := List.eq_nil_of_length_eq_zero h; decide
  | succ n ih =>
    intro hd
    obtain ⟨r, c, rfl⟩ := list_snoc l (by intro e; rw [e] at h; cases h)
    rw [List.all_append, Bool.and_eq_true] at hd
    have hc : digB c = true := by simpa using hd.2
    unfold digB at hc
    rw [decide_eq_true_eq] at hc
    have hl : r.length = n := by simpa using h
    have := ih r hl hd.1
    rw [valN_snoc, Nat.pow_succ]; omega
theorem valN_19 {l : List UInt8} (h : l.all digB = true) (hl : l.length ≤ 19) : valN l ≤ 9999999999999999999 := by
  have h1 := valN_lt l h
  have h2 : (10 : Nat) ^ l.length ≤ 10 ^ 19 := Nat.pow_le_pow_right (by decide) hl
  have h3 : (10 : Nat) ^ 19 = 10000000000000000000 := by decide
  omega
theorem neg_conv (u : Nat) (h : u ≤ 9223372036854775808) : wrap64 (IntKind.u64.wrap (-(u : Int))) = -(u : Int) := by
  rw [IntKind.wrap_u64]; unfold wrap64; omega
theorem readT_bad {ng : Bool} {T : ByteArray} (h0 : 0 < T.size) (h : (T[0].toNat : Int) ≠ 48 ∨ (T.size = 1 ∧ ng = false)) {k : Nat} (hk : k < T.size) (hc : digB T[k] = false) : readT ng T.data.toList = (0, 2) := by
  rw [readT_on h0 h, if_pos (digs_not hk hc)]
theorem readT_long {ng : Bool} {T : ByteArray} (h0 : 0 < T.size) (h : (T[0].toNat : Int) ≠ 48 ∨ (T.size = 1 ∧ ng = false)) (hd : T.data.toList.all digB = true) (hl : 19 < T.size) : readT ng T.data.toList = (0, 8) := by
  rw [readT_on h0 h, if_neg (by rw [hd]; decide), if_pos hl]
theorem readT_pos {T : ByteArray} (h0 : 0 < T.size) (h : (T[0].toNat : Int) ≠ 48 ∨ (T.size = 1 ∧ false = false)) (hd : T.data.toList.all digB = true) (hl : ¬19 < T.size) :
    readT false T.data.toList = if valN T.data.toList < 9223372036854775808 then ((valN T.data.toList : Int), 0) else (0, 8) := by
  rw [readT_on h0 h, if_neg (by rw [hd]; decide), if_neg hl, if_neg (by decide)]
theorem readT_neg {T : ByteArray} (h0 : 0 < T.size) (h : (T[0].toNat : Int) ≠ 48 ∨ (T.size = 1 ∧ true = false)) (hd : T.data.toList.all digB = true) (hl : ¬19 < T.size) :
    readT true T.data.toList = if valN T.data.toList ≤ 9223372036854775808 then (-(valN T.data.toList : Int), 0) else (0, 8) := by
  rw [readT_on h0 h, if_neg (by rw [hd]; decide), if_neg hl, if_pos rfl]
theorem pos_conv (u : Nat) (h : u < 9223372036854775808) : wrap64 (u : Int) = (u : Int) := IntWalk.wrap64_in _ ⟨by omega, by omega⟩
set_option maxRecDepth 100000 in
set_option maxHeartbeats 4000000 in
theorem readnum_neg (s : ByteArray) (w : World) (hs : s.size ≤ 9223372036854775807) (h0 : 0 < s.size) (hc : (s[0].toNat : Int) = 45) : Calls Tryd.prog 46 #[.string s] w (RetRs w (readV s.data.toList)) := by
  obtain ⟨T, hT⟩ : ∃ T : ByteArray, s.extract 1 s.size = T := ⟨_, rfl⟩
  have hTs : T.size = s.size - 1 := by rw [← hT]; simp
  obtain ⟨R, hR⟩ : ∃ R, readV s.data.toList = R := ⟨_, rfl⟩
  have HR := Lib.hid ((readV_sg hT h0 hc).symm.trans hR)
  rw [hR]
  clear hR
  have t1 : ((s[0].toNat : Int) == 45) = true := by simp; omega
  clear hc
  by_cases hz : T.size = 0
  · have HE := Lib.hid (HR.out.symm.trans (readT_nil hz))
    have hs1 : s.size = 1 := by omega
    clear hTs
    go_enter Tryd.func46, Tryd.ntmps46
    go_wp2
    go_ret2
    exact RetRs.mk_ HE.out
  have hz : 0 < T.size := by omega
  have hs1 : s.size = T.size + 1 := by omega
  have hT2 : s.extract 1 (T.size + 1) = T := by rw [← hs1]; exact hT
  clear hTs hT
  by_cases h48 : (T[0].toNat : Int) = 48
  · have HE := Lib.hid (HR.out.symm.trans (readT_zero hz h48 (.inr rfl)))
    have t2 : ((T[0].toNat : Int) == 48) = true := by simp; omega
    clear h48
    go_enter Tryd.func46, Tryd.ntmps46
    go_wp2
    all_goals
      go_ret2
      exact RetRs.mk_ HE.out
  · have hh : (T[0].toNat : Int) ≠ 48 ∨ (T.size = 1 ∧ true = false) := .inl h48
    have t2 : ((T[0].toNat : Int) == 48) = false := by simp; omega
    clear h48
    have HD := Lib.hid (fun (k : Nat) (hk : k < T.size) (hc : digB T[k] = false) => HR.out.symm.trans (readT_bad (ng := true) (T := T) hz hh hk hc))
    have HL := Lib.hid (fun hd hl => HR.out.symm.trans (readT_long (ng := true) (T := T) hz hh hd hl))
    have HV := Lib.hid (fun hd hl => HR.out.symm.trans (readT_neg (T := T) hz hh hd hl))
    clear hh
    have t3 : ((T.size : Int) == 0) = false := by rw [beq_eq_false_iff_ne]; omega
    go_enter Tryd.func46, Tryd.ntmps46
    go_wp2
    go_loop [6] (fun i => ∃ k : Nat, k ≤ T.size ∧ i = .int .i64 k ∧ Digs T k) (fun i => T.size - (intOf i).toNat)
    case atStart => exact ⟨0, Nat.zero_le _, rfl, fun j _ h => absurd h (Nat.not_lt_zero _)⟩
    case round =>
      obtain ⟨k, hk, rfl, hdg⟩ := hrel
      by_cases hlt : k < T.size
      · rcases digB_int T[k] with ⟨d1, d2, d3⟩ | ⟨d1, d2⟩
        · have HN := Lib.hid (hdg.next hlt d1)
          clear d1
          go_wp2
          go_round
          case rel => exact ⟨k + 1, by omega, by go_num, HN.out⟩
          case measure => simp [intOf]; omega
        · have HE := Lib.hid (HD.out k hlt d1)
          clear d1
          rcases d2 with d2 | d2
          · go_wp2
            go_ret2
            exact RetRs.mk_ HE.out
          · have d3 : ¬(T[k].toNat : Int) < 48 := by omega
            go_wp2
            go_ret2
            exact RetRs.mk_ HE.out
      · obtain rfl : k = T.size := by omega
        have hall := hdg.all
        have HA := Lib.hid hall
        by_cases hlong : 19 < T.size
        · have HE := Lib.hid (HL.out hall hlong)
          clear hall hdg
          go_wp2
          all_goals
            go_ret2
            exact RetRs.mk_ HE.out
        · have HF := Lib.hid (HV.out hall hlong)
          have HU := Lib.hid (valN_19 hall (by rw [size_data]; omega))
          clear hall hdg
          go_wp2
          go_loop [7, 8] (fun u i => ∃ (k : Nat), k ≤ T.size ∧ i = .int .i64 k ∧ u = .int .u64 (valN (T.data.toList.take k) : Nat)) (fun _ i => T.size - (intOf i).toNat)
          case atStart => exact ⟨0, Nat.zero_le _, rfl, rfl⟩
          case round =>
            obtain ⟨k, hk, rfl, rfl⟩ := hrel
            by_cases hlt : k < T.size
            · obtain ⟨d1, d2⟩ := all_at HA.out hlt
              have hv := valN_next hlt
              have hle := Nat.le_trans (valN_take_le T.data.toList (k + 1)) HU.out
              obtain ⟨V, hV⟩ : ∃ V, valN (T.data.toList.take k) = V := ⟨_, rfl⟩
              rw [hV] at hv ⊢
              rw [hv] at hle
              have HN := Lib.hid hv
              clear hv hV
              go_wp2
              go_round
              case rel => exact ⟨k + 1, by omega, by go_num, by rw [HN.out]; congr 1; omega⟩
              case measure => simp [intOf]; omega
            · obtain rfl : k = T.size := by omega
              have hU := HU.out
              obtain ⟨U, hUU⟩ : ∃ U, valN (T.data.toList.take T.size) = U := ⟨_, rfl⟩
              have hval : valN T.data.toList = U := by rw [← hUU, List.take_of_length_le (by rw [size_data]; exact Nat.le_refl _)]
              rw [hUU]
              rw [hval] at hU HF
              clear hval hUU
              by_cases hu : U ≤ 9223372036854775808
              · have HE := Lib.hid (show R = (-(U : Int), 0) by rw [HF.out, if_pos hu])
                clear HF
                go_wp2
                go_ret2
                exact RetRs.mk_ (HE.out.trans (by rw [(neg_conv U hu)]))
              · have HE := Lib.hid (show R = (0, 8) by rw [HF.out, if_neg hu])
                clear HF
                go_wp2
                go_ret2
                exact RetRs.mk_ HE.out
set_option maxRecDepth 100000 in
set_option maxHeartbeats 4000000 in
theorem readnum_pos (s : ByteArray) (w : World) (hs : s.size ≤ 9223372036854775807) (hc : ∀ h0 : 0 < s.size, (s[0].toNat : Int) ≠ 45) : Calls Tryd.prog 46 #[.string s] w (RetRs w (readV s.data.toList)) := by
  obtain ⟨R, hR⟩ : ∃ R, readV s.data.toList = R := ⟨_, rfl⟩
  have HR := Lib.hid ((readV_un hc).symm.trans hR)
  rw [hR]
  clear hR
  by_cases hz : s.size = 0
  · have HE := Lib.hid (HR.out.symm.trans (readT_nil hz))
    clear hc
    go_enter Tryd.func46, Tryd.ntmps46
    go_wp2
    go_ret2
    exact RetRs.mk_ HE.out
  have hz : 0 < s.size := by omega
  have t1 : ((s[0].toNat : Int) == 45) = false := by have := hc hz; simp; omega
  clear hc
  by_cases h48 : (s[0].toNat : Int) = 48
  · have t2 : ((s[0].toNat : Int) == 48) = true := by simp; omega
    by_cases h1 : 1 < s.size
    · have HE := Lib.hid (HR.out.symm.trans (readT_zero hz h48 (.inl h1)))
      clear h48
      go_enter Tryd.func46, Tryd.ntmps46
      go_wp2
      go_ret2
      exact RetRs.mk_ HE.out
    have hs1 : s.size ≤ 1 := by omega
    have hh : (s[0].toNat : Int) ≠ 48 ∨ (s.size = 1 ∧ false = false) := .inr ⟨by omega, rfl⟩
    clear h48
    have HD := Lib.hid (fun (k : Nat) (hk : k < s.size) (hc : digB s[k] = false) => HR.out.symm.trans (readT_bad (ng := false) (T := s) hz hh hk hc))
    have HL := Lib.hid (fun hd hl => HR.out.symm.trans (readT_long (ng := false) (T := s) hz hh hd hl))
    have HV := Lib.hid (fun hd hl => HR.out.symm.trans (readT_pos (T := s) hz hh hd hl))
    clear hh
    have t3 : ((s.size : Int) == 0) = false := by rw [beq_eq_false_iff_ne]; omega
    go_enter Tryd.func46, Tryd.ntmps46
    go_wp2

    go_loop [6] (fun i => ∃ k : Nat, k ≤ s.size ∧ i = .int .i64 k ∧ Digs s k) (fun i => s.size - (intOf i).toNat)
    case atStart => exact ⟨0, Nat.zero_le _, rfl, fun j _ h => absurd h (Nat.not_lt_zero _)⟩
    case round =>
      obtain ⟨k, hk, rfl, hdg⟩ := hrel
      by_cases hlt : k < s.size
      · rcases digB_int s[k] with ⟨d1, d2, d3⟩ | ⟨d1, d2⟩
        · have HN := Lib.hid (hdg.next hlt d1)
          clear d1
          go_wp2
          go_round
          case rel => exact ⟨k + 1, by omega, by go_num, HN.out⟩
          case measure => simp [intOf]; omega
        · have HE := Lib.hid (HD.out k hlt d1)
          clear d1
          rcases d2 with d2 | d2
          · go_wp2
            go_ret2
            exact RetRs.mk_ HE.out
          · have d3 : ¬(s[k].toNat : Int) < 48 := by omega
            go_wp2
            go_ret2
            exact RetRs.mk_ HE.out
      · obtain rfl : k = s.size := by omega
        have hall := hdg.all
        have HA := Lib.hid hall
        by_cases hlong : 19 < s.size
        · have HE := Lib.hid (HL.out hall hlong)
          clear hall hdg
          go_wp2
          all_goals
            go_ret2
            exact RetRs.mk_ HE.out
        · have HF := Lib.hid (HV.out hall hlong)
          have HU := Lib.hid (valN_19 hall (by rw [size_data]; omega))
          clear hall hdg
          go_wp2
          go_loop [7, 8] (fun u i => ∃ (k : Nat), k ≤ s.size ∧ i = .int .i64 k ∧ u = .int .u64 (valN (s.data.toList.take k) : Nat)) (fun _ i => s.size - (intOf i).toNat)
          case atStart => exact ⟨0, Nat.zero_le _, rfl, rfl⟩
          case round =>
            obtain ⟨k, hk, rfl, rfl⟩ := hrel
            by_cases hlt : k < s.size
            · obtain ⟨d1, d2⟩ := all_at HA.out hlt
              have hv := valN_next hlt
              have hle := Nat.le_trans (valN_take_le s.data.toList (k + 1)) HU.out
              obtain ⟨V, hV⟩ : ∃ V, valN (s.data.toList.take k) = V := ⟨_, rfl⟩
              rw [hV] at hv ⊢
              rw [hv] at hle
              have HN := Lib.hid hv
              clear hv hV
              go_wp2
              go_round
              case rel => exact ⟨k + 1, by omega, by go_num, by rw [HN.out]; congr 1; omega⟩
              case measure => simp [intOf]; omega
            · obtain rfl : k = s.size := by omega
              have hU := HU.out
              obtain ⟨U, hUU⟩ : ∃ U, valN (s.data.toList.take s.size) = U := ⟨_, rfl⟩
              have hval : valN s.data.toList = U := by rw [← hUU, List.take_of_length_le (by rw [size_data]; exact Nat.le_refl _)]
              rw [hUU]
              rw [hval] at hU HF
              clear hval hUU
              by_cases hu : U < 9223372036854775808
              · have HE := Lib.hid (show R = (wrap64 (U : Int), 0) by rw [HF.out, if_pos hu, pos_conv U hu])
                have t4 : decide ((U : Int) < 9223372036854775808) = true := decide_eq_true (by omega)
                clear HF hu hU
                go_wp2
                go_ret2
                exact RetRs.mk_ HE.out
              · have HE := Lib.hid (show R = (0, 8) by rw [HF.out, if_neg hu])
                have t4 : decide ((U : Int) < 9223372036854775808) = false := decide_eq_false (by omega)
                clear HF hu hU
                go_wp2
                go_ret2
                exact RetRs.mk_ HE.out
  · have hh : (s[0].toNat : Int) ≠ 48 ∨ (s.size = 1 ∧ false = false) := .inl h48
    have t2 : ((s[0].toNat : Int) == 48) = false := by simp; omega
    clear h48
    have HD := Lib.hid (fun (k : Nat) (hk : k < s.size) (hc : digB s[k] = false) => HR.out.symm.trans (readT_bad (ng := false) (T := s) hz hh hk hc))
    have HL := Lib.hid (fun hd hl => HR.out.symm.trans (readT_long (ng := false) (T := s) hz hh hd hl))
    have HV := Lib.hid (fun hd hl => HR.out.symm.trans (readT_pos (T := s) hz hh hd hl))
    clear hh
    have t3 : ((s.size : Int) == 0) = false := by rw [beq_eq_false_iff_ne]; omega
    go_enter Tryd.func46, Tryd.ntmps46
    go_wp2

    go_loop [6] (fun i => ∃ k : Nat, k ≤ s.size ∧ i = .int .i64 k ∧ Digs s k) (fun i => s.size - (intOf i).toNat)
    case atStart => exact ⟨0, Nat.zero_le _, rfl, fun j _ h => absurd h (Nat.not_lt_zero _)⟩
    case round =>
      obtain ⟨k, hk, rfl, hdg⟩ := hrel
      by_cases hlt : k < s.size
      · rcases digB_int s[k] with ⟨d1, d2, d3⟩ | ⟨d1, d2⟩
        · have HN := Lib.hid (hdg.next hlt d1)
          clear d1
          go_wp2
          go_round
          case rel => exact ⟨k + 1, by omega, by go_num, HN.out⟩
          case measure => simp [intOf]; omega
        · have HE := Lib.hid (HD.out k hlt d1)
          clear d1
          rcases d2 with d2 | d2
          · go_wp2
            go_ret2
            exact RetRs.mk_ HE.out
          · have d3 : ¬(s[k].toNat : Int) < 48 := by omega
            go_wp2
            go_ret2
            exact RetRs.mk_ HE.out
      · obtain rfl : k = s.size := by omega
        have hall := hdg.all
        have HA := Lib.hid hall
        by_cases hlong : 19 < s.size
        · have HE := Lib.hid (HL.out hall hlong)
          clear hall hdg
          go_wp2
          all_goals
            go_ret2
            exact RetRs.mk_ HE.out
        · have HF := Lib.hid (HV.out hall hlong)
          have HU := Lib.hid (valN_19 hall (by rw [size_data]; omega))
          clear hall hdg
          go_wp2
          go_loop [7, 8] (fun u i => ∃ (k : Nat), k ≤ s.size ∧ i = .int .i64 k ∧ u = .int .u64 (valN (s.data.toList.take k) : Nat)) (fun _ i => s.size - (intOf i).toNat)
          case atStart => exact ⟨0, Nat.zero_le _, rfl, rfl⟩
          case round =>
            obtain ⟨k, hk, rfl, rfl⟩ := hrel
            by_cases hlt : k < s.size
            · obtain ⟨d1, d2⟩ := all_at HA.out hlt
              have hv := valN_next hlt
              have hle := Nat.le_trans (valN_take_le s.data.toList (k + 1)) HU.out
              obtain ⟨V, hV⟩ : ∃ V, valN (s.data.toList.take k) = V := ⟨_, rfl⟩
              rw [hV] at hv ⊢
              rw [hv] at hle
              have HN := Lib.hid hv
              clear hv hV
              go_wp2
              go_round
              case rel => exact ⟨k + 1, by omega, by go_num, by rw [HN.out]; congr 1; omega⟩
              case measure => simp [intOf]; omega
            · obtain rfl : k = s.size := by omega
              have hU := HU.out
              obtain ⟨U, hUU⟩ : ∃ U, valN (s.data.toList.take s.size) = U := ⟨_, rfl⟩
              have hval : valN s.data.toList = U := by rw [← hUU, List.take_of_length_le (by rw [size_data]; exact Nat.le_refl _)]
              rw [hUU]
              rw [hval] at hU HF
              clear hval hUU
              by_cases hu : U < 9223372036854775808
              · have HE := Lib.hid (show R = (wrap64 (U : Int), 0) by rw [HF.out, if_pos hu, pos_conv U hu])
                have t4 : decide ((U : Int) < 9223372036854775808) = true := decide_eq_true (by omega)
                clear HF hu hU
                go_wp2
                go_ret2
                exact RetRs.mk_ HE.out
              · have HE := Lib.hid (show R = (0, 8) by rw [HF.out, if_neg hu])
                have t4 : decide ((U : Int) < 9223372036854775808) = false := decide_eq_false (by omega)
                clear HF hu hU
                go_wp2
                go_ret2
                exact RetRs.mk_ HE.out
theorem readnum_any (s : ByteArray) (w : World) (hs : s.size ≤ 9223372036854775807) : Calls Tryd.prog 46 #[.string s] w (RetRs w (readV s.data.toList)) := by
  by_cases h : ∃ h0 : 0 < s.size, (s[0].toNat : Int) = 45
  · obtain ⟨h0, hc⟩ := h
    exact readnum_neg s w hs h0 hc
  · exact readnum_pos s w hs fun h0 hc => h ⟨h0, hc⟩
end Go.Proofs.YtojfhlppiicpbaaDoor
