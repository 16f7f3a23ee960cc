/-
  The contract of ref6.Name, and of the helper awake of the statements of layer 7.
-/
import Derived.Test.YtojfhlppiicpbaaDoorNames
namespace Go.Proofs.YtojfhlppiicpbaaDoor
open Go.RowKit
theorem name_head' {s : ByteArray} {k : Nat} (hk : k < s.size) (h0 : k = 0) (h : lowB s[k] = false) : nameB s.data.toList = false := by
  subst h0
  have : lowB (s.data.toList.headD 0) = false := by rw [head_data s hk]; exact h
  unfold nameB
  rw [this]
  simp
theorem low_cases (c : UInt8) : (lowB c = true ∧ 97 ≤ (c.toNat : Int) ∧ (c.toNat : Int) ≤ 122) ∨ (lowB c = false ∧ ((c.toNat : Int) < 97 ∨ 122 < (c.toNat : Int))) := by
  by_cases h : 97 ≤ c.toNat ∧ c.toNat ≤ 122
  · exact .inl ⟨by unfold lowB; rw [decide_eq_true_eq]; exact h, by omega⟩
  · exact .inr ⟨by unfold lowB; rw [decide_eq_false_iff_not]; exact h, by omega⟩
theorem low_ok {c : UInt8} (h : lowB c = true) : okB c = true := by
  unfold lowB at h; unfold okB; rw [decide_eq_true_eq] at h ⊢; exact .inl h
def LowTo (s : ByteArray) (k : Nat) : Prop := ∀ (h : 0 < s.size), 0 < k → lowB s[0] = true
set_option maxHeartbeats 4000000 in
theorem rname_any (s : ByteArray) (w : World) (_hs : s.size ≤ 9223372036854775807) :
    Calls Tryd.prog 38 #[.string s] w (Ret0 w (nameB s.data.toList)) := by
  rcases Nat.eq_zero_or_pos s.size with h0 | h0
  · have H := Lib.hid (name_empty h0)
    go_enter Tryd.func38, Tryd.ntmps38
    go_wp2
    go_ret
    exact Ret0.mk_ H.out
  by_cases h1 : 16 < s.size
  · have H := Lib.hid (name_long h1)
    go_enter Tryd.func38, Tryd.ntmps38
    go_wp2
    go_ret
    exact Ret0.mk_ H.out
  by_cases h4 : s.toList = [107, 101, 121]
  · have H := Lib.hid (name_key (by rw [← Go.ByteArray.toList_eq]; exact h4))
    have h5 : (s.toList == [107, 101, 121]) = true := by rw [h4]; rfl
    clear h4
    go_enter Tryd.func38, Tryd.ntmps38
    go_wp2
    go_ret
    exact Ret0.mk_ H.out
  have h5 : (s.toList == [107, 101, 121]) = false := by rw [beq_eq_false_iff_ne]; exact h4
  have H4 := Lib.hid (show s.data.toList ≠ [107, 101, 121] by rw [← Go.ByteArray.toList_eq]; exact h4)
  clear h4
  go_enter Tryd.func38, Tryd.ntmps38
  go_wp2
  go_loop [3] (fun i => ∃ k : Nat, k ≤ s.size ∧ i = .int .i64 k ∧ OkTo s k ∧ LowTo s k) (fun i => s.size - (intOf i).toNat)
  case atStart => exact ⟨0, by omega, rfl, fun j hj h => by omega, fun h h' => by omega⟩
  case round =>
    obtain ⟨k, hk, rfl, hok, hlw⟩ := hrel
    by_cases hlt : k < s.size
    · rcases low_cases s[k] with ⟨ho, o1, o2⟩ | ⟨ho, hc⟩
      · have HO := Lib.hid (hok.next hlt (low_ok ho))
        have HL := Lib.hid (show LowTo s (k + 1) from fun h _ => by
          rcases Nat.eq_zero_or_pos k with hz | hz
          · subst hz; exact ho
          · exact hlw h hz)
        clear ho hok hlw
        go_wp2
        exact ⟨⟨k + 1, by omega, by go_num, HO.out, HL.out⟩, by simp [intOf]; omega⟩
      · rcases Nat.eq_zero_or_pos k with hz | hz
        · have HN := Lib.hid (name_head' hlt hz ho)
          have he : ((k : Int) == 0) = true := beq_iff_eq.2 (by omega)
          clear ho hok hlw hz
          rcases hc with o1 | o1
          · go_wp2
            go_ret
            exact Ret0.mk_ HN.out
          · have hd : decide ((s[k].toNat : Int) ≤ 122) = false := by simp; omega
            go_wp2
            go_ret
            exact Ret0.mk_ HN.out
        · have he : ((k : Int) == 0) = false := beq_eq_false_iff_ne.2 (by omega)
          rcases ok_cases s[k] with ⟨ho2, hc2⟩ | ⟨ho2, hc2⟩
          · have HO := Lib.hid (hok.next hlt ho2)
            have HL := Lib.hid (show LowTo s (k + 1) from fun h _ => hlw h hz)
            clear ho ho2 hok hlw
            rcases hc2 with ⟨q1, q2⟩ | ⟨q1, q2⟩ | q1
            · exfalso; omega
            · have hne : ((s[k].toNat : Int) != 95) = true := by simp; omega
              clear hc
              go_wp2
              exact ⟨⟨k + 1, by omega, by go_num, HO.out, HL.out⟩, by simp [intOf]; omega⟩
            · have hne : ((s[k].toNat : Int) != 95) = false := by simp; omega
              have q2 : (s[k].toNat : Int) ≤ 95 := by omega
              clear hc q1
              go_wp2
              exact ⟨⟨k + 1, by omega, by go_num, HO.out, HL.out⟩, by simp [intOf]; omega⟩
          · have HN := Lib.hid (name_char hlt ho2)
            have hne : ((s[k].toNat : Int) != 95) = true := by simp; omega
            clear ho ho2 hok hlw
            rcases hc2 with q1 | ⟨q1, q2⟩ | q1 | q1
            · clear hc
              go_wp2
              go_ret
              exact Ret0.mk_ HN.out
            · clear hc
              go_wp2
              go_ret
              exact Ret0.mk_ HN.out
            · have q3 : 96 ≤ (s[k].toNat : Int) := by omega
              have q4 : (s[k].toNat : Int) ≤ 96 := by omega
              clear hc q1
              go_wp2
              go_ret
              exact Ret0.mk_ HN.out
            · clear hc
              have hd : decide ((s[k].toNat : Int) ≤ 122) = false := by simp; omega
              go_wp2
              go_ret
              exact Ret0.mk_ HN.out
    · go_wp2
      go_ret
      exact Ret0.mk_ (name_yes h0 (by omega) H4.out (hlw h0 (by omega)) (fun j hj => hok j hj (by omega)))
def RetI (w : World) (x : Int) (e : Ending) (w' : World) : Prop := e = .returned (.int .i64 x) ∧ Below w.heap.size w w'
set_option maxHeartbeats 400000 in
theorem check_empty (w : World) : Calls Tryd.prog 16 #[.agg #[.slice none 0 0, .int .i64 0]] w (RetI w 1) := by
  go_enter Tryd.func16, Tryd.ntmps16
  go_wp2
  go_ret
  exact ⟨rfl, (Below.refl _ _).alloc (Nat.le_refl _) _⟩
def RetB (w : World) (b : Bool) (e : Ending) (w' : World) : Prop := e = .returned (.bool b) ∧ Below w.heap.size w w'
set_option maxHeartbeats 400000 in
theorem awake7_any (w : World) : Calls Tryd.prog 7 #[] w (RetB w true) := by
  have H1 := Lib.hid (show nameB [97, 95, 49] = true by decide)
  have H2 := Lib.hid (show nameB [107, 101, 121] = false by decide)
  go_enter Tryd.func7, Tryd.ntmps7
  go_wp2_with fail
  refine (check_empty w).mono ?_
  rintro e w1 ⟨rfl, hb⟩
  go_wp2_with fail
  refine (name_any _ w1 (by decide)).mono ?_
  rw [H1.out]
  rintro e w2 ⟨rfl, rfl⟩
  go_wp2_with fail
  refine (name_any _ w1 (by decide)).mono ?_
  rw [H2.out]
  rintro e w2 ⟨rfl, rfl⟩
  go_wp2
  go_ret
  exact ⟨rfl, hb⟩
end Go.Proofs.YtojfhlppiicpbaaDoor
