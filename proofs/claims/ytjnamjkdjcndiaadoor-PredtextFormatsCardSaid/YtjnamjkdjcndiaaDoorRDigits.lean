/-
  The contracts of ref1.power and ref1.digits.
-/
import Derived.Test.YtjnamjkdjcndiaaDoorDecDig
namespace Go.Proofs.YtjnamjkdjcndiaaDoor
open Go.RowKit
def strLen : Value → Nat
  | .string s => s.size
  | _ => 0
theorem digL_zero (m : Nat) (hm : 1 ≤ m) : digL m 0 = digL (m / 10) 0 ++ [UInt8.ofNat (48 + m % 10)] := by
  unfold digL
  rw [if_neg (by omega), Nat.zero_sub, Nat.zero_sub]
  by_cases h : m < 10
  · rw [show m / 10 = 0 by omega, if_pos rfl, show m % 10 = m by omega, dd_small h]; rfl
  · have e := dd_snoc (a := m / 10) (c := m % 10) (by omega) (by omega)
    rw [show m / 10 * 10 + m % 10 = m by omega] at e
    rw [if_neg (by omega), e]; rfl
theorem digL_step (m j : Nat) (h : 1 ≤ m ∨ 1 ≤ j) : digL m j = digL (m / 10) (j - 1) ++ [UInt8.ofNat (48 + m % 10)] := by
  rcases j with _ | i
  · exact digL_zero m (by omega)
  · have := digL_snoc (m / 10) (m % 10) i (by omega)
    rwa [show m / 10 * 10 + m % 10 = m by omega] at this
def RetP (w : World) (x : Nat) (e : Ending) (w' : World) : Prop := e = .returned (.int .i64 (x : Int)) ∧ w = w'
theorem RetP.mk_ {w : World} {x : Nat} {y : Int} (h : (x : Int) = y) : RetP w x (.returned (.int .i64 y)) w := by subst h; exact ⟨rfl, rfl⟩
set_option maxRecDepth 100000 in
set_option maxHeartbeats 1000000 in
theorem power_any (k : Nat) (w : World) (hk : k ≤ 18) : Calls Tryd.prog 64 #[.int .i64 k] w (RetP w (10 ^ k)) := by
  go_enter Tryd.func64, Tryd.ntmps64
  go_wp2
  go_loop [3, 4] (fun p i => ∃ j : Nat, j ≤ k ∧ i = .int .i64 j ∧ p = .int .i64 ((10 ^ j : Nat) : Int)) (fun _ i => k - (intOf i).toNat)
  case atStart => exact ⟨0, Nat.zero_le _, rfl, rfl⟩
  case round =>
    obtain ⟨j, hj, rfl, rfl⟩ := hrel
    obtain ⟨P, hP⟩ : ∃ P : Nat, 10 ^ j = P := ⟨_, rfl⟩
    have hb : P ≤ 1000000000000000000 := by rw [← hP]; exact Nat.le_trans (Nat.pow_le_pow_right (by decide) (show j ≤ 18 by omega)) (by decide)
    by_cases hlt : j < k
    · have hP2 : P ≤ 100000000000000000 := by rw [← hP]; exact Nat.le_trans (Nat.pow_le_pow_right (by decide) (show j ≤ 17 by omega)) (by decide)
      have HN := Lib.hid (show 10 ^ (j + 1) = P * 10 by rw [Nat.pow_succ, hP])
      rw [hP]
      clear hP
      go_wp2
      go_round
      case rel => exact ⟨j + 1, by omega, by go_num, by rw [HN.out]; go_num⟩
      case measure => simp [intOf]; omega
    · have HN := Lib.hid (show 10 ^ k = P by rw [← hP, show j = k by omega])
      rw [hP]
      clear hP
      go_wp2
      go_ret
      exact RetP.mk_ (by rw [HN.out])
theorem dig_str (c : Nat) (h : c < 10) : (({ data := #[48, 49, 50, 51, 52, 53, 54, 55, 56, 57] } : ByteArray).extract c (c + 1)).data.toList = [UInt8.ofNat (48 + c)] := by
  have h' : ∀ c : Fin 10, (({ data := #[48, 49, 50, 51, 52, 53, 54, 55, 56, 57] } : ByteArray).extract c.val (c.val + 1)).data.toList = [UInt8.ofNat (48 + c.val)] := by decide +kernel
  exact h' ⟨c, h⟩
def RetS (w : World) (l : List UInt8) (e : Ending) (w' : World) : Prop := e = .returned (.string ⟨l.toArray⟩) ∧ w = w'
theorem RetS.mk_ {w : World} {l : List UInt8} {s : ByteArray} (h : s.data.toList = l) : RetS w l (.returned (.string s)) w := by
  subst h; refine ⟨?_, rfl⟩; cases s; simp
set_option maxRecDepth 100000 in
set_option maxHeartbeats 2000000 in
theorem digits_any (n k : Nat) (w : World) (hn : n ≤ 999999999999999999) (hk : k ≤ 18) : Calls Tryd.prog 62 #[.int .i64 n, .int .i64 k] w (RetS w (digL n k)) := by
  have hL : (digL n k).length ≤ 60 := by
    unfold digL
    rw [List.length_append, List.length_replicate]
    split
    · simp; omega
    · have := itoa_le n hn; rw [Lib.itoa_nonneg] at this; omega
  go_enter Tryd.func62, Tryd.ntmps62
  go_wp2
  go_loop [0, 5] (fun x t => ∃ (m : Nat) (S : ByteArray), x = .int .i64 m ∧ t = .string S ∧ m ≤ 999999999999999999 ∧ S.size ≤ 60 ∧ Hid (digL m (k - S.size) ++ S.data.toList = digL n k)) (fun x t => (intOf x).toNat + (k - strLen t))
  case atStart => exact ⟨n, { data := #[] }, rfl, rfl, hn, by decide, Lib.hid (by rw [show ({ data := #[] } : ByteArray).size = 0 from rfl, Nat.sub_zero]; simp)⟩
  case round =>
    obtain ⟨m, S, rfl, rfl, hm, hS, hr⟩ := hrel
    by_cases hgo : 1 ≤ m ∨ S.size < k
    · have HN := Lib.hid (show digL (m / 10) (k - (S.size + 1)) ++ (UInt8.ofNat (48 + m % 10) :: S.data.toList) = digL n k by
        rw [← hr.out, digL_step m (k - S.size) (by omega), show k - S.size - 1 = k - (S.size + 1) by omega]; simp)
      have hS2 : S.size ≤ 59 := by
        have := congrArg List.length HN.out
        rw [List.length_append, List.length_cons, sizeD] at this; omega
      obtain ⟨D, hD⟩ : ∃ D : ByteArray, (({ data := #[48, 49, 50, 51, 52, 53, 54, 55, 56, 57] } : ByteArray).extract (m % 10) (m % 10 + 1)) = D := ⟨_, rfl⟩
      have hDl : D.data.toList = [UInt8.ofNat (48 + m % 10)] := by rw [← hD]; exact dig_str _ (by omega)
      have hDs : D.size = 1 := by rw [← sizeD, hDl]; rfl
      have HD := Lib.hid hDl
      clear hDl
      by_cases hpos : 0 < m
      all_goals
        go_wp2
        go_round
        case rel => exact ⟨m / 10, D ++ S, by go_num, rfl, by omega, by rw [ByteArray.size_append]; omega, Lib.hid (by rw [ByteArray.size_append, hDs, ByteArray.data_append, Array.toList_append, HD.out, Nat.add_comm 1 S.size]; exact HN.out)⟩
        case measure => simp [intOf, strLen, hDs]; omega
    · have HE := Lib.hid (show S.data.toList = digL n k by
        rw [← hr.out, show m = 0 by omega, show k - S.size = 0 by omega]; rfl)
      go_wp2
      go_ret
      exact RetS.mk_ HE.out
theorem retS_of {w : World} {l : List UInt8} {T : ByteArray} (h : T.data.toList = l) {P : Program} {f : FuncId} {args : Array Value} (hc : Calls P f args w (RetS w l)) : Calls P f args w fun e w' => e = .returned (.string T) ∧ w = w' := by
  subst h; unfold RetS at hc; exact hc
theorem retP_of {w : World} {x : Nat} {P : Program} {f : FuncId} {args : Array Value} (hc : Calls P f args w (RetP w x)) : Calls P f args w fun e w' => e = .returned (.int .i64 (x : Int)) ∧ w = w' := hc
end Go.Proofs.YtjnamjkdjcndiaaDoor
