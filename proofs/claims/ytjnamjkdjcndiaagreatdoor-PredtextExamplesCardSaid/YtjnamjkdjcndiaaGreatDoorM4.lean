/-
  Words, plain laws and contracts on which the walks lean, in one text.
-/
import Derived.Test.YtjnamjkdjcndiaaGreatDoorProg
import Derived.Test.YtjnamjkdjcndiaaGreatDoorM1
import Derived.IntWalk
namespace Go.Proofs.YtjnamjkdjcndiaaGreatDoor
open Go.RowKit
set_option maxHeartbeats 2000000 in
theorem name_any (s : ByteArray) (w : World) (_hs : s.size ≤ 9223372036854775807) :
    Calls Tryz.prog 41 #[.string s] w (Ret0 w (nameB s.data.toList)) := by
  rcases Nat.eq_zero_or_pos s.size with h0 | h0
  · have H := Lib.hid (name_empty h0)
    have e0 : s.toList.isEmpty = true := by rw [toList_nil h0]; rfl
    have e1 : s.toList = [] := toList_nil h0
    clear h0
    go_enter Tryz.func41, Tryz.ntmps41
    go_wp2
    go_ret
    exact Ret0.mk_ H.out
  have e0 : s.toList.isEmpty = false := toList_ne h0
  by_cases h1 : 16 < s.size
  · have H := Lib.hid (name_long h1)
    go_enter Tryz.func41, Tryz.ntmps41
    go_wp2
    go_ret
    exact Ret0.mk_ H.out
  by_cases h2 : (s[0].toNat : Int) < 97
  · have H := Lib.hid (name_head h0 (.inl (by omega)))
    go_enter Tryz.func41, Tryz.ntmps41
    go_wp2
    go_ret
    exact Ret0.mk_ H.out
  by_cases h3 : 122 < (s[0].toNat : Int)
  · have H := Lib.hid (name_head h0 (.inr (by omega)))
    go_enter Tryz.func41, Tryz.ntmps41
    go_wp2
    go_ret
    exact Ret0.mk_ H.out
  by_cases h4 : s.toList = [107, 101, 121]
  · have H := Lib.hid (name_key (by rw [← Go.ByteArray.toList_eq]; exact h4))
    have h5 : (s.toList == [107, 101, 121]) = true := by rw [h4]; rfl
    clear h4
    go_enter Tryz.func41, Tryz.ntmps41
    go_wp2
    go_ret
    exact Ret0.mk_ H.out
  have h5 : (s.toList == [107, 101, 121]) = false := by rw [beq_eq_false_iff_ne]; exact h4
  have hlow : lowB s[0] = true := by unfold lowB; rw [decide_eq_true_eq]; omega
  have HL := Lib.hid hlow
  have H4 := Lib.hid (show s.data.toList ≠ [107, 101, 121] by rw [← Go.ByteArray.toList_eq]; exact h4)
  clear hlow h4
  go_enter Tryz.func41, Tryz.ntmps41
  go_wp2
  go_loop [28] (fun i => ∃ k : Nat, k ≤ s.size ∧ i = .int .i64 k ∧ OkTo s k) (fun i => s.size - (intOf i).toNat)
  case atStart => exact ⟨0, by omega, rfl, fun j hj h => by omega⟩
  case round =>
    obtain ⟨k, hk, rfl, hok⟩ := hrel
    by_cases hlt : k < s.size
    · rcases ok_cases s[k] with ⟨ho, hc⟩ | ⟨ho, hc⟩
      · have HO := Lib.hid (hok.next hlt ho)
        clear ho hok
        rcases hc with ⟨o1, o2⟩ | ⟨o1, o2⟩ | o1
        · go_wp2
          go_round
          case rel => exact ⟨k + 1, by omega, by go_num, HO.out⟩
          case measure => simp [intOf]; omega
        · go_wp2
          go_round
          case rel => exact ⟨k + 1, by omega, by go_num, HO.out⟩
          case measure => simp [intOf]; omega
        · have o2 : ((s[k].toNat : Int) != 95) = false := by simp; omega
          have o3 : 95 ≤ (s[k].toNat : Int) := by omega
          have o4 : (s[k].toNat : Int) ≤ 95 := by omega
          clear o1
          go_wp2
          go_round
          case rel => exact ⟨k + 1, by omega, by go_num, HO.out⟩
          case measure => simp [intOf]; omega
      · have HN := Lib.hid (name_char hlt ho)
        clear ho hok
        have hne : ((s[k].toNat : Int) != 95) = true := by simp; omega
        rcases hc with o1 | ⟨o1, o2⟩ | o1 | o1
        · go_wp2
          go_ret
          exact Ret0.mk_ HN.out
        · go_wp2
          go_ret
          exact Ret0.mk_ HN.out
        · have o3 : 96 ≤ (s[k].toNat : Int) := by omega
          have o4 : (s[k].toNat : Int) ≤ 96 := by omega
          clear o1
          go_wp2
          go_ret
          exact Ret0.mk_ HN.out
        · go_wp2
          go_ret
          exact Ret0.mk_ HN.out
    · go_wp2
      go_ret
      exact Ret0.mk_ (name_yes h0 (by omega) H4.out HL.out (fun j hj => hok j hj (by omega)))
end Go.Proofs.YtjnamjkdjcndiaaGreatDoor
namespace Go.Proofs.YtjnamjkdjcndiaaGreatDoor
open Go.RowKit
def upN : Nat → Int → Option Int
  | 0, n => some n
  | k + 1, n => if 99999999999999999 < n ∨ n < -99999999999999999 then none else upN k (n * 10)
def withB (n : Int) : Bool := decide (-999999999999999999 ≤ n) && decide (n ≤ 999999999999999999)
def scaB (k : Int) : Bool := decide (0 ≤ k) && decide (k ≤ 18)
def RetRs (w : World) (r : Int × Int) (e : Ending) (w' : World) : Prop := e = .returned (.tuple #[.int .i64 r.1, .int .i64 r.2]) ∧ w = w'
theorem RetRs.mk_ {w : World} {r : Int × Int} {a b : Int} (h : r = (a, b)) : RetRs w r (.returned (.tuple #[.int .i64 a, .int .i64 b])) w := by subst h; exact ⟨rfl, rfl⟩
def outR (R : Option Int) : Int × Int := match R with | some x => (x, 0) | none => (0, 8)
theorem withB_bd {n : Int} (h : withB n = true) : -999999999999999999 ≤ n ∧ n ≤ 999999999999999999 := by simpa [withB] using h
theorem scaB_bd {n : Int} (h : scaB n = true) : 0 ≤ n ∧ n ≤ 18 := by simpa [scaB] using h
theorem within_any (n : Int) (w : World) : Calls Tryz.prog 117 #[.int .i64 n] w fun e w' => e = .returned (.bool (withB n)) ∧ w = w' := by
  by_cases h1 : -999999999999999999 ≤ n
  · by_cases h2 : n ≤ 999999999999999999
    all_goals
      go_enter Tryz.func117, Tryz.ntmps117
      go_wp2
      go_ret
      exact ⟨ret_bool (by simp [withB]; omega), rfl⟩
  · go_enter Tryz.func117, Tryz.ntmps117
    go_wp2
    go_ret
    exact ⟨ret_bool (by simp [withB]; omega), rfl⟩
theorem scales_any (n : Int) (w : World) : Calls Tryz.prog 118 #[.int .i64 n] w fun e w' => e = .returned (.bool (scaB n)) ∧ w = w' := by
  by_cases h1 : 0 ≤ n
  · by_cases h2 : n ≤ 18
    all_goals
      go_enter Tryz.func118, Tryz.ntmps118
      go_wp2
      go_ret
      exact ⟨ret_bool (by simp [scaB]; omega), rfl⟩
  · go_enter Tryz.func118, Tryz.ntmps118
    go_wp2
    go_ret
    exact ⟨ret_bool (by simp [scaB]; omega), rfl⟩
end Go.Proofs.YtjnamjkdjcndiaaGreatDoor
namespace Go.Proofs.YtjnamjkdjcndiaaGreatDoor
open Go.RowKit
end Go.Proofs.YtjnamjkdjcndiaaGreatDoor
namespace Go.Proofs.YtjnamjkdjcndiaaGreatDoor
open Go.RowKit
end Go.Proofs.YtjnamjkdjcndiaaGreatDoor
