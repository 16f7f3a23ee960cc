/-
  The contracts of ref1.power and ref1.digits.
-/
import Derived.Test.YtjfnpklknehiiaaDoorDecDig
namespace Go.Proofs.YtjfnpklknehiiaaDoor
open Go.RowKit
def strLen : Value → Nat
  | .string s => s.size
  | _ => 0
theorem digL_zero (m : Nat) (hm : 1 ≤ m) : digL m 0 = digL (m / 10) 0 ++ [UInt8.ofNat (48 + m % 10)] := by
  unfold digL
  rw [if_neg (by omega), Nat.zero_sub, Nat.zero_sub]
  by_cases h : m < 10
  · rw [show m / 10 = 0 by omega, if_pos rfl, show m % 10 = m by omega, dd_small h]; rfl
  · have e := dd_snoc (a := m / 10) (c := m % 10) (by omega) (by omega)
    rw [show m / 10 * 10 + m % 10 = m by omega] at e
    rw [if_neg (by omega), e]; rfl
theorem digL_step (m j : Nat) (h : 1 ≤ m ∨ 1 ≤ j) : digL m j = digL (m / 10) (j - 1) ++ [UInt8.ofNat (48 + m % 10)] := by
  rcases j with _ | i
  · exact digL_zero m (by omega)
  · have := digL_snoc (m / 10) (m % 10) i (by omega)
    rwa [show m / 10 * 10 + m % 10 = m by omega] at this
def RetP (w : World) (x : Nat) (e : Ending) (w' : World) : Prop := e = .returned (.int .i64 (x : Int)) ∧ w = w'
theorem RetP.mk_ {w : World} {x : Nat} {y : Int} (h : (x : Int) = y) : RetP w x (.returned (.int .i64 y)) w := by subst h; exact ⟨rfl, rfl⟩
theorem dig_str (c : Nat) (h : c < 10) : (({ data := #[48, 49, 50, 51, 52, 53, 54, 55, 56, 57] } : ByteArray).extract c (c + 1)).data.toList = [UInt8.ofNat (48 + c)] := by
  have h' : ∀ c : Fin 10, (({ data := #[48, 49, 50, 51, 52, 53, 54, 55, 56, 57] } : ByteArray).extract c.val (c.val + 1)).data.toList = [UInt8.ofNat (48 + c.val)] := by decide +kernel
  exact h' ⟨c, h⟩
def RetS (w : World) (l : List UInt8) (e : Ending) (w' : World) : Prop := e = .returned (.string ⟨l.toArray⟩) ∧ w = w'
theorem RetS.mk_ {w : World} {l : List UInt8} {s : ByteArray} (h : s.data.toList = l) : RetS w l (.returned (.string s)) w := by
  subst h; refine ⟨?_, rfl⟩; cases s; simp
theorem retS_of {w : World} {l : List UInt8} {T : ByteArray} (h : T.data.toList = l) {P : Program} {f : FuncId} {args : Array Value} (hc : Calls P f args w (RetS w l)) : Calls P f args w fun e w' => e = .returned (.string T) ∧ w = w' := by
  subst h; unfold RetS at hc; exact hc
theorem retP_of {w : World} {x : Nat} {P : Program} {f : FuncId} {args : Array Value} (hc : Calls P f args w (RetP w x)) : Calls P f args w fun e w' => e = .returned (.int .i64 (x : Int)) ∧ w = w' := hc
end Go.Proofs.YtjfnpklknehiiaaDoor
