/-
  The contracts of decimal.Rescale and ref1.Rescale.
-/
import Derived.Test.YtojfhlppiicpbaaDoorProg
import Derived.Test.YtojfhlppiicpbaaDoorBase
import Derived.IntWalk
namespace Go.Proofs.YtojfhlppiicpbaaDoor
open Go.RowKit
def upN : Nat → Int → Option Int
  | 0, n => some n
  | k + 1, n => if 99999999999999999 < n ∨ n < -99999999999999999 then none else upN k (n * 10)
def downN : Nat → Int → Option Int
  | 0, n => some n
  | k + 1, n => if n.tmod 10 = 0 then downN k (n.tdiv 10) else none
def withB (n : Int) : Bool := decide (-999999999999999999 ≤ n) && decide (n ≤ 999999999999999999)
def scaB (k : Int) : Bool := decide (0 ≤ k) && decide (k ≤ 18)
/-- The number with another scale, and the error. -/
def rescaleV (n a b : Int) : Int × Int :=
  if withB n && scaB a && scaB b then (match (if a ≤ b then upN (b - a).toNat n else downN (a - b).toNat n) with | some x => (x, 0) | none => (0, 8)) else (0, 4)
def RetRs (w : World) (r : Int × Int) (e : Ending) (w' : World) : Prop := e = .returned (.tuple #[.int .i64 r.1, .int .i64 r.2]) ∧ w = w'
theorem RetRs.mk_ {w : World} {r : Int × Int} {a b : Int} (h : r = (a, b)) : RetRs w r (.returned (.tuple #[.int .i64 a, .int .i64 b])) w := by subst h; exact ⟨rfl, rfl⟩
def outR (R : Option Int) : Int × Int := match R with | some x => (x, 0) | none => (0, 8)
theorem rescaleV_up {n a b : Int} (h1 : withB n = true) (h2 : scaB a = true) (h3 : scaB b = true) (hab : a ≤ b) {k : Nat} (hk : (k : Int) = b - a) {R : Option Int} (h : upN k n = R) : rescaleV n a b = outR R := by
  unfold rescaleV; rw [h1, h2, h3, if_pos (show (true && true && true) = true from rfl), if_pos hab, show (b - a).toNat = k by omega, h]; rfl
theorem rescaleV_down {n a b : Int} (h1 : withB n = true) (h2 : scaB a = true) (h3 : scaB b = true) (hab : ¬a ≤ b) {k : Nat} (hk : (k : Int) = a - b) {R : Option Int} (h : downN k n = R) : rescaleV n a b = outR R := by
  unfold rescaleV; rw [h1, h2, h3, if_pos (show (true && true && true) = true from rfl), if_neg hab, show (a - b).toNat = k by omega, h]; rfl
theorem rescaleV_bad {n a b : Int} (h : (withB n && scaB a && scaB b) = false) : rescaleV n a b = (0, 4) := by
  unfold rescaleV; rw [h]; rfl
theorem retRs_of {w : World} {r : Int × Int} {a b : Int} (h : r = (a, b)) {P : Program} {f : FuncId} {args : Array Value} (hc : Calls P f args w (RetRs w r)) : Calls P f args w fun e w' => e = .returned (.tuple #[.int .i64 a, .int .i64 b]) ∧ w = w' := by subst h; exact hc
theorem withB_bd {n : Int} (h : withB n = true) : -999999999999999999 ≤ n ∧ n ≤ 999999999999999999 := by simpa [withB] using h
theorem scaB_bd {n : Int} (h : scaB n = true) : 0 ≤ n ∧ n ≤ 18 := by simpa [scaB] using h
theorem tdm (x : Int) (h0 : -999999999999999999 ≤ x) (h1 : x ≤ 999999999999999999) : -999999999999999999 ≤ x.tdiv 10 ∧ x.tdiv 10 ≤ 999999999999999999 ∧ -9 ≤ x.tmod 10 ∧ x.tmod 10 ≤ 9 := by
  rcases Int.le_total 0 x with h | h
  · rw [Int.tdiv_eq_ediv_of_nonneg h, Int.tmod_eq_emod_of_nonneg h]; omega
  · obtain ⟨y, rfl⟩ : ∃ y, x = -y := ⟨-x, by omega⟩
    rw [Int.neg_tdiv, Int.neg_tmod, Int.tdiv_eq_ediv_of_nonneg (by omega), Int.tmod_eq_emod_of_nonneg (by omega)]; omega
end Go.Proofs.YtojfhlppiicpbaaDoor
