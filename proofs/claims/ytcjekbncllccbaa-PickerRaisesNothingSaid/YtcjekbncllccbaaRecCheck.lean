/-
  The contract of manifest.Check.
-/
import Derived.Test.YtcjekbncllccbaaBase
import Derived.Test.YtcjekbncllccbaaApplySpec
namespace Go.Proofs.Ytcjekbncllccbaa
open Go.RowKit Go.Sort
def RetIB (w : World) (n : Int) (e : Ending) (w' : World) : Prop := e = .returned (.int .i64 n) ∧ Below w.heap.size w w'
theorem RetIB.mk_ {w w' : World} {n m : Int} (h : n = m) (hb : Below w.heap.size w w') : RetIB w n (.returned (.int .i64 m)) w' := by subst h; exact ⟨rfl, hb⟩
def RecRange (r : Rcd) : Prop := 0 ≤ r.ver ∧ r.ver ≤ 2147483647 ∧ 0 ≤ r.seq ∧ r.seq ≤ 1099511627777 ∧ 1 ≤ r.nid ∧ r.nid ≤ 2147483647
def RecLen (r : Rcd) : Prop := r.add.length ≤ 256 ∧ r.rem.length ≤ 256
def RecHead (r : Rcd) : Prop := (r.kind = 1 ∨ r.kind = 2) ∧ RecRange r ∧ RecLen r
theorem recV_kind {r : Rcd} (h : ¬(r.kind = 1 ∨ r.kind = 2)) : recV r = 1 := by unfold recV; rw [if_pos (by omega)]
theorem recV_range {r : Rcd} (h : r.kind = 1 ∨ r.kind = 2) (h2 : ¬RecRange r) : recV r = 4 := by unfold recV; unfold RecRange at h2; rw [if_neg (by omega), if_pos h2]
theorem recV_len {r : Rcd} (h : r.kind = 1 ∨ r.kind = 2) (h2 : RecRange r) (h3 : ¬RecLen r) : recV r = 7 := by unfold recV; unfold RecLen at h3; rw [if_neg (by omega), if_neg (fun k => k h2), if_pos h3]
theorem recV_head {r : Rcd} (h : RecHead r) : recV r = if entsB r.add = true ∧ remB r.rem = true ∧ (r.kind = 1 → r.rem = []) then 0 else 1 := by
  obtain ⟨h1, h2, h3⟩ := h
  unfold recV; rw [if_neg (by omega), if_neg (fun k => k h2), if_neg (fun k => k h3)]
theorem recV_ents {r : Rcd} (h : RecHead r) (he : entsB r.add = false) : recV r = 1 := by rw [recV_head h, if_neg (fun k => by rw [he] at k; cases k.1)]
theorem recV_rem {r : Rcd} (h : RecHead r) (he : remB r.rem = false) : recV r = 1 := by rw [recV_head h, if_neg (fun k => by rw [he] at k; cases k.2.1)]
theorem recV_base {r : Rcd} (h : RecHead r) (hk : r.kind = 1) {k : Nat} {n : Int} (hn : r.rem[k]? = some n) : recV r = 1 := by
  rw [recV_head h, if_neg (fun q => by rw [q.2.2 hk] at hn; simp at hn)]
theorem recV_ok {r : Rcd} (h : RecHead r) (he : entsB r.add = true) (hr : remB r.rem = true) (hb : r.kind = 1 → r.rem = []) : recV r = 0 := by rw [recV_head h, if_pos ⟨he, hr, hb⟩]
theorem remAt_bad {l : List Int} {k : Nat} {n : Int} (h : l[k]? = some n) (hn : ¬(1 ≤ n ∧ n ≤ 2147483647)) : remAt l k = false := by
  unfold remAt; rw [h]; simp only [Bool.and_eq_false_iff, decide_eq_false_iff_not]; exact .inl (by omega)
theorem remAt_zero {l : List Int} {n : Int} (h : l[0]? = some n) (h1 : 1 ≤ n) (h2 : n ≤ 2147483647) : remAt l 0 = true := by
  unfold remAt; rw [h]; simp [h1, h2]
theorem remAt_succ {l : List Int} {k : Nat} {a n : Int} (ha : l[k]? = some a) (h : l[k + 1]? = some n) (h1 : 1 ≤ n) (h2 : n ≤ 2147483647) {t : Bool} (ht : decide (a < n) = t) : remAt l (k + 1) = t := by
  unfold remAt; rw [h]; simp [h1, h2, ha, ht]
theorem remB_nil_of {l : List Int} {k : Nat} (h : l.length ≤ k) (h0 : k = 0) : l = [] := List.eq_nil_of_length_eq_zero (by omega)
def Rcd.cells (r : Rcd) (va vr : Value) : Array Value := #[.int .i64 r.kind, .int .i64 r.ver, .int .i64 r.seq, .int .i64 r.nid, va, vr]
theorem objB_true {n : Int} (h : 1 ≤ n ∧ n ≤ 2147483647) : objB n = true := by simp [objB]; omega
theorem objB_false {n : Int} (h : ¬(1 ≤ n ∧ n ≤ 2147483647)) : objB n = false := by cases hb : objB n with
  | false => rfl
  | true => simp [objB] at hb; omega
theorem object_b (n : Int) {b : Bool} (hb : objB n = b) (w : World) : Calls Try.prog 64 #[.int .i64 n] w fun e w' => e = .returned (.bool b) ∧ w = w' := by subst hb; exact object_any n w
end Go.Proofs.Ytcjekbncllccbaa
