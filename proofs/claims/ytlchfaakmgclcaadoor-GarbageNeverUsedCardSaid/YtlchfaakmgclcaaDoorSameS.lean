/-
  The contract of keep.Same at string.
-/
import Derived.Test.YtlchfaakmgclcaaDoorProg
import Derived.Test.YtlchfaakmgclcaaDoorStrs
import Derived.Test.YtlchfaakmgclcaaDoorQuiet
import Derived.Lib.SlicesS
import Derived.Deep.QuietTactic
import Derived.BigQuiet
namespace Go.Proofs.YtlchfaakmgclcaaDoor
open Go.RowKit
theorem strs_ne {s t : ByteArray} (h : s ≠ t) : (s.toList != t.toList) = true := by
  have := (Lib.bytes_beq_false_iff s t).2 h
  simp only [bne, this, Bool.not_false]
theorem strs_eq {s t : ByteArray} (h : s = t) : (s.toList != t.toList) = false := by
  have := (Lib.bytes_beq_iff s t).2 h
  simp only [bne, this, Bool.not_true]
theorem strq_ne {s t : ByteArray} (h : s ≠ t) : (s.toList == t.toList) = false := (Lib.bytes_beq_false_iff s t).2 h
theorem strq_eq {s t : ByteArray} (h : s = t) : (s.toList == t.toList) = true := (Lib.bytes_beq_iff s t).2 h
def sameS (xs ys : List ByteArray) : Bool := decide (xs = ys)
theorem sameS_len {xs ys : List ByteArray} (h : xs.length ≠ ys.length) : false = sameS xs ys := by unfold sameS; symm; rw [decide_eq_false_iff_not]; rintro rfl; exact h rfl
theorem sameS_no {xs ys : List ByteArray} {k : Nat} {x y : ByteArray} (hx : xs[k]? = some x) (hy : ys[k]? = some y) (h : ¬ x = y) : false = sameS xs ys := by
  unfold sameS; symm; rw [decide_eq_false_iff_not]; rintro rfl; rw [hx] at hy; injection hy with e; exact h e
theorem sameS_yes {xs ys : List ByteArray} (h : xs = ys) : true = sameS xs ys := by unfold sameS; symm; rw [decide_eq_true_eq]; exact h
set_option maxHeartbeats 400000 in
theorem sameS_any (a b : Value) (xs ys : List ByteArray) (w : World) (ha : Sl w 1 a xs.length (strV xs)) (hb : Sl w 1 b ys.length (strV ys)) :
    Calls Tryd.prog 42 #[a, b] w (QuietB w (sameS xs ys)) := by
  obtain ⟨A, c, rfl, hc1, hc2⟩ := ha.form
  obtain ⟨A', c', rfl, hc1', hc2'⟩ := hb.form
  unfold maxLen at hc2 hc2'
  by_cases hl : xs.length = ys.length
  · have hne : ((xs.length : Int) != (ys.length : Int)) = false := by simp; omega
    have HL := Lib.hid hl
    clear hl
    go_enter Tryd.func42, Tryd.ntmps42
    go_wp2
    go_loopw [13] (fun i wr => ∃ (k : Nat), k ≤ xs.length ∧ i = .int .i64 k ∧ (∃ m, wr = w.drewN m) ∧ Pre xs ys k)
      (fun i _ => xs.length - (intOf i).toNat)
    case atStart => exact ⟨0, by omega, rfl, ⟨0, rfl⟩, Pre.zero _ _⟩
    case round =>
      obtain ⟨k, hk, rfl, ⟨m, rfl⟩, hall⟩ := hrel
      by_cases hlt : k < xs.length
      · obtain ⟨ad, x, rfl, hx, hcx⟩ := ha.str_at hlt
        have hlt' : k < ys.length := by rw [← HL.out]; exact hlt
        obtain ⟨bd, y, rfl, hy, hcy⟩ := hb.str_at hlt'
        have Hx := Lib.hid hx
        have Hy := Lib.hid hy
        clear hx hy
        by_cases he : x = y
        · have hne2 := strq_eq he
          have HE := Lib.hid he
          clear he
          go_wp2
          go_quiet (fail)
          go_wp2
          go_roundw
          case rel => exact ⟨k + 1, by omega, by go_num, ⟨_, rfl⟩, hall.next (by rw [Hx.out, Hy.out, HE.out])⟩
          case measure => simp [intOf]; omega
        · have hne2 := strq_ne he
          go_wp2
          go_quiet (fail)
          go_wp2
          go_ret
          rw [World.drewN_drewN]
          exact QuietB.mk_ _ (sameS_no Hx.out Hy.out he)
      · go_wp2
        go_ret
        exact QuietB.mk_ _ (sameS_yes (Pre.all HL.out (by rw [show xs.length = k from by omega]; exact hall)))
  · have hne : ((xs.length : Int) != (ys.length : Int)) = true := by simp; omega
    go_enter Tryd.func42, Tryd.ntmps42
    go_wp2
    go_ret
    exact QuietB.mk0 (sameS_len hl)
end Go.Proofs.YtlchfaakmgclcaaDoor
