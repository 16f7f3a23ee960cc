/-
  keep.Same at entries, keep.SameSnapshot, the law's has.
-/
import Derived.Test.YtoikgjhekemjdaaEntEq
import Derived.Test.YtoikgjhekemjdaaBase
import Derived.Deep.QuietTactic
import Derived.BigQuiet
import Derived.Deep.DeepCutAuto
import Derived.Deep.CutBlock
namespace Go.Proofs.Ytoikgjhekemjdaa
open Go.RowKit Go.Sort
def sameEnts (xs ys : List Ent) : Bool := xs.length == ys.length && allTo (fun k => match xs[k]?, ys[k]? with | some x, some y => eqE x y | _, _ => true) xs.length
theorem sameEnts_len {xs ys : List Ent} (h : xs.length ≠ ys.length) : sameEnts xs ys = false := by unfold sameEnts; simp [h]
theorem sameEnts_no {xs ys : List Ent} {k : Nat} {x y : Ent} (hx : xs[k]? = some x) (hy : ys[k]? = some y) (h : eqE x y = false) : sameEnts xs ys = false := by
  unfold sameEnts
  rw [allTo_false (List.getElem?_eq_some_iff.1 hx).1 (by simp only [hx, hy]; exact h), Bool.and_false]
theorem sameEnts_iff {xs ys : List Ent} : sameEnts xs ys = true ↔ xs = ys := by
  unfold sameEnts
  rw [Bool.and_eq_true, beq_iff_eq, allTo_true]
  constructor
  · rintro ⟨hl, h⟩
    apply List.ext_getElem? 
    intro k
    by_cases hk : k < xs.length
    · have := h k hk
      rw [List.getElem?_eq_getElem hk, List.getElem?_eq_getElem (by omega)] at this ⊢
      rw [eqE_iff.1 this]
    · rw [List.getElem?_eq_none (by omega), List.getElem?_eq_none (by omega)]
  · rintro rfl
    refine ⟨rfl, fun k hk => ?_⟩
    rw [List.getElem?_eq_getElem hk]; exact eqE_iff.2 rfl
theorem sameEnts_refl (xs : List Ent) : sameEnts xs xs = true := sameEnts_iff.2 rfl
set_option maxRecDepth 100000 in
set_option maxHeartbeats 2000000 in
theorem sameE_any (a b : Value) (xs ys : List Ent) (w : World) (ha : Sl w 12 a xs.length (ents xs)) (hb : Sl w 12 b ys.length (ents ys)) (hxl : xs.length ≤ 9223372036854775807) :
    Calls Try.prog 42 #[a, b] w (QuietB w (sameEnts xs ys)) := by
  obtain ⟨A, c, rfl, hc1, hc2⟩ := ha.form
  obtain ⟨A', c', rfl, hc1', hc2'⟩ := hb.form
  unfold maxLen at hc2 hc2'
  by_cases hl : xs.length = ys.length
  · have hne : ((xs.length : Int) != (ys.length : Int)) = false := by simp; omega
    have HL := Lib.hid hl
    clear hl
    go_enter Try.func42, Try.ntmps42
    go_wp2
    go_loopw [13] (fun i wr => ∃ (k : Nat), k ≤ xs.length ∧ i = .int .i64 k ∧ (∃ m, wr = w.drewN m) ∧ Pre xs ys k)
      (fun i _ => xs.length - (intOf i).toNat)
    case atStart => exact ⟨0, by omega, rfl, ⟨0, rfl⟩, Pre.zero _ _⟩
    case round =>
      obtain ⟨k, hk, rfl, ⟨m, rfl⟩, hall⟩ := hrel
      by_cases hlt : k < xs.length
      · obtain ⟨ad, x, p, rfl, hx, hp, hX⟩ := ha.ent_load rfl hlt
        have hlt' : k < ys.length := by rw [← HL.out]; exact hlt
        obtain ⟨bd, y, q, rfl, hy, hq, hY⟩ := hb.ent_load rfl hlt'
        obtain ⟨_, x0, x1, x2, x3, x4, x5, x6, x7, x8, x9, x10, x11⟩ := hX
        obtain ⟨_, y0, y1, y2, y3, y4, y5, y6, y7, y8, y9, y10, y11⟩ := hY
        have Hx := Lib.hid hx
        have Hy := Lib.hid hy
        have HA := Lib.hid hall
        have EQ := neq_ent x y
        clear hx hy hall
        cases he : eqE x y with
        | false =>
          rw [he] at EQ
          have HE := Lib.hid (sameEnts_no Hx.out Hy.out he)
          clear he
          go_wp2
          go_quiet (fail)
          go_wp2
          go_ret
          rw [World.drewN_drewN]
          exact QuietB.mk_ _ HE.out.symm
        | true =>
          rw [he] at EQ
          have HE := Lib.hid (show xs[k]? = ys[k]? by rw [Hx.out, Hy.out, eqE_iff.1 he])
          clear he
          go_wp2
          go_quiet (fail)
          go_wp2
          go_roundw
          case rel => exact ⟨k + 1, by omega, by go_num, ⟨_, rfl⟩, HA.out.next HE.out⟩
          case measure => simp [intOf]; omega
      · go_wp2
        go_ret
        exact QuietB.mk_ _ (sameEnts_iff.2 (Pre.all HL.out (by rw [show xs.length = k from by omega]; exact hall))).symm
  · have hne : ((xs.length : Int) != (ys.length : Int)) = true := by simp; omega
    go_enter Try.func42, Try.ntmps42
    go_wp2
    go_ret
    exact QuietB.mk0 (sameEnts_len hl).symm
end Go.Proofs.Ytoikgjhekemjdaa
