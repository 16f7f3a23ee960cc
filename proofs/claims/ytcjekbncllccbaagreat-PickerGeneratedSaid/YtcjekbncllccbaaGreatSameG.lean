/-
  '==' of ranges; keep.Same at ranges.
-/
import Derived.Test.YtcjekbncllccbaaGreatEntEq
import Derived.Test.YtcjekbncllccbaaGreatKRanges
import Derived.Test.YtcjekbncllccbaaGreatKEntries
import Derived.Test.YtcjekbncllccbaaGreatBase
import Derived.Deep.QuietTactic
import Derived.BigQuiet
import Derived.Deep.DeepCutAuto
import Derived.Deep.CutBlock
namespace Go.Proofs.YtcjekbncllccbaaGreat
open Go.RowKit Go.Sort
set_option maxRecDepth 100000 in
set_option maxHeartbeats 1000000 in
theorem eq_rg (d : Nat) (b1 d1 b2 d2 f1 g1 f2 g2 : Int) (a1 a2 c1 c2 : Bool) (s1 s2 t1 t2 : ByteArray) (w : World) :
    (Op.equalIn (d + 4) 43 (.agg #[.bool a1, .int .i64 b1, .string s1, .int .i64 d1, .bool a2, .int .i64 b2, .string s2, .int .i64 d2]) (.agg #[.bool c1, .int .i64 f1, .string t1, .int .i64 g1, .bool c2, .int .i64 f2, .string t2, .int .i64 g2])).run Tryz.prog w
      = .ok (rkB a1 c1 b1 f1 d1 g1 s1 t1 && rkB a2 c2 b2 f2 d2 g2 s2 t2) w := by
  have u3 := Tryz.underlying3
  have hS : Tryz.prog.underlying 43 = some (.struct (Tryz.prog.fieldsOf 43)) := by kernel_rfl
  have hp : Tryz.prog.stoodInHeld 43 = false := by kernel_rfl
  have hv : ∀ (a c : Bool) (n m q r : Int) (s t : ByteArray) (w : World), (Op.equalIn (d + 3) 30 (.agg #[.bool a, .int .i64 n, .string s, .int .i64 q]) (.agg #[.bool c, .int .i64 m, .string t, .int .i64 r])).run Tryz.prog w = .ok (rkB a c n m q r s t) w := fun a c n m q r s t w => eq_rk d a c n m q r s t w
  rw [run_equalIn_agg w (d + 3) 43 _ _ hS hp]
  simp only [Program.fieldsOf, Tryz.underlying43]
  simp only [Op.eqFields]
  generalize hR1 : rkB a1 c1 b1 f1 d1 g1 s1 t1 = R1
  generalize hR2 : rkB a2 c2 b2 f2 d2 g2 s2 t2 = R2
  have hv1 := hv a1 c1 b1 f1 d1 g1 s1 t1
  have hv2 := hv a2 c2 b2 f2 d2 g2 s2 t2
  rw [hR1] at hv1
  rw [hR2] at hv2
  clear hv hR1 hR2
  go_simp
  cases R1 <;> cases R2 <;> simp
def eqG (x y : Rg) : Bool := rkB x.lo.null y.lo.null x.lo.n y.lo.n x.lo.seq y.lo.seq x.lo.s y.lo.s && rkB x.hi.null y.hi.null x.hi.n y.hi.n x.hi.seq y.hi.seq x.hi.s y.hi.s
theorem eqG_iff {x y : Rg} : eqG x y = true ↔ x = y := by
  obtain ⟨x1, y1⟩ := x
  obtain ⟨x2, y2⟩ := y
  unfold eqG
  simp only [Bool.and_eq_true, rkB_iff, Rg.mk.injEq]
theorem neq_rg (x y : Rg) (w : World) : (binOp .neq 43 (.agg #[.bool x.lo.null, .int .i64 x.lo.n, .string x.lo.s, .int .i64 x.lo.seq, .bool x.hi.null, .int .i64 x.hi.n, .string x.hi.s, .int .i64 x.hi.seq]) (.agg #[.bool y.lo.null, .int .i64 y.lo.n, .string y.lo.s, .int .i64 y.lo.seq, .bool y.hi.null, .int .i64 y.hi.n, .string y.hi.s, .int .i64 y.hi.seq])).run Tryz.prog w = .ok (.bool (!eqG x y)) w := by
  rw [run_neq_struct, show (10000 : Nat) = 9996 + 4 from rfl, eq_rg]; rfl
def sameRgs (xs ys : List Rg) : Bool := xs.length == ys.length && allTo (fun k => match xs[k]?, ys[k]? with | some x, some y => eqG x y | _, _ => true) xs.length
theorem sameRgs_len {xs ys : List Rg} (h : xs.length ≠ ys.length) : sameRgs xs ys = false := by unfold sameRgs; simp [h]
theorem sameRgs_no {xs ys : List Rg} {k : Nat} {x y : Rg} (hx : xs[k]? = some x) (hy : ys[k]? = some y) (h : eqG x y = false) : sameRgs xs ys = false := by
  unfold sameRgs
  rw [allTo_false (List.getElem?_eq_some_iff.1 hx).1 (by simp only [hx, hy]; exact h), Bool.and_false]
theorem sameRgs_iff {xs ys : List Rg} : sameRgs xs ys = true ↔ xs = ys := by
  unfold sameRgs
  rw [Bool.and_eq_true, beq_iff_eq, allTo_true]
  constructor
  · rintro ⟨hl, h⟩
    apply List.ext_getElem?
    intro k
    by_cases hk : k < xs.length
    · have := h k hk
      rw [List.getElem?_eq_getElem hk, List.getElem?_eq_getElem (by omega)] at this ⊢
      rw [eqG_iff.1 this]
    · rw [List.getElem?_eq_none (by omega), List.getElem?_eq_none (by omega)]
  · rintro rfl
    refine ⟨rfl, fun k hk => ?_⟩
    rw [List.getElem?_eq_getElem hk]; exact eqG_iff.2 rfl
theorem sameRgs_refl (xs : List Rg) : sameRgs xs xs = true := sameRgs_iff.2 rfl
set_option maxRecDepth 100000 in
set_option maxHeartbeats 2000000 in
theorem sameG_any (a b : Value) (xs ys : List Rg) (w : World) (ha : Sl w 8 a xs.length (rngs xs)) (hb : Sl w 8 b ys.length (rngs ys)) (hxl : xs.length ≤ 9223372036854775807) :
    Calls Tryz.prog 19 #[a, b] w (QuietB w (sameRgs xs ys)) := by
  obtain ⟨A, c, rfl, hc1, hc2⟩ := ha.form
  obtain ⟨A', c', rfl, hc1', hc2'⟩ := hb.form
  unfold maxLen at hc2 hc2'
  by_cases hl : xs.length = ys.length
  · have hne : ((xs.length : Int) != (ys.length : Int)) = false := by simp; omega
    have HL := Lib.hid hl
    clear hl
    go_enter Tryz.func19, Tryz.ntmps19
    go_wp2
    go_loopw [13] (fun i wr => ∃ (k : Nat), k ≤ xs.length ∧ i = .int .i64 k ∧ (∃ m, wr = w.drewN m) ∧ Pre xs ys k)
      (fun i _ => xs.length - (intOf i).toNat)
    case atStart => exact ⟨0, by omega, rfl, ⟨0, rfl⟩, Pre.zero _ _⟩
    case round =>
      obtain ⟨k, hk, rfl, ⟨m, rfl⟩, hall⟩ := hrel
      by_cases hlt : k < xs.length
      · obtain ⟨ad, x, p, rfl, hx, hp, hX⟩ := ha.rg_load rfl hlt
        have hlt' : k < ys.length := by rw [← HL.out]; exact hlt
        obtain ⟨bd, y, q, rfl, hy, hq, hY⟩ := hb.rg_load rfl hlt'
        obtain ⟨_, x0, x1, x2, x3, x4, x5, x6, x7⟩ := hX
        obtain ⟨_, y0, y1, y2, y3, y4, y5, y6, y7⟩ := hY
        have Hx := Lib.hid hx
        have Hy := Lib.hid hy
        have HA := Lib.hid hall
        have EQ := neq_rg x y
        clear hx hy hall
        cases he : eqG x y with
        | false =>
          rw [he] at EQ
          have HE := Lib.hid (sameRgs_no Hx.out Hy.out he)
          clear he
          go_wp2
          go_quiet (fail)
          go_wp2
          go_ret
          rw [World.drewN_drewN]
          exact QuietB.mk_ _ HE.out.symm
        | true =>
          rw [he] at EQ
          have HE := Lib.hid (show xs[k]? = ys[k]? by rw [Hx.out, Hy.out, eqG_iff.1 he])
          clear he
          go_wp2
          go_quiet (fail)
          go_wp2
          go_roundw
          case rel => exact ⟨k + 1, by omega, by go_num, ⟨_, rfl⟩, HA.out.next HE.out⟩
          case measure => simp [intOf]; omega
      · go_wp2
        go_ret
        exact QuietB.mk_ _ (sameRgs_iff.2 (Pre.all HL.out (by rw [show xs.length = k from by omega]; exact hall))).symm
  · have hne : ((xs.length : Int) != (ys.length : Int)) = true := by simp; omega
    go_enter Tryz.func19, Tryz.ntmps19
    go_wp2
    go_ret
    exact QuietB.mk0 (sameRgs_len hl).symm
end Go.Proofs.YtcjekbncllccbaaGreat
