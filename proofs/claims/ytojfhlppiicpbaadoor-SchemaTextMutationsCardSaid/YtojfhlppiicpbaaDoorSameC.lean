/-
  The contracts of keep.Same at columns, and of keep.SameSchema.
-/
import Derived.Test.YtojfhlppiicpbaaDoorCols
import Derived.Test.YtojfhlppiicpbaaDoorBase
import Derived.Deep.QuietTactic
import Derived.BigQuiet
import Derived.Laws.StructEq
import Derived.Deep.DeepCutAuto
import Derived.Deep.CutBlock
namespace Go.Proofs.YtojfhlppiicpbaaDoor
open Go.RowKit Go.Sort
set_option linter.unusedVariables false
theorem sameC_len {xs ys : List Col} {B : Bool} (hB : B = true ↔ xs = ys) (h : xs.length ≠ ys.length) : false = B := by
  cases B with
  | false => rfl
  | true => exact absurd (congrArg List.length (hB.1 rfl)) h
theorem sameC_no {xs ys : List Col} {B : Bool} (hB : B = true ↔ xs = ys) {k : Nat} {x y : Col} (hx : xs[k]? = some x) (hy : ys[k]? = some y) (h : ¬ x = y) : false = B := by
  cases B with
  | false => rfl
  | true => have := hB.1 rfl; subst this; rw [hx] at hy; injection hy with e; exact absurd e h
theorem sameC_yes {xs ys : List Col} {B : Bool} (hB : B = true ↔ xs = ys) (h : xs = ys) : true = B := (hB.2 h).symm
theorem colEq {x y : Col} (h1 : x.nm = y.nm) (h2 : x.ty = y.ty) (h3 : x.sc = y.sc) (h4 : x.nu = y.nu) : x = y := by
  cases x; cases y; simp only at h1 h2 h3 h4; subst h1 h2 h3 h4; rfl
set_option maxRecDepth 100000 in
set_option maxHeartbeats 1000000 in
theorem sameC_any (a b : Value) (xs ys : List Col) (w : World) (ha : Sl w 4 a xs.length (cols xs)) (hb : Sl w 4 b ys.length (cols ys)) {B : Bool} (hB : B = true ↔ xs = ys) :
    Calls Tryd.prog 34 #[a, b] w (QuietB w B) := by
  obtain ⟨A, c, rfl, hc1, hc2⟩ := ha.form
  obtain ⟨A', c', rfl, hc1', hc2'⟩ := hb.form
  unfold maxLen at hc2 hc2'
  have HQ := Lib.hid hB
  clear hB
  by_cases hl : xs.length = ys.length
  · have hne : ((xs.length : Int) != (ys.length : Int)) = false := by simp; omega
    have HL := Lib.hid hl
    clear hl
    go_enter Tryd.func34, Tryd.ntmps34
    go_wp2
    go_loopw [13] (fun i wr => ∃ (k : Nat), k ≤ xs.length ∧ i = .int .i64 k ∧ (∃ m, wr = w.drewN m) ∧ Pre xs ys k)
      (fun i _ => xs.length - (intOf i).toNat)
    case atStart => exact ⟨0, by omega, rfl, ⟨0, rfl⟩, Pre.zero _ _⟩
    case round =>
      obtain ⟨k, hk, rfl, ⟨m, rfl⟩, hall⟩ := hrel
      by_cases hlt : k < xs.length
      · obtain ⟨ad, x, p, rfl, hx, hp, hX⟩ := ha.col_load rfl hlt
        have hlt' : k < ys.length := by rw [← HL.out]; exact hlt
        obtain ⟨bd, y, q, rfl, hy, hq, hY⟩ := hb.col_load rfl hlt'
        obtain ⟨_, x0, x1, x2, x3⟩ := hX
        obtain ⟨_, y0, y1, y2, y3⟩ := hY
        have Hx := Lib.hid hx
        have Hy := Lib.hid hy
        have HA := Lib.hid hall
        clear hx hy hall
        obtain ⟨n1, t1, s1, u1⟩ := x
        obtain ⟨n2, t2, s2, u2⟩ := y
        simp only at x0 x1 x2 x3 y0 y1 y2 y3
        by_cases e1 : n1 = n2
        case neg =>
          have q1 := colq_ne e1
          have HE := Lib.hid (sameC_no HQ.out Hx.out Hy.out (fun e => e1 (congrArg Col.nm e)))
          clear e1
          go_wp2
          go_quiet (fail)
          go_wp2
          go_ret
          rw [World.drewN_drewN]
          exact QuietB.mk_ _ HE.out
        have q1 := colq_eq e1
        by_cases e2 : t1 = t2
        case neg =>
          have q2 : (t1 == t2) = false := by simpa using e2
          have HE := Lib.hid (sameC_no HQ.out Hx.out Hy.out (fun e => e2 (congrArg Col.ty e)))
          clear e1 e2
          go_wp2
          go_quiet (fail)
          go_wp2
          go_ret
          rw [World.drewN_drewN]
          exact QuietB.mk_ _ HE.out
        have q2 : (t1 == t2) = true := by simpa using e2
        by_cases e3 : s1 = s2
        case neg =>
          have q3 : (s1 == s2) = false := by simpa using e3
          have HE := Lib.hid (sameC_no HQ.out Hx.out Hy.out (fun e => e3 (congrArg Col.sc e)))
          clear e1 e2 e3
          go_wp2
          go_quiet (fail)
          go_wp2
          go_ret
          rw [World.drewN_drewN]
          exact QuietB.mk_ _ HE.out
        have q3 : (s1 == s2) = true := by simpa using e3
        by_cases e4 : u1 = u2
        case neg =>
          have q4 : (u1 == u2) = false := by simpa using e4
          have HE := Lib.hid (sameC_no HQ.out Hx.out Hy.out (fun e => e4 (congrArg Col.nu e)))
          clear e1 e2 e3 e4
          go_wp2
          go_quiet (fail)
          go_wp2
          go_ret
          rw [World.drewN_drewN]
          exact QuietB.mk_ _ HE.out
        have q4 : (u1 == u2) = true := by simpa using e4
        have HE := Lib.hid (show xs[k]? = ys[k]? by rw [Hx.out, Hy.out, e1, e2, e3, e4])
        clear e1 e2 e3 e4
        go_wp2
        go_quiet (fail)
        go_wp2
        go_roundw
        case rel => exact ⟨k + 1, by omega, by go_num, ⟨_, rfl⟩, HA.out.next HE.out⟩
        case measure => simp [intOf]; omega
      · go_wp2
        go_ret
        exact QuietB.mk_ _ (sameC_yes HQ.out (Pre.all HL.out (by rw [show xs.length = k from by omega]; exact hall)))
  · have hne : ((xs.length : Int) != (ys.length : Int)) = true := by simp; omega
    go_enter Tryd.func34, Tryd.ntmps34
    go_wp2
    go_ret
    exact QuietB.mk0 (sameC_len HQ.out hl)
set_option maxRecDepth 100000 in
set_option maxHeartbeats 1000000 in
theorem sameSchema_any (v v' : Value) (l l' : List Col) (key : Int) (w : World) (hs : Sl w 4 v l.length (cols l)) (hs' : Sl w 4 v' l'.length (cols l')) {B : Bool} (hB : B = true ↔ l = l') :
    Calls Tryd.prog 17 #[.agg #[v, .int .i64 key], .agg #[v', .int .i64 key]] w (RetBB w B) := by
  obtain ⟨A, c, rfl, _, _⟩ := hs.form
  obtain ⟨A', c', rfl, _, _⟩ := hs'.form
  obtain ⟨W, hW⟩ : ∃ W, W = (w.alloc (.cells #[.slice A l.length c, .int .i64 key] 34)).alloc (.cells #[.slice A' l'.length c', .int .i64 key] 34) := ⟨_, rfl⟩
  have hb := Joins.below_alloc2 w (.cells #[.slice A l.length c, .int .i64 key] 34) (.cells #[.slice A' l'.length c', .int .i64 key] 34)
  rw [← hW] at hb
  have b0 : Blk W w.heap.size 34 #[.slice A l.length c, .int .i64 key] := by rw [hW]; exact (Blk.new _ _ _).alloc _
  have b1 : Blk W (w.heap.size + 1) 34 #[.slice A' l'.length c', .int .i64 key] := by
    rw [hW]
    have := Blk.new (w.alloc (.cells #[.slice A l.length c, .int .i64 key] 34)) 34 #[.slice A' l'.length c', .int .i64 key]
    rwa [show (w.alloc (.cells #[.slice A l.length c, .int .i64 key] 34)).heap.size = w.heap.size + 1 by simp] at this
  have c0 : W.cell? ⟨w.heap.size, 0, none⟩ = some (.slice A l.length c) := b0.cell 0
  have c1 : W.cell? ⟨w.heap.size, 1, none⟩ = some (.int .i64 key) := b0.cell 1
  have d0 : W.cell? ⟨w.heap.size + 1, 0, none⟩ = some (.slice A' l'.length c') := b1.cell 0
  have d1 : W.cell? ⟨w.heap.size + 1, 1, none⟩ = some (.int .i64 key) := b1.cell 1
  have HC := Lib.hid (sameC_any _ _ l l' W (hs.below hb) (hs'.below hb) hB)
  have HB := Lib.hid hb
  clear hb b0 b1 hs hs'
  go_enter Tryd.func17, Tryd.ntmps17
  go_upto_region 1 with (fail)
  rw [← hW]
  clear hW
  go_wp2_with fail
  refine HC.out.mono ?_
  rintro _ w2 ⟨rfl, m, rfl⟩
  go_wp2
  go_ret
  exact RetBB.mk_ rfl (below_drewN HB.out m)
end Go.Proofs.YtojfhlppiicpbaaDoor
