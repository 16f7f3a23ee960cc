/-
  The contract of ref27.insert: a number put into an ascending list.
-/
import Derived.Test.YtcjekbncllccbaaGreatPickPeak
import Derived.Test.YtcjekbncllccbaaGreatRecKit
import Derived.Test.YtcjekbncllccbaaGreatBase
import Derived.Deep.QuietTactic
import Derived.BigQuiet
namespace Go.Proofs.YtcjekbncllccbaaGreat
open Go.RowKit
theorem ints_append (a b : List Int) : ints (a ++ b) = ints a ++ ints b := by simp [ints]
theorem ints_take1 (l : List Int) (k : Nat) : (ints l).take k = ints (l.take k) := by simp [ints, List.map_take]
theorem ints_drop1 (l : List Int) (k : Nat) : (ints l).drop k = ints (l.drop k) := by simp [ints, List.map_drop]
theorem one_ints (l : List Int) : ∀ y ∈ ints l, y.oneCell' = true := by
  intro y hy
  simp only [ints, List.mem_map] at hy
  obtain ⟨x, _, rfl⟩ := hy
  rfl
theorem insI_at : ∀ {l : List Int} {v : Int} {k : Nat}, k ≤ l.length → (∀ (j : Nat) (d : Int), l[j]? = some d → j < k → d < v) → (∀ d, l[k]? = some d → ¬ d < v) → insI l v = l.take k ++ [v] ++ l.drop k
  | [], v, k, hk, _, _ => by simp at hk; subst hk; rfl
  | x :: r, v, 0, _, _, h2 => by
    have := h2 x rfl
    unfold insI
    rw [List.takeWhile_cons, List.dropWhile_cons]
    simp [this]
  | x :: r, v, k + 1, hk, h1, h2 => by
    have hx : x < v := h1 0 x rfl (by omega)
    have hr := insI_at (l := r) (v := v) (k := k) (by simpa using hk) (fun j d hd hj => h1 (j + 1) d (by simpa using hd) (by omega)) (fun d hd => h2 d (by simpa using hd))
    unfold insI at hr ⊢
    rw [List.takeWhile_cons, List.dropWhile_cons]
    simp only [hx, decide_true, if_true, List.cons_append, List.take_succ_cons, List.drop_succ_cons]
    rw [hr]
def RetIns (w : World) (base : Nat) (l : List Int) (e : Ending) (w' : World) : Prop := ∃ v, e = .returned v ∧ w'.ownsRow base 3 1 v l.length (ints l) ∧ Below w.heap.size w w'
theorem Sl.frontI {w : World} {sz n c k : Nat} {A : Option Addr} {xs : List Value} (h : Sl w sz (.slice A n c) n xs) (hk : k ≤ n) : Sl w sz (.slice A k c) k (xs.take (k * sz)) := by
  obtain ⟨A', c', e, q1, q2, q3, q4⟩ := h
  injection e with e1 _ e3
  subst e1 e3
  refine ⟨_, _, rfl, by omega, q2, by rw [List.length_take, q3]; exact Nat.min_eq_left (Nat.mul_le_mul_right _ hk), fun hp => ?_⟩
  obtain ⟨ad, e, hb, hc⟩ := q4 (by omega)
  refine ⟨ad, e, hb, fun j u hu => hc j u ?_⟩
  rw [List.getElem?_take] at hu
  split at hu
  · exact hu
  · cases hu
theorem Sl.backI {w : World} {sz n c k g : Nat} {xs : List Value} (h : Sl w sz (.slice (some ⟨g, 0, none⟩) n c) n xs) (hk : k ≤ n) : Sl w sz (.slice (if c = k then some ⟨g, 0, none⟩ else some ⟨g, k * sz, none⟩) (n - k) (c - k)) (n - k) (xs.drop (k * sz)) := by
  obtain ⟨A', c', e, q1, q2, q3, q4⟩ := h
  injection e with e1 _ e3
  subst e1 e3
  refine ⟨_, _, rfl, by omega, by unfold maxLen at q2 ⊢; omega, by rw [List.length_drop, q3, Nat.sub_mul], fun hp => ?_⟩
  rw [if_neg (by omega)]
  obtain ⟨ad, e, hb, hc⟩ := q4 (by omega)
  injection e with e
  subst e
  refine ⟨_, rfl, hb, fun j u hu => ?_⟩
  rw [List.getElem?_drop] at hu
  have := hc _ _ hu
  rw [Addr.add_lit] at this ⊢
  rw [Nat.zero_add] at this
  exact this
set_option maxRecDepth 100000 in
set_option maxHeartbeats 4000000 in
theorem rins_any (v : Value) (base : Nat) (l : List Int) (s : Int) (w : World) (hown : w.ownsRow base 3 1 v l.length (ints l)) (hl : l.length ≤ 100000000) (hb0 : base ≤ w.heap.size) :
    Calls Tryz.prog 55 #[v, .int .i64 s] w (RetIns w base (insI l s)) := by
  have HO := Lib.hid hown
  obtain ⟨A, c, rfl, hc1, hc2⟩ := (Sl.of_own hown).form
  unfold maxLen at hc2
  have HFIN := Lib.hid (fun (k : Nat) (hk : k ≤ l.length) => insI_at (v := s) (k := k) hk)
  have HLL := Lib.hid (show (ints l).length = l.length by simp [ints])
  rcases hown.2 with ⟨e0, h0⟩ | ⟨g, cap, cur, e0, _⟩
  · injection e0 with e1 e2 e3
    subst e1 e3
    have hl0 := List.eq_nil_of_length_eq_zero e2
    subst hl0
    have HF := Lib.hid (show insI [] s = [s] from rfl)
    go_enter Tryz.func55, Tryz.ntmps55
    go_wp2
    go_loop [5] (fun i => i = .int .i64 0) (fun _ => 0)
    case atStart => rfl
    case round =>
      subst hrel
      go_upto_region 4 with (fail)
      go_wp2_with (at_builtin; go_must (refine appN _ _ (World.ownsRow_nil w w.heap.size 3 1) (Sl.nil w 1) (Nat.le_refl _) under_i64 info_i64 rfl (by decide) (by simp) (by omega) (by omega) rfl rfl rfl rfl ?_))
      intro v1 w1 ho1 hg1 _
      have hb1 : Below w.heap.size w w1 := ⟨hg1.os, hg1.tape, hg1.output, hg1.size, fun i hi => hg1.block i hi (by simp [Value.ownBlock])⟩
      have hs1 := hb1.size
      have HB1 := Lib.hid hb1
      clear hg1 hb1
      go_wp2_with (at_builtin; go_must (refine app1 _ _ ho1 (Below.refl w.heap.size w1) (Nat.le_refl _) hs1 under_i64 info_i64 rfl (by decide) rfl (oneInt _ _) (by omega) (by omega) rfl rfl rfl rfl ?_))
      intro g2 cap2 w2 ho2 hb2 hg2 _
      have ho2' : w2.ownsRow w.heap.size 3 1 (.slice (some ⟨g2, 0, none⟩) 1 cap2) 1 (ints [s]) := by simpa [ints] using ho2
      have HB2 := Lib.hid (HB1.out.trans hb2)
      have hs2 := HB2.out.size
      clear ho1 ho2 hb2 hg2
      go_wp2_with (at_builtin; go_must (refine appN _ _ ho2' (Sl.nil w2 1) (by omega) under_i64 info_i64 rfl (by decide) (by simp) (by omega) (by omega) rfl rfl rfl rfl ?_))
      intro v3 w3 ho3 hg3 hor3
      have HB3 := Lib.hid (HB2.out.grown hg3 HB2.out.size (fun b hb' => (ho2'.lt b hb').1))
      have HR := Lib.hid (show w3.ownsRow base 3 1 v3 (insI [] s).length (ints (insI [] s)) by rw [HF.out]; simpa using own_mono ho3 hb0)
      clear ho3 hg3 hor3 ho2'
      go_wp2
      go_ret
      exact ⟨_, rfl, HR.out, HB3.out⟩
  · injection e0 with e1 _ e3
    subst e1 e3
    have hgs := (hown.lt g rfl).2
    go_enter Tryz.func55, Tryz.ntmps55
    go_wp2
    go_loop [5] (fun i => ∃ k : Nat, k ≤ l.length ∧ i = .int .i64 k ∧ Hid (∀ (j : Nat) (d : Int), l[j]? = some d → j < k → d < s)) (fun i => l.length - (intOf i).toNat)
    case atStart => exact ⟨0, by omega, rfl, Lib.hid fun j d _ hj => absurd hj (Nat.not_lt_zero _)⟩
    case round =>
      obtain ⟨k, hk, rfl, hno⟩ := hrel
      have hkc : k ≤ c := by omega
      have hsl1 := Sl.frontI (k := k) (Sl.of_own HO.out) hk
      rw [Nat.mul_one, ints_take1] at hsl1
      by_cases hlt : k < l.length
      · obtain ⟨ad, d, hA, hd, hcy⟩ := (Sl.of_own HO.out).int_at hlt
        cases hA
        rw [Addr.add_lit, Nat.zero_add] at hcy
        have HD := Lib.hid hd
        clear hd
        by_cases hq : d < s
        · have q1 : decide (d < s) = true := decide_eq_true hq
          have HN := Lib.hid (show ∀ (j : Nat) (x : Int), l[j]? = some x → j < k + 1 → x < s from fun j x hx hj => by
            by_cases ej : j = k
            · subst ej; rw [HD.out] at hx; injection hx with hx; rw [← hx]; exact hq
            · exact hno.out j x hx (by omega))
          clear hq hsl1
          go_wp2
          go_round
          case rel => exact ⟨k + 1, by omega, by go_num, HN⟩
          case measure => simp [intOf]; omega
        · have q1 : decide (d < s) = false := decide_eq_false hq
          have HF := Lib.hid (HFIN.out k hk hno.out (fun x hx => by rw [HD.out] at hx; injection hx with hx; rw [← hx]; exact Int.not_lt.1 hq))
          clear hq
          go_upto_region 4 with (fail)
          go_wp2_with (at_builtin; go_must (refine appN _ _ (World.ownsRow_nil w w.heap.size 3 1) hsl1 (Nat.le_refl _) under_i64 info_i64 rfl (by decide) (one_ints _) (by omega) (by omega) rfl rfl rfl rfl ?_))
          intro v1 w1 ho1 hg1 _
          have hb1 : Below w.heap.size w w1 := ⟨hg1.os, hg1.tape, hg1.output, hg1.size, fun i hi => hg1.block i hi (by simp [Value.ownBlock])⟩
          have hs1 := hb1.size
          have HB1 := Lib.hid hb1
          have HO1 := Lib.hid (own_below HO.out hb1)
          clear hg1 hb1
          go_wp2_with (at_builtin; go_must (refine app1 _ _ ho1 (Below.refl w.heap.size w1) (Nat.le_refl _) hs1 under_i64 info_i64 rfl (by decide) rfl (oneInt _ _) (by omega) (by omega) rfl rfl rfl rfl ?_))
          intro g2 cap2 w2 ho2 hb2 hg2 _
          have hol2 := own_grown HO1.out hg2 (fun b hb' e => by
            have h1 := (ho1.lt b e).1
            have h2 := (HO.out.lt b hb').2
            omega)
          have hsl2 := Sl.backI (k := k) (Sl.of_own hol2) hk
          rw [Nat.mul_one, ints_drop1] at hsl2
          rw [if_neg (show ¬c = k by omega)] at hsl2
          have ho2' : w2.ownsRow w.heap.size 3 1 (.slice (some ⟨g2, 0, none⟩) (k + 1) cap2) (k + 1) (ints (l.take k ++ [s])) := by have := ho2; rw [ints_append]; simpa [ints] using this
          have HB2 := Lib.hid (HB1.out.trans hb2)
          have hs2 := HB2.out.size
          clear ho1 ho2 hb2 hg2 hol2
          go_wp2_with (at_builtin; go_must (refine appN _ _ ho2' hsl2 (by omega) under_i64 info_i64 rfl (by decide) (one_ints _) (by omega) (by omega) rfl rfl rfl rfl ?_))
          all_goals
            intro v3 w3 ho3 hg3 hor3
            have HB3 := Lib.hid (HB2.out.grown hg3 HB2.out.size (fun b hb' => (ho2'.lt b hb').1))
            have HR := Lib.hid (show w3.ownsRow base 3 1 v3 (insI l s).length (ints (insI l s)) by
              rw [HF.out, ints_append, List.length_append]
              have e : (l.take k ++ [s]).length + (l.drop k).length = k + 1 + (l.length - k) := by simp; omega
              rw [e]; exact own_mono ho3 hb0)
            clear ho3 hg3 hor3 ho2' hsl2
            go_wp2
            go_ret
            exact ⟨_, rfl, HR.out, HB3.out⟩
      · have HF := Lib.hid (HFIN.out k hk hno.out (fun x hx => absurd (List.getElem?_eq_some_iff.1 hx).1 (by omega)))
        go_upto_region 4 with (fail)
        go_wp2_with (at_builtin; go_must (refine appN _ _ (World.ownsRow_nil w w.heap.size 3 1) hsl1 (Nat.le_refl _) under_i64 info_i64 rfl (by decide) (one_ints _) (by omega) (by omega) rfl rfl rfl rfl ?_))
        intro v1 w1 ho1 hg1 _
        have hb1 : Below w.heap.size w w1 := ⟨hg1.os, hg1.tape, hg1.output, hg1.size, fun i hi => hg1.block i hi (by simp [Value.ownBlock])⟩
        have hs1 := hb1.size
        have HB1 := Lib.hid hb1
        have HO1 := Lib.hid (own_below HO.out hb1)
        clear hg1 hb1
        go_wp2_with (at_builtin; go_must (refine app1 _ _ ho1 (Below.refl w.heap.size w1) (Nat.le_refl _) hs1 under_i64 info_i64 rfl (by decide) rfl (oneInt _ _) (by omega) (by omega) rfl rfl rfl rfl ?_))
        intro g2 cap2 w2 ho2 hb2 hg2 _
        have hol2 := own_grown HO1.out hg2 (fun b hb' e => by
          have h1 := (ho1.lt b e).1
          have h2 := (HO.out.lt b hb').2
          omega)
        have hsl2 := Sl.backI (k := k) (Sl.of_own hol2) hk
        rw [Nat.mul_one, ints_drop1] at hsl2
        have ho2' : w2.ownsRow w.heap.size 3 1 (.slice (some ⟨g2, 0, none⟩) (k + 1) cap2) (k + 1) (ints (l.take k ++ [s])) := by have := ho2; rw [ints_append]; simpa [ints] using this
        have HB2 := Lib.hid (HB1.out.trans hb2)
        have hs2 := HB2.out.size
        clear ho1 ho2 hb2 hg2 hol2
        go_wp2_with (at_builtin; go_must (refine appN _ _ ho2' hsl2 (by omega) under_i64 info_i64 rfl (by decide) (one_ints _) (by omega) (by omega) rfl rfl rfl rfl ?_))
        all_goals
          intro v3 w3 ho3 hg3 hor3
          have HB3 := Lib.hid (HB2.out.grown hg3 HB2.out.size (fun b hb' => (ho2'.lt b hb').1))
          have HR := Lib.hid (show w3.ownsRow base 3 1 v3 (insI l s).length (ints (insI l s)) by
            rw [HF.out, ints_append, List.length_append]
            have e : (l.take k ++ [s]).length + (l.drop k).length = k + 1 + (l.length - k) := by simp; omega
            rw [e]; exact own_mono ho3 hb0)
          clear ho3 hg3 hor3 ho2' hsl2
          go_wp2
          go_ret
          exact ⟨_, rfl, HR.out, HB3.out⟩
end Go.Proofs.YtcjekbncllccbaaGreat
