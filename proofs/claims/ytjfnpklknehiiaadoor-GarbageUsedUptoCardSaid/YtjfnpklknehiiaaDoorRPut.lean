/-
  The contract of ref27.put: a name put into an ascending list.
-/
import Derived.Test.YtjfnpklknehiiaaDoorBase
import Derived.Test.YtjfnpklknehiiaaDoorCollect
import Derived.Deep.QuietTactic
import Derived.BigQuiet
namespace Go.Proofs.YtjfnpklknehiiaaDoor
open Go.RowKit
/-- Names as values. -/
def bsN (x : Nm) : ByteArray := ⟨x.toArray⟩
def strN (l : List Nm) : List Value := strV (l.map bsN)
theorem bsN_data (x : Nm) : (bsN x).data.toList = x := by simp [bsN]
theorem bsN_inj {x y : Nm} (h : bsN x = bsN y) : x = y := by rw [← bsN_data x, h, bsN_data]
theorem strN_length (l : List Nm) : (strN l).length = l.length := by simp [strN, strV]
theorem strN_append (a b : List Nm) : strN (a ++ b) = strN a ++ strN b := by simp [strN, strV]
theorem strN_take (l : List Nm) (k : Nat) : (strN l).take k = strN (l.take k) := by simp [strN, strV, List.map_take]
theorem strN_drop (l : List Nm) (k : Nat) : (strN l).drop k = strN (l.drop k) := by simp [strN, strV, List.map_drop]
theorem one_strN (l : List Nm) : ∀ y ∈ strN l, y.oneCell' = true := by
  intro y hy
  simp only [strN, strV, List.mem_map] at hy
  obtain ⟨x, _, rfl⟩ := hy
  rfl
def RetNs (w : World) (base : Nat) (l : List Nm) (e : Ending) (w' : World) : Prop := ∃ v, e = .returned v ∧ w'.ownsRow base 9 1 v l.length (strN l) ∧ Below w.heap.size w w'
theorem less_bs (x y : Nm) : Op.bytesLess (bsN x).toList (bsN y).toList = decide (x < y) := by rw [less_of, bsN_data, bsN_data]
theorem under_str : Tryd.prog.underlying 29 = some (.slice 9) := Tryd.underlying29
theorem Sl.front1 {w : World} {sz n c k : Nat} {A : Option Addr} {xs : List Value} (h : Sl w sz (.slice A n c) n xs) (hk : k ≤ n) : Sl w sz (.slice A k c) k (xs.take (k * sz)) := by
  obtain ⟨A', c', e, q1, q2, q3, q4⟩ := h
  injection e with e1 _ e3
  subst e1 e3
  refine ⟨_, _, rfl, by omega, q2, by rw [List.length_take, q3]; exact Nat.min_eq_left (Nat.mul_le_mul_right _ hk), fun hp => ?_⟩
  obtain ⟨ad, e, hb, hc⟩ := q4 (by omega)
  refine ⟨ad, e, hb, fun j u hu => hc j u ?_⟩
  rw [List.getElem?_take] at hu
  split at hu
  · exact hu
  · cases hu
theorem Sl.back1 {w : World} {sz n c k g : Nat} {xs : List Value} (h : Sl w sz (.slice (some ⟨g, 0, none⟩) n c) n xs) (hk : k ≤ n) : Sl w sz (.slice (if c = k then some ⟨g, 0, none⟩ else some ⟨g, k * sz, none⟩) (n - k) (c - k)) (n - k) (xs.drop (k * sz)) := by
  obtain ⟨A', c', e, q1, q2, q3, q4⟩ := h
  injection e with e1 _ e3
  subst e1 e3
  refine ⟨_, _, rfl, by omega, by unfold maxLen at q2 ⊢; omega, by rw [List.length_drop, q3, Nat.sub_mul], fun hp => ?_⟩
  rw [if_neg (by omega)]
  obtain ⟨ad, e, hb, hc⟩ := q4 (by omega)
  injection e with e
  subst e
  refine ⟨_, rfl, hb, fun j u hu => ?_⟩
  rw [List.getElem?_drop] at hu
  have := hc _ _ hu
  rw [Addr.add_lit] at this ⊢
  rw [Nat.zero_add] at this
  exact this
set_option maxRecDepth 100000 in
set_option maxHeartbeats 4000000 in
theorem rput_any (v : Value) (base : Nat) (l : List Nm) (s : Nm) (w : World) (hown : w.ownsRow base 9 1 v l.length (strN l)) (hl : l.length ≤ 100000000) (hb0 : base ≤ w.heap.size) :
    Calls Tryd.prog 31 #[v, .string (bsN s)] w (RetNs w base (insN l s)) := by
  have HM := Lib.hid (member27_any v (l.map bsN) (bsN s) w (by have := Sl.of_own hown; rw [List.length_map]; exact this))
  have HO := Lib.hid hown
  obtain ⟨A, c, rfl, hc1, hc2⟩ := (Sl.of_own hown).form
  unfold maxLen at hc2
  have hB : (bsN s).toList = s := by rw [Go.ByteArray.toList_eq, bsN_data]
  by_cases hs : s = []
  · have HP := Lib.hid (show insN l s = l from if_pos (.inl hs))
    subst hs
    go_enter Tryd.func31, Tryd.ntmps31
    go_wp2
    go_ret
    exact ⟨_, rfl, by rw [HP.out]; exact HO.out, Below.refl _ _⟩
  have hemp : s.isEmpty = false := by cases s with
    | nil => exact absurd rfl hs
    | cons a r => rfl
  by_cases hm : s ∈ l
  · have HP := Lib.hid (show insN l s = l from if_pos (.inr hm))
    have hc : Lib.containsS (l.map bsN) (bsN s) = true := (Lib.containsS_iff _ _).2 (List.mem_map_of_mem hm)
    rw [hc] at HM
    clear hc
    go_enter Tryd.func31, Tryd.ntmps31
    go_wp2_with fail
    refine HM.out.mono ?_
    rintro _ _ ⟨rfl, rfl⟩
    go_wp2
    go_ret
    exact ⟨_, rfl, by rw [HP.out]; exact HO.out, Below.refl _ _⟩
  have hcf : Lib.containsS (l.map bsN) (bsN s) = false := by
    rw [← Bool.not_eq_true]; intro h
    obtain ⟨x, hx, e⟩ := List.mem_map.1 ((Lib.containsS_iff _ _).1 h)
    exact hm (bsN_inj e ▸ hx)
  rw [hcf] at HM
  have HFIN := Lib.hid (fun (k : Nat) (hk : k ≤ l.length) => insN_at (k := k) hs hm hk)
  have HLL := Lib.hid (show (strN l).length = l.length from strN_length l)
  clear hcf hm
  rcases hown.2 with ⟨e0, h0⟩ | ⟨g, cap, cur, e0, _⟩
  · injection e0 with e1 e2 e3
    subst e1 e3
    have hl0 := List.eq_nil_of_length_eq_zero e2
    subst hl0
    have HF := Lib.hid (show insN [] s = [s] by have := HFIN.out 0 (by simp) (by simp) (by simp); simpa using this)
    go_enter Tryd.func31, Tryd.ntmps31
    go_wp2_with fail
    refine HM.out.mono ?_
    rintro _ _ ⟨rfl, rfl⟩
    clear HM
    go_wp2
    go_loop [5] (fun i => i = .int .i64 0) (fun _ => 0)
    case atStart => rfl
    case round =>
      subst hrel
      go_upto_region 6 with (fail)
      go_wp2_with (at_builtin; go_must (refine appN _ _ (World.ownsRow_nil w w.heap.size 9 1) (Sl.nil w 1) (Nat.le_refl _) under_str info_str rfl (by decide) (by simp) (by omega) (by omega) rfl rfl rfl rfl ?_))
      intro v1 w1 ho1 hg1 _
      have hb1 : Below w.heap.size w w1 := ⟨hg1.os, hg1.tape, hg1.output, hg1.size, fun i hi => hg1.block i hi (by simp [Value.ownBlock])⟩
      have hs1 := hb1.size
      have HB1 := Lib.hid hb1
      clear hg1 hb1
      go_wp2_with (at_builtin; go_must (refine app1 _ _ ho1 (Below.refl w.heap.size w1) (Nat.le_refl _) hs1 under_str info_str rfl (by decide) rfl (oneStr _) (by omega) (by omega) rfl rfl rfl rfl ?_))
      intro g2 cap2 w2 ho2 hb2 hg2 _
      have ho2' : w2.ownsRow w.heap.size 9 1 (.slice (some ⟨g2, 0, none⟩) 1 cap2) 1 (strN [s]) := by simpa [strN, strV] using ho2
      have HB2 := Lib.hid (HB1.out.trans hb2)
      have hs2 := HB2.out.size
      clear ho1 ho2 hb2 hg2
      go_wp2_with (at_builtin; go_must (refine appN _ _ ho2' (Sl.nil w2 1) (by omega) under_str info_str rfl (by decide) (by simp) (by omega) (by omega) rfl rfl rfl rfl ?_))
      intro v3 w3 ho3 hg3 hor3
      have HB3 := Lib.hid (HB2.out.grown hg3 HB2.out.size (fun b hb' => (ho2'.lt b hb').1))
      have HR := Lib.hid (show w3.ownsRow base 9 1 v3 (insN [] s).length (strN (insN [] s)) by rw [HF.out]; simpa using own_mono ho3 hb0)
      clear ho3 hg3 hor3 ho2'
      go_wp2
      go_ret
      exact ⟨_, rfl, HR.out, HB3.out⟩
  · injection e0 with e1 _ e3
    subst e1 e3
    have hgs := (hown.lt g rfl).2
    go_enter Tryd.func31, Tryd.ntmps31
    go_wp2_with fail
    refine HM.out.mono ?_
    rintro _ _ ⟨rfl, rfl⟩
    clear HM
    go_wp2
    go_loop [5] (fun i => ∃ k : Nat, k ≤ l.length ∧ i = .int .i64 k ∧ Hid (∀ (j : Nat) (d : Nm), l[j]? = some d → j < k → d < s)) (fun i => l.length - (intOf i).toNat)
    case atStart => exact ⟨0, by omega, rfl, Lib.hid fun j d _ hj => absurd hj (Nat.not_lt_zero _)⟩
    case round =>
      obtain ⟨k, hk, rfl, hno⟩ := hrel
      have hkc : k ≤ c := by omega
      have hsl1 := Sl.front1 (k := k) (Sl.of_own HO.out) hk
      rw [Nat.mul_one, strN_take] at hsl1
      by_cases hlt : k < l.length
      · obtain ⟨ad, y, hA, hy, hcy⟩ := (Sl.of_own (show w.ownsRow base 9 1 (.slice (some ⟨g, 0, none⟩) l.length c) l.length (strV (l.map bsN)) from HO.out)).str_at hlt
        cases hA
        rw [Addr.add_lit, Nat.zero_add] at hcy
        rw [List.getElem?_map] at hy
        obtain ⟨d, hd, rfl⟩ := Option.map_eq_some_iff.1 hy
        have HD := Lib.hid hd
        clear hy hd
        by_cases hq : d < s
        · have q1 : Op.bytesLess (bsN d).toList (bsN s).toList = true := by rw [less_bs]; exact decide_eq_true hq
          rw [hB] at q1
          have HN := Lib.hid (show ∀ (j : Nat) (x : Nm), l[j]? = some x → j < k + 1 → x < s from fun j x hx hj => by
            by_cases ej : j = k
            · subst ej; rw [HD.out] at hx; injection hx with hx; rw [← hx]; exact hq
            · exact hno.out j x hx (by omega))
          clear hq hsl1
          go_wp2
          go_round
          case rel => exact ⟨k + 1, by omega, by go_num, HN⟩
          case measure => simp [intOf]; omega
        · have q1 : Op.bytesLess (bsN d).toList (bsN s).toList = false := by rw [less_bs]; exact decide_eq_false hq
          rw [hB] at q1
          have HF := Lib.hid (HFIN.out k hk hno.out (fun x hx => by rw [HD.out] at hx; injection hx with hx; rw [← hx]; exact hq))
          clear hq
          go_upto_region 6 with (fail)
          go_wp2_with (at_builtin; go_must (refine appN _ _ (World.ownsRow_nil w w.heap.size 9 1) hsl1 (Nat.le_refl _) under_str info_str rfl (by decide) (one_strN _) (by omega) (by omega) rfl rfl rfl rfl ?_))
          intro v1 w1 ho1 hg1 _
          have hb1 : Below w.heap.size w w1 := ⟨hg1.os, hg1.tape, hg1.output, hg1.size, fun i hi => hg1.block i hi (by simp [Value.ownBlock])⟩
          have hs1 := hb1.size
          have HB1 := Lib.hid hb1
          have HO1 := Lib.hid (own_below HO.out hb1)
          clear hg1 hb1
          go_wp2_with (at_builtin; go_must (refine app1 _ _ ho1 (Below.refl w.heap.size w1) (Nat.le_refl _) hs1 under_str info_str rfl (by decide) rfl (oneStr _) (by omega) (by omega) rfl rfl rfl rfl ?_))
          intro g2 cap2 w2 ho2 hb2 hg2 _
          have hol2 := own_grown HO1.out hg2 (fun b hb' e => by
            have h1 := (ho1.lt b e).1
            have h2 := (HO.out.lt b hb').2
            omega)
          have hsl2 := Sl.back1 (k := k) (Sl.of_own hol2) hk
          rw [Nat.mul_one, strN_drop] at hsl2
          rw [if_neg (show ¬c = k by omega)] at hsl2
          have ho2' : w2.ownsRow w.heap.size 9 1 (.slice (some ⟨g2, 0, none⟩) (k + 1) cap2) (k + 1) (strN (l.take k ++ [s])) := by have := ho2; rw [strN_append]; simpa [strN, strV] using this
          have HB2 := Lib.hid (HB1.out.trans hb2)
          have hs2 := HB2.out.size
          clear ho1 ho2 hb2 hg2 hol2
          go_wp2_with (at_builtin; go_must (refine appN _ _ ho2' hsl2 (by omega) under_str info_str rfl (by decide) (one_strN _) (by omega) (by omega) rfl rfl rfl rfl ?_))
          all_goals
            intro v3 w3 ho3 hg3 hor3
            have HB3 := Lib.hid (HB2.out.grown hg3 HB2.out.size (fun b hb' => (ho2'.lt b hb').1))
            have HR := Lib.hid (show w3.ownsRow base 9 1 v3 (insN l s).length (strN (insN l s)) by
              rw [HF.out, strN_append, List.length_append]
              have e : (l.take k ++ [s]).length + (l.drop k).length = k + 1 + (l.length - k) := by simp; omega
              rw [e]; exact own_mono ho3 hb0)
            clear ho3 hg3 hor3 ho2' hsl2
            go_wp2
            go_ret
            exact ⟨_, rfl, HR.out, HB3.out⟩
      · have HF := Lib.hid (HFIN.out k hk hno.out (fun x hx => absurd (List.getElem?_eq_some_iff.1 hx).1 (by omega)))
        go_upto_region 6 with (fail)
        go_wp2_with (at_builtin; go_must (refine appN _ _ (World.ownsRow_nil w w.heap.size 9 1) hsl1 (Nat.le_refl _) under_str info_str rfl (by decide) (one_strN _) (by omega) (by omega) rfl rfl rfl rfl ?_))
        intro v1 w1 ho1 hg1 _
        have hb1 : Below w.heap.size w w1 := ⟨hg1.os, hg1.tape, hg1.output, hg1.size, fun i hi => hg1.block i hi (by simp [Value.ownBlock])⟩
        have hs1 := hb1.size
        have HB1 := Lib.hid hb1
        have HO1 := Lib.hid (own_below HO.out hb1)
        clear hg1 hb1
        go_wp2_with (at_builtin; go_must (refine app1 _ _ ho1 (Below.refl w.heap.size w1) (Nat.le_refl _) hs1 under_str info_str rfl (by decide) rfl (oneStr _) (by omega) (by omega) rfl rfl rfl rfl ?_))
        intro g2 cap2 w2 ho2 hb2 hg2 _
        have hol2 := own_grown HO1.out hg2 (fun b hb' e => by
          have h1 := (ho1.lt b e).1
          have h2 := (HO.out.lt b hb').2
          omega)
        have hsl2 := Sl.back1 (k := k) (Sl.of_own hol2) hk
        rw [Nat.mul_one, strN_drop] at hsl2
        have ho2' : w2.ownsRow w.heap.size 9 1 (.slice (some ⟨g2, 0, none⟩) (k + 1) cap2) (k + 1) (strN (l.take k ++ [s])) := by have := ho2; rw [strN_append]; simpa [strN, strV] using this
        have HB2 := Lib.hid (HB1.out.trans hb2)
        have hs2 := HB2.out.size
        clear ho1 ho2 hb2 hg2 hol2
        go_wp2_with (at_builtin; go_must (refine appN _ _ ho2' hsl2 (by omega) under_str info_str rfl (by decide) (one_strN _) (by omega) (by omega) rfl rfl rfl rfl ?_))
        all_goals
          intro v3 w3 ho3 hg3 hor3
          have HB3 := Lib.hid (HB2.out.grown hg3 HB2.out.size (fun b hb' => (ho2'.lt b hb').1))
          have HR := Lib.hid (show w3.ownsRow base 9 1 v3 (insN l s).length (strN (insN l s)) by
            rw [HF.out, strN_append, List.length_append]
            have e : (l.take k ++ [s]).length + (l.drop k).length = k + 1 + (l.length - k) := by simp; omega
            rw [e]; exact own_mono ho3 hb0)
          clear ho3 hg3 hor3 ho2' hsl2
          go_wp2
          go_ret
          exact ⟨_, rfl, HR.out, HB3.out⟩
end Go.Proofs.YtjfnpklknehiiaaDoor
