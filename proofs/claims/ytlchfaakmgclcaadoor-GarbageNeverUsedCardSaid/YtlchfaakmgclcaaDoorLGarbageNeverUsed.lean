/-
  The walk of the law GarbageNeverUsed.
-/
import Derived.Test.YtlchfaakmgclcaaDoorGarbAwake
import Derived.Test.YtlchfaakmgclcaaDoorGarbSome
import Derived.Test.YtlchfaakmgclcaaDoorPick
namespace Go.Proofs.YtlchfaakmgclcaaDoor
open Go.RowKit Go.Sort
/-- Not used. -/
def offP (y : List ByteArray) (s : ByteArray) : Bool := !Lib.containsS y s
theorem coll_eq (y : List ByteArray) (K : Nat) : ∀ (X acc : List ByteArray), acc.length ≤ K → X.foldl (collStep y K) acc = acc ++ (X.filter (offP y)).take (K - acc.length)
  | [], acc, _ => by simp
  | s :: X, acc, h => by
    simp only [List.foldl_cons]
    unfold collStep
    by_cases hl : (acc.length : Int) < K
    · cases hc : Lib.containsS y s with
      | true =>
        rw [decide_eq_true hl]
        simp only [Bool.not_true, Bool.and_false, Bool.false_eq_true, if_false]
        have := coll_eq y K X acc h
        unfold collStep at this
        rw [this]
        simp [offP, hc]
      | false =>
        rw [decide_eq_true hl]
        simp only [Bool.not_false, Bool.and_true, if_true]
        have := coll_eq y K X (acc ++ [s]) (by simp; omega)
        unfold collStep at this
        rw [this]
        have e : K - acc.length = (K - (acc.length + 1)) + 1 := by omega
        simp only [List.length_append, List.length_singleton, List.filter_cons, offP, hc, Bool.not_false, if_true]
        rw [e, List.take_succ_cons, List.append_assoc]
        rfl
    · rw [decide_eq_false hl]
      simp only [Bool.false_and, Bool.false_eq_true, if_false]
      have := coll_eq y K X acc h
      unfold collStep at this
      rw [this, show K - acc.length = 0 by omega]
      simp
theorem coll_take (X y : List ByteArray) (K : Nat) : coll X y K = (X.filter (offP y)).take K := by
  unfold coll; rw [coll_eq y K X [] (by simp)]; simp
/-- What is still to be matched. -/
def Rem (c X y : List ByteArray) (K p J : Nat) : Prop := J ≤ c.length ∧ c.drop J = ((X.drop p).filter (offP y)).take (K - J)
theorem rem_start (X y : List ByteArray) (K : Nat) : Rem (coll X y K) X y K 0 0 := ⟨by omega, by rw [coll_take]; simp⟩
theorem drop_cons' {α : Type} {l : List α} {k : Nat} {x : α} (h : l[k]? = some x) : l.drop k = x :: l.drop (k + 1) := by
  obtain ⟨hk, hx⟩ := List.getElem?_eq_some_iff.1 h
  rw [List.drop_eq_getElem_cons hk, hx]
theorem rem_step {c X y : List ByteArray} {K p J : Nat} {s : ByteArray} (h : Rem c X y K p J) (hx : X[p]? = some s) :
    (J < c.length ∧ c[J]? = some s ∧ Lib.containsS y s = false ∧ Rem c X y K (p + 1) (J + 1)) ∨ ((J = c.length ∨ ∃ d, J < c.length ∧ c[J]? = some d ∧ s ≠ d) ∧ Rem c X y K (p + 1) J) := by
  obtain ⟨hJ, h⟩ := h
  rw [drop_cons' hx, List.filter_cons] at h
  by_cases hlt : J < c.length
  · have hc : c[J]? = some c[J] := List.getElem?_eq_getElem hlt
    rw [drop_cons' hc] at h
    cases hp : offP y s with
    | true =>
      rw [hp, if_pos rfl] at h
      have hK : 0 < K - J := by
        rcases Nat.eq_zero_or_pos (K - J) with e | e
        · rw [e] at h; simp at h; omega
        · exact e
      rw [show K - J = (K - (J + 1)) + 1 by omega, List.take_succ_cons] at h
      injection h with h1 h2
      refine .inl ⟨hlt, by rw [hc, h1], by simpa [offP] using hp, by omega, h2⟩
    | false =>
      rw [hp, if_neg (by simp)] at h
      refine .inr ⟨.inr ⟨c[J], hlt, hc, ?_⟩, hJ, by rw [drop_cons' hc]; exact h⟩
      intro e
      have hm : c[J] ∈ ((X.drop (p + 1)).filter (offP y)).take (K - J) := by rw [← h]; exact List.mem_cons_self
      have := (List.mem_filter.1 (List.mem_of_mem_take hm)).2
      rw [← e, hp] at this; cases this
  · have hJ' : J = c.length := by omega
    refine .inr ⟨.inl hJ', hJ, ?_⟩
    have e0 : c.drop J = [] := List.drop_of_length_le (by omega)
    rw [e0] at h ⊢
    have hl := congrArg List.length h
    rw [List.length_take] at hl
    simp only [List.length_nil] at hl
    rcases Nat.eq_zero_or_pos (K - J) with e | e
    · rw [e]; simp
    · symm
      apply List.eq_nil_of_length_eq_zero
      rw [List.length_take]
      cases hp : offP y s with
      | true => rw [hp, if_pos rfl] at hl; simp at hl; omega
      | false => rw [hp, if_neg (by simp)] at hl; omega
theorem rem_end {c X y : List ByteArray} {K p J : Nat} (h : Rem c X y K p J) (hp : X.length ≤ p) : J = c.length := by
  obtain ⟨hJ, h⟩ := h
  rw [List.drop_of_length_le hp] at h
  have := congrArg List.length h
  simp at this; omega
theorem coll_le (X y : List ByteArray) (K : Nat) : (coll X y K).length ≤ K ∧ (coll X y K).length ≤ X.length := by
  rw [coll_take, List.length_take]
  have := List.length_filter_le (offP y) X
  omega
theorem coll_nil {X y : List ByteArray} {K : Nat} (hK : 1 ≤ K) (h : (coll X y K).length = 0) {j : Nat} {s : ByteArray} (hs : X[j]? = some s) : Lib.containsS y s = true := by
  rw [coll_take, List.length_take] at h
  have h0 : (X.filter (offP y)).length = 0 := by omega
  have h1 := List.eq_nil_of_length_eq_zero h0
  cases hc : Lib.containsS y s with
  | true => rfl
  | false =>
    have : s ∈ X.filter (offP y) := List.mem_filter.2 ⟨List.mem_of_getElem? hs, by simp [offP, hc]⟩
    rw [h1] at this; cases this
set_option maxRecDepth 100000 in
set_option maxHeartbeats 4000000 in
theorem garbageNeverUsed_walk (n : Int) (l m : Value) (zl zm : List Int) (w : World) (hE : Env w)
    (hl : Sl w 1 l zl.length (ints zl)) (hll : zl.length ≤ 9223372036854775807) (hlr : ∀ x ∈ zl, -9223372036854775808 ≤ x ∧ x ≤ 9223372036854775807)
    (hm : Sl w 1 m zm.length (ints zm)) (hml : zm.length ≤ 9223372036854775807) (hmr : ∀ x ∈ zm, -9223372036854775808 ≤ x ∧ x ≤ 9223372036854775807) :
    Calls Tryd.prog 13 #[l, m, .int .i64 n] w fun e w' => e = .returned (.bool true) ∧ Below w.heap.size w w' := by
  obtain ⟨A3, c3, rfl, _, _⟩ := hl.form
  obtain ⟨A4, c4, rfl, _, _⟩ := hm.form
  have C1 := Lib.hid (some_any _ zl w hl hll hlr)
  have C2 := Lib.hid (fun X (h : Below w.heap.size w X) => some_any _ zm X (hm.below h) hml hmr)
  have HE0 := Lib.hid hE
  have p1 := pick_lo n 4 (by omega)
  have p2 := pick_hi n 4 (by omega)
  have P1 := Lib.hid (fun X => pick_any n 4 X (by omega) (by omega))
  obtain ⟨x, hx⟩ : ∃ x : Nat, pick n 4 = x := ⟨(pick n 4).toNat, by omega⟩
  rw [hx] at P1 p1 p2
  clear hlr hmr hl hm hE hx hll hml
  go_enter Tryd.func13, Tryd.ntmps13
  go_wp2_with fail
  refine C1.out.mono ?_
  rintro _ w1 ⟨v1, L, rfl, hL, hb1, o1⟩
  obtain ⟨A5, c5, rfl, _, _⟩ := (Sl.of_own o1).form
  have HB1 := Lib.hid hb1
  have S1 := Lib.hid (Sl.of_own o1)
  clear hb1 o1
  go_wp2_with fail
  refine (C2.out _ HB1.out).mono ?_
  rintro _ w2 ⟨v2, M, rfl, hM, hb2, o2⟩
  obtain ⟨A6, c6, rfl, _, _⟩ := (Sl.of_own o2).form
  have HB2 := Lib.hid (bst HB1.out hb2)
  have S2 := S1.out.below hb2
  have T2 := Sl.of_own o2
  clear hb2 o2 S1 C1 C2
  go_wp2_with fail
  refine (P1.out _).mono ?_
  rintro _ _ ⟨rfl, rfl⟩
  obtain ⟨K, hK⟩ : ∃ K : Nat, 1 + (x : Int) = K := ⟨1 + x, by omega⟩
  have hK1 : 1 ≤ K := by omega
  have hK4 : K ≤ 4 := by omega
  go_wp2_with fail
  clear hK p1 p2
  go_loopw [7, 10] (fun v i wr => ∃ (k : Nat) (X : List ByteArray), X.length + k ≤ L.length ∧ i = .int .i64 k ∧ Sl wr 1 v X.length (strV X) ∧ Sl wr 1 (.slice A6 M.length c6) M.length (strV M) ∧ Below w.heap.size w wr) (fun _ i _ => L.length + 1 - (intOf i).toNat)
  case atStart => exact ⟨0, L, by omega, rfl, S2, T2, HB2.out⟩
  case round =>
    obtain ⟨k, X, hk, rfl, hX, hM, hbel⟩ := hrel
    obtain ⟨A7, c7, rfl, _, _⟩ := hX.form
    have CC := Lib.hid (collect_any _ _ X M K wr hX hM (by omega))
    have hcl := coll_le X M K
    have HR := Lib.hid (rem_start X M K)
    have HN := Lib.hid (fun (h : (coll X M K).length = 0) (j : Nat) (s : ByteArray) (hs : X[j]? = some s) => coll_nil hK1 h hs)
    obtain ⟨C, hC⟩ : ∃ C, coll X M K = C := ⟨_, rfl⟩
    rw [hC] at CC hcl HR HN
    clear hC
    obtain ⟨hc1, hc2⟩ := hcl
    go_wp2_with fail
    refine CC.out.mono ?_
    rintro _ w3 ⟨v3, rfl, hb3, o3⟩
    have hC3 := Sl.of_own o3
    obtain ⟨A8, c8, rfl, _, _⟩ := hC3.form
    have hX3 := hX.below hb3
    have hM3 := hM.below hb3
    have HB3 := Lib.hid (hbel.trans (hb3.mono hbel.size))
    clear hX hM hbel hb3 o3 CC
    by_cases hz : C.length = 0
    · obtain rfl := List.eq_nil_of_length_eq_zero hz
      have HN2 := Lib.hid (HN.out rfl)
      clear hz HR HN hc1 hc2
      go_wp2_with fail
      go_loop [42] (fun i => ∃ j : Nat, j ≤ X.length ∧ i = .int .i64 j) (fun i => X.length - (intOf i).toNat)
      case atStart => exact ⟨0, by omega, rfl⟩
      case round =>
        obtain ⟨j, hj, rfl⟩ := hrel
        by_cases hlt : j < X.length
        · obtain ⟨ad, s, rfl, hs, hcs⟩ := hX3.str_at hlt
          have CM := Lib.hid (member32_any _ M s w3 hM3)
          rw [HN2.out j s hs] at CM
          clear hs
          go_wp2_with fail
          refine CM.out.mono ?_
          rintro _ _ ⟨rfl, rfl⟩
          go_wp2
          go_round
          case rel => exact ⟨j + 1, by omega, by go_num⟩
          case measure => simp [intOf]; omega
        · go_wp2_with fail
          refine (awake32_any _ (HE0.out.below HB3.out)).mono ?_
          rintro _ w4 ⟨rfl, hb4⟩
          go_wp2
          go_ret
          exact ⟨rfl, bst HB3.out hb4⟩
    · have hCp : 0 < C.length := by omega
      have t1 : ((C.length : Int) == 0) = false := by rw [beq_eq_false_iff_ne]; omega
      have t2 : decide (K < C.length) = false := by simp; omega
      have t3 : decide (X.length < C.length) = false := by simp; omega
      clear HN hz
      go_wp2_with fail
      go_loopw [15, 16, 65] (fun o j i wr => ∃ (p J : Nat) (LL : List ByteArray), p ≤ X.length ∧ i = .int .i64 p ∧ j = .int .i64 J ∧ LL.length + J = p ∧ wr.ownsRow w3.heap.size 9 1 o LL.length (strV LL) ∧ Below w3.heap.size w3 wr ∧ Hid (Rem C X M K p J)) (fun _ _ i _ => X.length - (intOf i).toNat)
      case atStart => exact ⟨0, 0, [], by omega, rfl, rfl, rfl, World.ownsRow_nil _ _ _ _, Below.refl _ _, HR⟩
      case round =>
        obtain ⟨p, J, LL, hp, rfl, rfl, hLL, hown, hbel, hrem⟩ := hrel
        by_cases hlt : p < X.length
        · obtain ⟨ad, s, rfl, hs, hcs⟩ := (hX3.below hbel).str_at hlt
          rcases rem_step hrem.out hs with ⟨hJ, hcJ, hun, hr'⟩ | ⟨hno, hr'⟩
          · obtain ⟨bd, s', rfl, hs', hcs'⟩ := (hC3.below hbel).str_at hJ
            obtain rfl : s = s' := Option.some.inj (hcJ.symm.trans hs')
            have hq := strq_eq (rfl : s = s)
            have CM := Lib.hid (member32_any _ M s _ (hM3.below hbel))
            rw [hun] at CM
            have HR' := Lib.hid hr'
            clear hs hcJ hun hr' hs' hrem
            go_wp2_with fail
            refine CM.out.mono ?_
            rintro _ _ ⟨rfl, rfl⟩
            go_wp2
            go_roundw
            case rel => exact ⟨p + 1, J + 1, LL, by omega, by go_num, by go_num, by omega, hown, hbel, HR'⟩
            case measure => simp [intOf]; omega
          · have HR' := Lib.hid hr'
            clear hr' hrem
            rcases hno with hJ | ⟨d, hJ, hd, hne⟩
            · have hJd : decide (J < C.length) = false := by simp; omega
              clear hs hJ
              go_wp2_with (at_builtin; go_must (refine app1 _ _ hown hbel (Nat.le_refl _) hbel.size Tryd.underlying33 info_str rfl (by decide) rfl (oneStr _) (by omega) (by omega) rfl rfl rfl rfl ?_))
              intro g' cap' w4 hown4 hbel4 hg4 _
              clear hown hbel hg4
              go_wp2
              go_roundw
              case rel => exact ⟨p + 1, J, LL ++ [s], by omega, by go_num, rfl, by simp; omega, own_strV hown4, hbel4, HR'⟩
              case measure => simp [intOf]; omega
            · obtain ⟨bd, s', rfl, hs', hcs'⟩ := (hC3.below hbel).str_at hJ
              obtain rfl : d = s' := Option.some.inj (hd.symm.trans hs')
              have hq := strq_ne hne
              clear hs hd hs' hne
              go_wp2_with (at_builtin; go_must (refine app1 _ _ hown hbel (Nat.le_refl _) hbel.size Tryd.underlying33 info_str rfl (by decide) rfl (oneStr _) (by omega) (by omega) rfl rfl rfl rfl ?_))
              intro g' cap' w4 hown4 hbel4 hg4 _
              clear hown hbel hg4
              go_wp2
              go_roundw
              case rel => exact ⟨p + 1, J, LL ++ [s], by omega, by go_num, rfl, by simp; omega, own_strV hown4, hbel4, HR'⟩
              case measure => simp [intOf]; omega
        · have hJ := rem_end hrem.out (by omega)
          obtain ⟨A9, c9, rfl, _, _⟩ := (Sl.of_own hown).form
          have t4 : ((J : Int) != (C.length : Int)) = false := by simp; omega
          have HW := Lib.hid (HB3.out.trans (hbel.mono HB3.out.size))
          have HX := Lib.hid (Sl.of_own hown)
          have HM := Lib.hid (hM3.below hbel)
          have hlen : LL.length + (k + 1) ≤ L.length := by omega
          clear hrem hown hbel hJ HR hX3 hM3 hC3
          go_wp2
          go_roundw
          case rel => exact ⟨k + 1, LL, by omega, by go_num, HX.out, HM.out, HW.out⟩
          case measure => simp [intOf]; omega
end Go.Proofs.YtlchfaakmgclcaaDoor
