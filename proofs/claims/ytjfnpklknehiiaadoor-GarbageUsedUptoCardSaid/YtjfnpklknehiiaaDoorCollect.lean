/-
  The contracts of slices.Contains at strings, of the two functions member, and of garbage.Collect and the reference's.
-/
import Derived.Test.YtjfnpklknehiiaaDoorShelf
import Derived.Test.YtjfnpklknehiiaaDoorBase
import Derived.Laws.AppendOwn
namespace Go.Proofs.YtjfnpklknehiiaaDoor
open Go.RowKit
def RetB0 (w : World) (b : Bool) (e : Ending) (w' : World) : Prop := e = .returned (.bool b) ∧ w = w'
theorem RetB0.mk_ {w : World} {b b' : Bool} (h : b = b') : RetB0 w b (.returned (.bool b')) w := by subst h; exact ⟨rfl, rfl⟩
theorem info_str : (Tryd.prog.info? 9).map (fun i => (i.zero, i.size, i.bytes)) = some (some (.string ByteArray.empty), 1, 16) := by kernel_rfl
theorem contS_any (u : Value) (us : List ByteArray) (x : ByteArray) (w : World) (h : Sl w 1 u us.length (strV us)) : Calls Tryd.prog 37 #[u, .string x] w (RetB0 w (Lib.containsS us x)) := by
  obtain ⟨A, c, rfl, h1, h2, h3, h4⟩ := h
  by_cases h0 : us.length = 0
  · obtain rfl := List.eq_nil_of_length_eq_zero h0
    exact (Tryd.slices_Contains_string_empty A c x w).mono fun _ _ ⟨a, b⟩ => ⟨a, b.symm⟩
  · obtain ⟨ad, rfl, hb, hc⟩ := h4 (by omega)
    obtain ⟨u0, hu0⟩ : ∃ u0, (strV us)[0]? = some u0 := ⟨_, List.getElem?_eq_getElem (by rw [strV_length]; omega)⟩
    have c0 := hc 0 u0 hu0
    have hspot : ad.spot = none := by
      have := World.cell?_spot c0
      simpa [Addr.add] using this
    obtain ⟨b, off, spot⟩ := ad
    simp only at hspot
    subst hspot
    unfold maxLen at h2
    have := Tryd.slices_Contains_string b off us.length c us x w (Nat.le_refl _) (by omega) (fun j hj => by
      have e : (strV us)[j]? = some (.string (us.getD j ByteArray.empty)) := by
        simp only [strV, List.getElem?_map, List.getElem?_eq_getElem hj, Option.map_some, List.getD, Option.getD_some]
      have := hc j _ e
      rwa [Go.WideShapes.add_plain] at this)
    rw [List.take_length] at this
    exact this.mono fun _ _ ⟨a, b⟩ => ⟨a, b.symm⟩
theorem cont_hit {us : List ByteArray} {k : Nat} {x : ByteArray} (h : us[k]? = some x) : Lib.containsS us x = true := (Lib.containsS_iff us x).2 (List.mem_of_getElem? h)
theorem cont_miss {us : List ByteArray} {x : ByteArray} (h : ∀ j y, us[j]? = some y → j < us.length → y ≠ x) : Lib.containsS us x = false := by
  cases hc : Lib.containsS us x with
  | false => rfl
  | true =>
    obtain ⟨j, hj⟩ := List.mem_iff_getElem?.1 ((Lib.containsS_iff us x).1 hc)
    exact absurd rfl (h j x hj (List.getElem?_eq_some_iff.1 hj).1)
set_option maxHeartbeats 400000 in
theorem member27_any (u : Value) (us : List ByteArray) (x : ByteArray) (w : World) (h : Sl w 1 u us.length (strV us)) : Calls Tryd.prog 41 #[u, .string x] w (RetB0 w (Lib.containsS us x)) := by
  obtain ⟨A, c, rfl, hc1, hc2⟩ := h.form
  unfold maxLen at hc2
  go_enter Tryd.func41, Tryd.ntmps41
  go_wp2
  go_loop [9] (fun i => ∃ (k : Nat), k ≤ us.length ∧ i = .int .i64 k ∧ Hid (∀ j y, us[j]? = some y → j < k → y ≠ x)) (fun i => us.length - (intOf i).toNat)
  case atStart => exact ⟨0, by omega, rfl, Lib.hid fun j y _ hj => absurd hj (Nat.not_lt_zero _)⟩
  case round =>
    obtain ⟨k, hk, rfl, hall⟩ := hrel
    by_cases hlt : k < us.length
    · obtain ⟨ad, y, rfl, hy, hcy⟩ := h.str_at hlt
      have Hy := Lib.hid hy
      clear hy
      by_cases he : y = x
      · have hq := strq_eq he
        have HF := Lib.hid (show Lib.containsS us x = true from cont_hit (he ▸ Hy.out))
        clear he
        go_wp2
        go_ret
        exact RetB0.mk_ HF.out
      · have hq := strq_ne he
        have HN := Lib.hid (show ∀ j z, us[j]? = some z → j < k + 1 → z ≠ x from fun j z hz hj => by
          by_cases e : j = k
          · subst e; rw [Hy.out] at hz; injection hz with hz; rw [← hz]; exact he
          · exact hall.out j z hz (by omega))
        clear he
        go_wp2
        go_round
        case rel => exact ⟨k + 1, by omega, by go_num, HN⟩
        case measure => simp [intOf]; omega
    · have HF := Lib.hid (show Lib.containsS us x = false from cont_miss (fun j y hy hj => hall.out j y hy (by omega)))
      go_wp2
      go_ret
      exact RetB0.mk_ HF.out
set_option maxHeartbeats 400000 in
theorem member32_any (u : Value) (us : List ByteArray) (x : ByteArray) (w : World) (h : Sl w 1 u us.length (strV us)) : Calls Tryd.prog 12 #[u, .string x] w (RetB0 w (Lib.containsS us x)) := by
  obtain ⟨A, c, rfl, hc1, hc2⟩ := h.form
  unfold maxLen at hc2
  go_enter Tryd.func12, Tryd.ntmps12
  go_wp2
  go_loop [9] (fun i => ∃ (k : Nat), k ≤ us.length ∧ i = .int .i64 k ∧ Hid (∀ j y, us[j]? = some y → j < k → y ≠ x)) (fun i => us.length - (intOf i).toNat)
  case atStart => exact ⟨0, by omega, rfl, Lib.hid fun j y _ hj => absurd hj (Nat.not_lt_zero _)⟩
  case round =>
    obtain ⟨k, hk, rfl, hall⟩ := hrel
    by_cases hlt : k < us.length
    · obtain ⟨ad, y, rfl, hy, hcy⟩ := h.str_at hlt
      have Hy := Lib.hid hy
      clear hy
      by_cases he : y = x
      · have hq := strq_eq he
        have HF := Lib.hid (show Lib.containsS us x = true from cont_hit (he ▸ Hy.out))
        clear he
        go_wp2
        go_ret
        exact RetB0.mk_ HF.out
      · have hq := strq_ne he
        have HN := Lib.hid (show ∀ j z, us[j]? = some z → j < k + 1 → z ≠ x from fun j z hz hj => by
          by_cases e : j = k
          · subst e; rw [Hy.out] at hz; injection hz with hz; rw [← hz]; exact he
          · exact hall.out j z hz (by omega))
        clear he
        go_wp2
        go_round
        case rel => exact ⟨k + 1, by omega, by go_num, HN⟩
        case measure => simp [intOf]; omega
    · have HF := Lib.hid (show Lib.containsS us x = false from cont_miss (fun j y hy hj => hall.out j y hy (by omega)))
      go_wp2
      go_ret
      exact RetB0.mk_ HF.out
/-- What Collect collects. -/
def collStep (used : List ByteArray) (n : Int) (acc : List ByteArray) (s : ByteArray) : List ByteArray := if decide ((acc.length : Int) < n) && !Lib.containsS used s then acc ++ [s] else acc
def coll (have_ used : List ByteArray) (n : Int) : List ByteArray := have_.foldl (collStep used n) []
theorem coll_snoc {hs used : List ByteArray} {n : Int} {k : Nat} {x : ByteArray} (h : hs[k]? = some x) : coll (hs.take (k + 1)) used n = collStep used n (coll (hs.take k) used n) x := by
  unfold coll
  rw [List.take_add_one, h, Option.toList_some, List.foldl_append]; rfl
theorem collStep_len (used : List ByteArray) (n : Int) (acc : List ByteArray) (s : ByteArray) : (collStep used n acc s).length ≤ acc.length + 1 := by
  unfold collStep; split <;> simp
theorem coll_len (hs used : List ByteArray) (n : Int) (k : Nat) : (coll (hs.take k) used n).length ≤ k := by
  induction k with
  | zero => simp [coll]
  | succ k ih =>
    by_cases hk : k < hs.length
    · rw [coll_snoc (List.getElem?_eq_getElem hk)]
      have := collStep_len used n (coll (hs.take k) used n) hs[k]; omega
    · rw [show hs.take (k + 1) = hs.take k by rw [List.take_of_length_le (by omega), List.take_of_length_le (by omega)]]; omega
theorem coll_all {hs used : List ByteArray} {n : Int} {k : Nat} (h : hs.length ≤ k) : coll (hs.take k) used n = coll hs used n := by rw [List.take_of_length_le h]
set_option maxHeartbeats 1000000 in
theorem collect_any (u v : Value) (hs us : List ByteArray) (n : Int) (w : World) (hu : Sl w 1 u hs.length (strV hs)) (hv : Sl w 1 v us.length (strV us)) (hl : hs.length ≤ 8796093022207) :
    Calls Tryd.prog 23 #[u, v, .int .i64 n] w (RetRow w 9 1 (coll hs us n).length (strV (coll hs us n))) := by
  obtain ⟨A, c, rfl, hc1, hc2⟩ := hu.form
  obtain ⟨A', c', rfl, hc1', hc2'⟩ := hv.form
  unfold maxLen at hc2 hc2'
  go_enter Tryd.func23, Tryd.ntmps23
  go_wp2
  go_loopw [7, 12] (fun o i wr => ∃ (k : Nat) (L : List ByteArray), k ≤ hs.length ∧ i = .int .i64 k ∧ L.length ≤ k ∧ wr.ownsRow w.heap.size 9 1 o L.length (strV L) ∧ Below w.heap.size w wr ∧ Hid (L = coll (hs.take k) us n)) (fun _ i _ => hs.length - (intOf i).toNat)
  case atStart => exact ⟨0, [], by omega, rfl, by simp, World.ownsRow_nil _ _ _ _, Below.refl _ _, Lib.hid (by simp [coll])⟩
  case round =>
    obtain ⟨k, L, hk, rfl, hLk, hown, hbel, hL⟩ := hrel
    obtain ⟨A2, c2, rfl, hd1, hd2⟩ := (Sl.of_own hown).form
    unfold maxLen at hd2
    by_cases hlt : k < hs.length
    · obtain ⟨ad, x, rfl, hx, hcx⟩ := (hu.below hbel).str_at hlt
      have HC := Lib.hid (contS_any _ us x wr (hv.below hbel))
      have HS := Lib.hid (show coll (hs.take (k + 1)) us n = collStep us n L x by rw [coll_snoc hx, hL.out])
      clear hx
      by_cases hn : (L.length : Int) < n
      · have hnb : decide ((L.length : Int) < n) = true := decide_eq_true hn
        cases hcb : Lib.containsS us x with
        | true =>
          rw [hcb] at HC
          have HN := Lib.hid (show L = coll (hs.take (k + 1)) us n by rw [HS.out, collStep, hcb]; simp)
          clear hcb
          go_wp2_with fail
          refine HC.out.mono ?_
          rintro _ _ ⟨rfl, rfl⟩
          go_wp2
          go_roundw
          case rel => exact ⟨k + 1, L, by omega, by go_num, by omega, hown, hbel, HN⟩
          case measure => simp [intOf]; omega
        | false =>
          rw [hcb] at HC
          have HN := Lib.hid (show L ++ [x] = coll (hs.take (k + 1)) us n by rw [HS.out, collStep, hcb, hnb]; rfl)
          clear hcb
          go_wp2_with fail
          refine HC.out.mono ?_
          rintro _ _ ⟨rfl, rfl⟩
          go_wp2_with (at_builtin; go_must (refine app1 _ _ hown hbel (Nat.le_refl _) hbel.size Tryd.underlying29 info_str rfl (by decide) rfl (oneStr _) (by omega) (by omega) rfl rfl rfl rfl ?_))
          intro g' cap' w1 hown' hbel' _ _
          clear hown hbel
          go_wp2
          go_roundw
          case rel => exact ⟨k + 1, L ++ [x], by omega, by go_num, by simp; omega, own_strV hown', hbel', HN⟩
          case measure => simp [intOf]; omega
      · have hnb : decide ((L.length : Int) < n) = false := decide_eq_false hn
        have HN := Lib.hid (show L = coll (hs.take (k + 1)) us n by rw [HS.out, collStep, hnb]; rfl)
        go_wp2
        go_roundw
        case rel => exact ⟨k + 1, L, by omega, by go_num, by omega, hown, hbel, HN⟩
        case measure => simp [intOf]; omega
    · have HF := Lib.hid (show L = coll hs us n by rw [hL.out, coll_all (by omega)])
      go_wp2
      go_ret
      exact RetRow.mk_ hbel hown (by rw [HF.out]) (by rw [HF.out])
end Go.Proofs.YtjfnpklknehiiaaDoor
