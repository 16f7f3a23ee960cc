/-
  The contract of law31.outputs: entries with numbers from a given one on.
-/
import Derived.Test.YtoikgjhekemjdaaJInputs
import Derived.Test.YtoikgjhekemjdaaSnapGen
namespace Go.Proofs.Ytoikgjhekemjdaa
open Go.RowKit Go.Sort
theorem ents_set3 {o : List Ent} {k : Nat} {e : Ent} (he : o[k]? = some e) (i l d : Int) :
    (((ents o).set (k * 12) (.int .i64 i)).set (k * 12 + 11) (.int .i64 d)).set (k * 12 + 2) (.int .i64 l) = ents (o.set k ⟨i, e.rows, l, e.lo, e.hi, d⟩) := by
  have hk : k < o.length := (List.getElem?_eq_some_iff.1 he).1
  apply List.ext_getElem?
  intro j
  by_cases hj : j < o.length * 12
  · have hi : j / 12 < (o.set k ⟨i, e.rows, l, e.lo, e.hi, d⟩).length := by rw [List.length_set]; omega
    have hgt := ents_get (List.getElem?_eq_getElem hi) (Nat.mod_lt j (by decide : 0 < 12))
    rw [show j / 12 * 12 + j % 12 = j by omega, List.getElem_set] at hgt
    have hi2 : j / 12 < o.length := by omega
    have hgt2 := ents_get (List.getElem?_eq_getElem hi2) (Nat.mod_lt j (by decide : 0 < 12))
    rw [show j / 12 * 12 + j % 12 = j by omega] at hgt2
    by_cases hki : k = j / 12
    · rw [if_pos hki] at hgt
      have he3 : o[j / 12]? = some e := hki ▸ he
      have he2 : o[j / 12] = e := (List.getElem?_eq_some_iff.1 he3).2
      rw [he2] at hgt2
      rw [hgt]
      have hm : j % 12 < 12 := Nat.mod_lt j (by decide)
      have hjj : j = k * 12 + j % 12 := by omega
      obtain ⟨r, hr⟩ : ∃ r, j % 12 = r := ⟨_, rfl⟩
      rw [hr] at hgt2 hm hjj ⊢
      clear hgt hr he2 he3 hki hi hi2
      subst hjj
      have hle : ∀ r, r < 12 → k * 12 + r < o.length * 12 := fun r hr => by omega
      rw [List.getElem?_set, List.getElem?_set, List.getElem?_set, List.length_set, List.length_set, ents_length, hgt2]
      rcases (show r = 0 ∨ r = 1 ∨ r = 2 ∨ r = 3 ∨ r = 4 ∨ r = 5 ∨ r = 6 ∨ r = 7 ∨ r = 8 ∨ r = 9 ∨ r = 10 ∨ r = 11 by omega) with rfl | rfl | rfl | rfl | rfl | rfl | rfl | rfl | rfl | rfl | rfl | rfl <;> simp [Ent.cells, hk] <;> omega
    · rw [if_neg hki] at hgt
      rw [hgt, List.getElem?_set, List.getElem?_set, List.getElem?_set, if_neg (by omega), if_neg (by omega), if_neg (by omega), hgt2]
  · rw [List.getElem?_eq_none (by simp [ents_length]; omega), List.getElem?_eq_none (by rw [ents_length, List.length_set]; omega)]
theorem own_set1 {w : World} {base : Nat} {t : TypeId} {g n cap j : Nat} {xs : List Value} {u : Value} (h : w.ownsRow base t 12 (.slice (some ⟨g, 0, none⟩) n cap) n xs) :
    (w.setCell ⟨g, j, none⟩ u).ownsRow base t 12 (.slice (some ⟨g, 0, none⟩) n cap) n (xs.set j u) := by
  obtain ⟨h1, h2⟩ := h
  rcases h2 with ⟨h2, _⟩ | ⟨g', cap', cur, e0, hb, hg, hn2, hc, hcs, ht⟩
  · cases h2
  injection e0 with e1 _ e3
  injection e1 with e1
  injection e1 with e1
  subst e1 e3
  refine ⟨by rw [List.length_set, h1], .inr ⟨g, cap, _, rfl, hb, Go.heap_setCell_same w g j cur t u hg, hn2, hc, by simpa using hcs, ?_⟩⟩
  rw [Array.toList_setIfInBounds, ← ht, List.take_set]
theorem own_set3 {w : World} {base : Nat} {t : TypeId} {g n cap : Nat} {o : List Ent} (h : w.ownsRow base t 12 (.slice (some ⟨g, 0, none⟩) n cap) n (ents o)) {k : Nat} {e : Ent} (he : o[k]? = some e) (i l d : Int) :
    (((w.setCell ⟨g, k * 12, none⟩ (.int .i64 i)).setCell ⟨g, k * 12 + 11, none⟩ (.int .i64 d)).setCell ⟨g, k * 12 + 2, none⟩ (.int .i64 l)).ownsRow base t 12 (.slice (some ⟨g, 0, none⟩) n cap) n (ents (o.set k ⟨i, e.rows, l, e.lo, e.hi, d⟩)) := by
  rw [← ents_set3 he]; exact own_set1 (own_set1 (own_set1 h))
theorem own_ent' {w : World} {base : Nat} {t : TypeId} {g n cap : Nat} {o : List Ent} (h : w.ownsRow base t 12 (.slice (some ⟨g, 0, none⟩) n cap) n (ents o)) (hn : o.length = n) (k : Nat) (hk : k < n) :
    ∃ e, o[k]? = some e ∧ e ∈ o ∧ w.cell? ⟨g, k * 12, none⟩ = some (.int .i64 e.id) ∧ w.cell? ⟨g, k * 12 + 1, none⟩ = some (.int .i64 e.rows) ∧ w.cell? ⟨g, k * 12 + 2, none⟩ = some (.int .i64 e.live) ∧ w.cell? ⟨g, k * 12 + 11, none⟩ = some (.int .i64 e.del) := by
  obtain ⟨A, c, e, _, _, _, h4⟩ := Sl.of_own h
  injection e with e1 e2 e3
  obtain ⟨ad, ea, hb, hc⟩ := h4 (by omega)
  rw [← e1] at ea
  injection ea with ea
  have he := List.getElem?_eq_getElem (show k < o.length by omega)
  have hcc : ∀ j u, j < 12 → o[k].cells[j]? = some u → w.cell? ⟨g, k * 12 + j, none⟩ = some u := fun j u hj hu => by
    have := hc (k * 12 + j) u ((ents_get he hj).trans hu)
    rw [← ea, Addr.add_lit, Nat.zero_add] at this
    exact this
  exact ⟨o[k], he, List.getElem_mem _, hcc 0 _ (by decide) rfl, hcc 1 _ (by decide) rfl, hcc 2 _ (by decide) rfl, hcc 11 _ (by decide) rfl⟩
theorem grown3 (w : World) (g a b c : Nat) (u v x : Value) : w.grownBy (((w.setCell ⟨g, a, none⟩ u).setCell ⟨g, b, none⟩ v).setCell ⟨g, c, none⟩ x) (some g) :=
  grown_trans' (grown_trans' (grownBy_set w ⟨g, a, none⟩ u) (grownBy_set _ ⟨g, b, none⟩ v)) (grownBy_set _ ⟨g, c, none⟩ x)
set_option maxRecDepth 100000 in
set_option maxHeartbeats 4000000 in
theorem outputs_any (id : Int) (ve : Value) (zs : List Int) (w : World)
    (hz : Sl w 1 ve zs.length (ints zs)) (hzl : zs.length ≤ 9223372036854775807) (hzr : ∀ x ∈ zs, -9223372036854775808 ≤ x ∧ x ≤ 9223372036854775807) :
    Calls Try.prog 34 #[.int .i64 id, ve] w (RetIn w 2) := by
  obtain ⟨Az, cz, rfl, _, _⟩ := hz.form
  have HK := Lib.hid (kentries_any _ zs 2 w hz hzl hzr (by omega) (by omega))
  clear hz hzl hzr
  go_enter Try.func34, Try.ntmps34
  go_wp2_with fail
  refine HK.out.mono ?_
  rintro _ w1 ⟨v, l, rfl, hll, hG, hown, hb1⟩
  have HSM := Lib.hid (show ∀ e ∈ l, e.small from fun e he => Ent.gen_small (hG.mem e he).1)
  obtain ⟨A6, c6, rfl, hc61, hc62⟩ := (Sl.of_own hown).form
  obtain ⟨R, hR⟩ : ∃ R, l.length = R := ⟨_, rfl⟩
  rw [hR] at hown hc61 hll
  have HR := Lib.hid hR
  have hR2 : R ≤ 2 := by omega
  have HO := Lib.hid hown
  have HB1 := Lib.hid hb1
  rw [hR]
  clear hR hll hG hown hb1 HK
  go_wp2
  go_loopw [11] (fun i wr => ∃ (k : Nat) (o : List Ent), i = .int .i64 k ∧ k ≤ R ∧ Hid (o.length = R) ∧ Hid (∀ e ∈ o, e.small) ∧ wr.ownsRow w.heap.size 34 12 (.slice A6 R c6) R (ents o) ∧ Below w.heap.size w wr) (fun i _ => R - (intOf i).toNat)
  case atStart => exact ⟨0, l, rfl, Nat.zero_le _, HR, HSM, HO.out, HB1.out⟩
  case round =>
    obtain ⟨k, o, rfl, hk, HL, HS, hown, hbel⟩ := hrel
    by_cases hlt : k < R
    · obtain ⟨b6, e6⟩ : ∃ b6, A6 = some ⟨b6, 0, none⟩ := by
        rcases hown.2 with ⟨h, _⟩ | ⟨g', cap, cur, h, _⟩
        · injection h with h1 h2; omega
        · injection h with h1 h2; exact ⟨g', h1⟩
      subst e6
      obtain ⟨e, he, hm, c0, c1, c2, c11⟩ := own_ent' hown HL.out k hlt
      have HE := Lib.hid (HS.out e hm)
      have f0 := (own_cell hown (show k * 12 < c6 * 12 by omega)).2
      have f2 := (own_cell hown (show k * 12 + 2 < c6 * 12 by omega)).2
      have f11 := (own_cell hown (show k * 12 + 11 < c6 * 12 by omega)).2
      have hlt6 := (hown.lt b6 rfl).2
      have hge6 := (hown.lt b6 rfl).1
      have Hset := Lib.hid (fun (i l d : Int) => own_set3 hown he i l d)
      have HB := Lib.hid hbel
      clear he hm hbel hown
      rcases (show k = 0 ∨ k = 1 by omega) with rfl | rfl
      · simp only [Nat.zero_mul, Nat.zero_add] at c0 c1 c2 c11 f0 f2 f11
        go_wp2
        go_roundw
        case rel => exact ⟨1, _, by go_num, hlt, Lib.hid (by simpa using HL.out), Lib.hid (set_small HS.out (by exact HE.out)), Hset.out _ _ _, below_row HB.out (grown3 _ _ _ _ _ _ _ _) hge6 HB.out.size⟩
        case measure => simp [intOf]; omega
      · simp only [Nat.one_mul, Nat.reduceAdd] at c0 c1 c2 c11 f0 f2 f11
        go_wp2
        go_roundw
        case rel => exact ⟨2, _, by go_num, hlt, Lib.hid (by simpa using HL.out), Lib.hid (set_small HS.out (by exact HE.out)), Hset.out _ _ _, below_row HB.out (grown3 _ _ _ _ _ _ _ _) hge6 HB.out.size⟩
        case measure => simp [intOf]; omega
    · have HB := Lib.hid hbel
      have HW := Lib.hid hown
      clear hbel hown
      go_wp2
      go_ret
      exact ⟨_, o, rfl, own_len HL.out HW.out, HS.out, by have := HL.out; omega, HB.out⟩
end Go.Proofs.Ytoikgjhekemjdaa
