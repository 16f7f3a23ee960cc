/-
  The contract of law31.inputs: some entries of a version.
-/
import Derived.Test.YtoikgjhekemjdaaJobKit
import Derived.Test.YtoikgjhekemjdaaKEntries
import Derived.Test.YtoikgjhekemjdaaRecKit
import Derived.Test.YtoikgjhekemjdaaInv2
namespace Go.Proofs.Ytoikgjhekemjdaa
open Go.RowKit Go.Sort
def RetIn (w : World) (m : Nat) (e : Ending) (w' : World) : Prop :=
  ∃ (v : Value) (l : List Ent), e = .returned v ∧ w'.ownsRow w.heap.size 34 12 v l.length (ents l) ∧ (∀ e ∈ l, e.small) ∧ l.length ≤ m ∧ Below w.heap.size w w'
theorem setCells12 (w : World) (g o : Nat) (d : Ent) : w.setCells g o d.cells = ((((((((((((w.setCell ⟨g, o, none⟩ (.int .i64 d.id)).setCell ⟨g, o + 1, none⟩ (.int .i64 d.rows)).setCell ⟨g, o + 1 + 1, none⟩ (.int .i64 d.live)).setCell ⟨g, o + 1 + 1 + 1, none⟩ (.bool d.lo.null)).setCell ⟨g, o + 1 + 1 + 1 + 1, none⟩ (.int .i64 d.lo.n)).setCell ⟨g, o + 1 + 1 + 1 + 1 + 1, none⟩ (.string d.lo.s)).setCell ⟨g, o + 1 + 1 + 1 + 1 + 1 + 1, none⟩ (.int .i64 d.lo.seq)).setCell ⟨g, o + 1 + 1 + 1 + 1 + 1 + 1 + 1, none⟩ (.bool d.hi.null)).setCell ⟨g, o + 1 + 1 + 1 + 1 + 1 + 1 + 1 + 1, none⟩ (.int .i64 d.hi.n)).setCell ⟨g, o + 1 + 1 + 1 + 1 + 1 + 1 + 1 + 1 + 1, none⟩ (.string d.hi.s)).setCell ⟨g, o + 1 + 1 + 1 + 1 + 1 + 1 + 1 + 1 + 1 + 1, none⟩ (.int .i64 d.hi.seq)).setCell ⟨g, o + 1 + 1 + 1 + 1 + 1 + 1 + 1 + 1 + 1 + 1 + 1, none⟩ (.int .i64 d.del)) := rfl
theorem own_ent {w : World} {base : Nat} {t : TypeId} {g n cap : Nat} {o : List Ent} (h : w.ownsRow base t 12 (.slice (some ⟨g, 0, none⟩) n cap) n (ents o)) (hn : o.length = n) (k : Nat) (hk : k < n) :
    ∃ e, e ∈ o ∧ ∀ j u, j < 12 → e.cells[j]? = some u → w.cell? ⟨g, k * 12 + j, none⟩ = some u := by
  obtain ⟨A, c, e, _, _, _, h4⟩ := Sl.of_own h
  injection e with e1 e2 e3
  obtain ⟨ad, ea, hb, hc⟩ := h4 (by omega)
  rw [← e1] at ea
  injection ea with ea
  have he := List.getElem?_eq_getElem (show k < o.length by omega)
  refine ⟨o[k], List.getElem_mem _, fun j u hj hu => ?_⟩
  have := hc (k * 12 + j) u ((ents_get he hj).trans hu)
  rw [← ea, Addr.add_lit, Nat.zero_add] at this
  exact this
theorem own_put {w : World} {base : Nat} {t : TypeId} {g n cap k : Nat} {o : List Ent} {e : Ent} (h : w.ownsRow base t 12 (.slice (some ⟨g, 0, none⟩) n cap) n (ents o)) (hn : o.length = n) (hk : k < n) :
    (w.setCells g (k * 12) e.cells).ownsRow base t 12 (.slice (some ⟨g, 0, none⟩) n cap) n (ents (o.set k e)) := by
  obtain ⟨h1, h2⟩ := h
  rcases h2 with ⟨h2, _⟩ | ⟨g', cap', cur, e0, hb, hg, hn2, hc, hcs, ht⟩
  · cases h2
  injection e0 with e1 _ e3
  injection e1 with e1
  injection e1 with e1
  subst e1 e3
  refine ⟨by rw [ents_length, List.length_set, hn], .inr ⟨g, cap, _, rfl, hb, setCells_heap e.cells w g _ cur t hg, hn2, hc, by rw [Lib.lay_size]; exact hcs, ?_⟩⟩
  apply List.ext_getElem?
  intro j
  have hcl := e.cells_length
  rw [List.getElem?_take, Array.getElem?_toList, Lib.lay_get? _ _ _ _ (by rw [hcl, hcs]; omega), hcl]
  by_cases hj : j < n * 12
  · rw [if_pos hj]
    have hi : j / 12 < (o.set k e).length := by rw [List.length_set]; omega
    have hgt := ents_get (List.getElem?_eq_getElem hi) (Nat.mod_lt j (by decide : 0 < 12))
    rw [show j / 12 * 12 + j % 12 = j by omega] at hgt
    rw [hgt, List.getElem_set]
    by_cases hki : k = j / 12
    · rw [if_pos (by omega), if_pos hki]
      congr 1; omega
    · rw [if_neg (by omega), if_neg hki]
      have hi2 : j / 12 < o.length := by omega
      have hgt2 := ents_get (List.getElem?_eq_getElem hi2) (Nat.mod_lt j (by decide : 0 < 12))
      rw [show j / 12 * 12 + j % 12 = j by omega, ← ht, List.getElem?_take, if_pos hj, Array.getElem?_toList] at hgt2
      exact hgt2
  · rw [if_neg hj, List.getElem?_eq_none (by rw [ents_length, List.length_set]; omega)]
theorem own_len {w : World} {base : Nat} {t : TypeId} {v : Value} {n : Nat} {o : List Ent} (hn : o.length = n) (h : w.ownsRow base t 12 v n (ents o)) : w.ownsRow base t 12 v o.length (ents o) := by subst hn; exact h
theorem own_snoc1 {w : World} {base : Nat} {t : TypeId} {v : Value} {n : Nat} {o : List Ent} {e : Ent} (hn : o.length = n) (h : w.ownsRow base t 12 v (n + 1) (ents o ++ (e.cells.toArray : Array Value).toList)) : w.ownsRow base t 12 v (o ++ [e]).length (ents (o ++ [e])) := by
  subst hn; rw [ents_snoc]; simpa using h
theorem set_small {o : List Ent} {k : Nat} {d : Ent} (h : ∀ e ∈ o, e.small) (hd : d.small) : ∀ e ∈ o.set k d, e.small := fun e he => by
  rcases List.mem_or_eq_of_mem_set he with h1 | h1
  · exact h e h1
  · subst h1; exact hd
set_option maxRecDepth 100000 in
set_option maxHeartbeats 4000000 in
theorem inputs_any (x q n : Int) (vs ve : Value) (l : List Ent) (zs : List Int) (w : World) (hs : Sl w 12 vs l.length (ents l)) (hl : l.length ≤ 1000) (hsm : ∀ e ∈ l, e.small)
    (hz : Sl w 1 ve zs.length (ints zs)) (hzl : zs.length ≤ 9223372036854775807) (hzr : ∀ x ∈ zs, -9223372036854775808 ≤ x ∧ x ≤ 9223372036854775807) :
    Calls Try.prog 32 #[.agg #[.int .i64 x, .int .i64 q, .int .i64 n, vs], ve] w (RetIn w (l.length + 1)) := by
  obtain ⟨AS, cS, rfl, _, _⟩ := hs.form
  obtain ⟨Az, cz, rfl, _, _⟩ := hz.form
  obtain ⟨W, hW⟩ : ∃ W, W = w.alloc (.cells #[.int .i64 x, .int .i64 q, .int .i64 n, .slice AS l.length cS] 24) := ⟨_, rfl⟩
  have HB0 := Lib.hid (show Below w.heap.size w W by rw [hW]; exact abel _ _)
  have hB := Lib.hid (show Blk W w.heap.size 24 #[.int .i64 x, .int .i64 q, .int .i64 n, .slice AS l.length cS] by rw [hW]; exact Blk.new _ _ _)
  have HF := Lib.hid (from_any _ zs W (hz.below HB0.out) hzl hzr)
  have HS := Lib.hid (hs.below HB0.out)
  have HSM := Lib.hid hsm
  have hww := HB0.out.size
  clear hs hz hzl hzr hsm
  go_enter Try.func32, Try.ntmps32
  go_upto_region 1 with (fail)
  rw [← hW]
  clear hW
  go_wp2_with fail
  refine HF.out.mono ?_
  rintro _ w1 ⟨g, rfl, hb1, hsrc⟩
  clear HF
  have bb := (hB.out.below hb1 hB.out.lt)
  have s0 := bb.cell 0
  have s1 := bb.cell 1
  have s2 := bb.cell 2
  have s3 := bb.cell 3
  simp only [List.getElem?_toArray, List.getElem?_cons_zero, List.getElem?_cons_succ] at s0 s1 s2 s3
  clear bb
  have hge := hsrc.ge
  have HB1 := Lib.hid hb1
  have HR1 := Lib.hid hsrc
  clear hb1 hsrc
  go_wp2
  clear s0 s1 s2 s3
  go_loopw [6, 14] (fun v i wr => ∃ (k : Nat) (out : List Ent) (rest : List Int), i = .int .i64 k ∧ k ≤ l.length ∧ out.length ≤ k ∧ (∀ e ∈ out, e.small) ∧ wr.ownsRow W.heap.size 34 12 v out.length (ents out) ∧ Src wr W.heap.size 100 g rest ∧ Below W.heap.size W wr) (fun _ i _ => l.length - (intOf i).toNat)
  case atStart => exact ⟨0, [], _, rfl, Nat.zero_le _, Nat.le_refl _, fun e he => absurd he (by simp), World.ownsRow_nil _ _ _ _, HR1.out, HB1.out⟩
  case round =>
    obtain ⟨k, out, rest, rfl, hk, hok, hos, hown, hsrc, hbel⟩ := hrel
    by_cases hlt : k < l.length
    · obtain ⟨ad, e, p, rfl, he, hp, hE⟩ := (HS.out.below hbel).ent_load rfl hlt
      obtain ⟨hplt, c0, c1, c2, c3, c4, c5, c6, c7, c8, c9, c10, c11⟩ := hE
      have HE := Lib.hid (HSM.out e (List.mem_of_getElem? he))
      have HOS := Lib.hid hos
      obtain ⟨N, hN⟩ : ∃ N, wr.heap.size = N := ⟨_, rfl⟩
      obtain ⟨U, hU⟩ : ∃ U, U = wr.alloc (.cells #[.int .i64 e.id, .int .i64 e.rows, .int .i64 e.live, .bool e.lo.null, .int .i64 e.lo.n, .string e.lo.s, .int .i64 e.lo.seq, .bool e.hi.null, .int .i64 e.hi.n, .string e.hi.s, .int .i64 e.hi.seq, .int .i64 e.del] 34) := ⟨_, rfl⟩
      have BN0 := Lib.hid (show Blk U N 34 #[.int .i64 e.id, .int .i64 e.rows, .int .i64 e.live, .bool e.lo.null, .int .i64 e.lo.n, .string e.lo.s, .int .i64 e.lo.seq, .bool e.hi.null, .int .i64 e.hi.n, .string e.hi.s, .int .i64 e.hi.seq, .int .i64 e.del] by rw [hU, ← hN]; exact Blk.new _ _ _)
      have OA0 := Lib.hid (show U.ownsRow W.heap.size 34 12 u6 out.length (ents out) by rw [hU]; exact hown.alloc _)
      have SR0 := Lib.hid (show Src U W.heap.size 100 g rest by rw [hU]; exact hsrc.alloc _)
      have HW0 := Lib.hid (show Below W.heap.size W U by rw [hU]; exact hbel.alloc hbel.size _)
      have hgN : g ≠ N := by have := hsrc.lt; omega
      have hNg : N ≠ g := fun e => hgN e.symm
      have hwN : W.heap.size ≤ N := by have := hbel.size; omega
      have HNo := Lib.hid (show ∀ b, u6.ownBlock = some b → b ≠ N from fun b hb e => by have := (hown.lt b hb).2; omega)
      have HLT := Lib.hid hlt
      clear hown hsrc hbel he hos
      go_wp2_with fail
      rw [← hU]
      clear hU
      refine (next_any _ g 2 rest U SR0.out (by omega) (by omega)).mono ?_
      rintro _ w1 ⟨rfl, ho, hs3⟩
      obtain ⟨y, hy⟩ : ∃ y, nxt 2 (rest) = y := ⟨_, rfl⟩
      rw [hy]
      clear hy
      have BN1 := Lib.hid (BN0.out.grown ho (by intro e; injection e with e; exact hgN e))
      have OA1 := Lib.hid (own_only OA0.out SR0.out (by decide) ho)
      have HW1 := Lib.hid (below_only HW0.out ho hge HW0.out.size)
      have SR1 := Lib.hid hs3
      clear ho hs3
      by_cases hy0 : y = 0
      · subst hy0
        go_wp2_with fail
        refine (next_any _ g 9 rest.tail w1 SR1.out (by omega) (by omega)).mono ?_
        rintro _ w2 ⟨rfl, ho, hs3⟩
        obtain ⟨z, hz⟩ : ∃ y, nxt 9 (rest.tail) = y := ⟨_, rfl⟩
        rw [hz]
        clear hz
        have BN2 := Lib.hid (BN1.out.grown ho (by intro e; injection e with e; exact hgN e))
        have OA2 := Lib.hid (own_only OA1.out SR1.out (by decide) ho)
        have HW2 := Lib.hid (below_only HW1.out ho hge HW1.out.size)
        have SR2 := Lib.hid hs3
        clear ho hs3
        by_cases hz0 : z = 0
        · subst hz0
          have bb := BN2.out
          have n0 := bb.cell 0
          have n1 := bb.cell 1
          have n2 := bb.cell 2
          have n3 := bb.cell 3
          have n4 := bb.cell 4
          have n5 := bb.cell 5
          have n6 := bb.cell 6
          have n7 := bb.cell 7
          have n8 := bb.cell 8
          have n9 := bb.cell 9
          have n10 := bb.cell 10
          have n11 := bb.cell 11
          simp only [List.getElem?_toArray, List.getElem?_cons_zero, List.getElem?_cons_succ] at n0 n1 n2 n3 n4 n5 n6 n7 n8 n9 n10 n11
          clear bb
          have f11 := BN2.out.frozen 11
          have hN2 := BN2.out.lt
          go_upto_region 9 with (fail)
          clear n0 n1 n2 n3 n4 n5 n6 n7 n8 n9 n10 n11
          obtain ⟨w3, hw3⟩ : ∃ w3, w3 = w2.setCell ⟨N, 11, none⟩ (.int .i64 (wrap64 (e.del + 1))) := ⟨_, rfl⟩
          have kg : w2.grownBy w3 (some N) := by rw [hw3]; exact grownBy_set w2 ⟨N, 11, none⟩ _
          have BN3 := Lib.hid (show Blk w3 N 34 #[.int .i64 e.id, .int .i64 e.rows, .int .i64 e.live, .bool e.lo.null, .int .i64 e.lo.n, .string e.lo.s, .int .i64 e.lo.seq, .bool e.hi.null, .int .i64 e.hi.n, .string e.hi.s, .int .i64 e.hi.seq, .int .i64 (wrap64 (e.del + 1))] by
            have := BN2.out.set_ 11 (.int .i64 (wrap64 (e.del + 1)))
            simp only [List.setIfInBounds_toArray, List.set_cons_zero, List.set_cons_succ] at this
            rw [hw3]; exact this)
          have OA3 := Lib.hid (own_row OA2.out kg HNo.out)
          have HW3 := Lib.hid (below_row HW2.out kg hwN HW2.out.size)
          have SR3 := Lib.hid (SR2.out.row kg hgN hwN)
          rw [← hw3]
          clear hw3 kg f11 hN2
          have bb := BN3.out
          have n0 := bb.cell 0
          have n1 := bb.cell 1
          have n2 := bb.cell 2
          have n3 := bb.cell 3
          have n4 := bb.cell 4
          have n5 := bb.cell 5
          have n6 := bb.cell 6
          have n7 := bb.cell 7
          have n8 := bb.cell 8
          have n9 := bb.cell 9
          have n10 := bb.cell 10
          have n11 := bb.cell 11
          simp only [List.getElem?_toArray, List.getElem?_cons_zero, List.getElem?_cons_succ] at n0 n1 n2 n3 n4 n5 n6 n7 n8 n9 n10 n11
          clear bb
          have hsz := HW3.out.size
          go_wp2_with (at_builtin; go_must (refine app1 _ _ OA3.out (Below.refl W.heap.size w3) (Nat.le_refl _) hsz under_entry info_entry rfl (by decide) rfl (one12 _ _ _ _ _ _ _ _ _ _ _ _) (by omega) (by omega) rfl rfl rfl rfl ?_))
          intro g' cap' w9 ho9 hb9 hg9 hor9
          have O9 := Lib.hid (own_ents12 ho9)
          have H9 := Lib.hid (HW3.out.trans hb9)
          have S9 := Lib.hid (SR3.out.grown hg9 (fun h => SR3.out.own_ne OA3.out (by decide) h) (fun j hj => (OA3.out.lt j hj).1))
          clear ho9 hb9 hg9 hor9
          clear n0 n1 n2 n3 n4 n5 n6 n7 n8 n9 n10 n11
          go_wp2
          go_roundw
          case rel => exact ⟨k + 1, out ++ [_], _, by go_num, HLT.out, by simp; omega, snoc_small HOS.out (by exact HE.out), O9.out, S9.out, H9.out⟩
          case measure => have := HLT.out; simp [intOf]; omega
        · have t2 : (z == 0) = false := by simpa using hz0
          have bb := BN2.out
          have n0 := bb.cell 0
          have n1 := bb.cell 1
          have n2 := bb.cell 2
          have n3 := bb.cell 3
          have n4 := bb.cell 4
          have n5 := bb.cell 5
          have n6 := bb.cell 6
          have n7 := bb.cell 7
          have n8 := bb.cell 8
          have n9 := bb.cell 9
          have n10 := bb.cell 10
          have n11 := bb.cell 11
          simp only [List.getElem?_toArray, List.getElem?_cons_zero, List.getElem?_cons_succ] at n0 n1 n2 n3 n4 n5 n6 n7 n8 n9 n10 n11
          clear bb
          have hsz := HW2.out.size
          go_wp2_with (at_builtin; go_must (refine app1 _ _ OA2.out (Below.refl W.heap.size w2) (Nat.le_refl _) hsz under_entry info_entry rfl (by decide) rfl (one12 _ _ _ _ _ _ _ _ _ _ _ _) (by omega) (by omega) rfl rfl rfl rfl ?_))
          intro g' cap' w9 ho9 hb9 hg9 hor9
          have O9 := Lib.hid (own_ents12 ho9)
          have H9 := Lib.hid (HW2.out.trans hb9)
          have S9 := Lib.hid (SR2.out.grown hg9 (fun h => SR2.out.own_ne OA2.out (by decide) h) (fun j hj => (OA2.out.lt j hj).1))
          clear ho9 hb9 hg9 hor9
          clear n0 n1 n2 n3 n4 n5 n6 n7 n8 n9 n10 n11
          go_wp2
          go_roundw
          case rel => exact ⟨k + 1, out ++ [_], _, by go_num, HLT.out, by simp; omega, snoc_small HOS.out (by exact HE.out), O9.out, S9.out, H9.out⟩
          case measure => have := HLT.out; simp [intOf]; omega
      · have t1 : (y == 0) = false := by simpa using hy0
        have HOK := Lib.hid hok
        go_wp2
        go_roundw
        case rel => exact ⟨k + 1, out, _, by go_num, HLT.out, Nat.le_succ_of_le HOK.out, HOS.out, OA1.out, SR1.out, HW1.out⟩
        case measure => have := HLT.out; simp [intOf]; omega
    · obtain ⟨A6, c6, rfl, hc61, hc62⟩ := (Sl.of_own hown).form
      obtain ⟨R, hR⟩ : ∃ R, out.length = R := ⟨_, rfl⟩
      rw [hR] at hown hc61 ⊢
      have hR1 : R ≤ 1000 := by omega
      have hRl : R ≤ l.length := by omega
      have HR := Lib.hid hR
      have HOS := Lib.hid hos
      have OA0 := Lib.hid hown
      have SR0 := Lib.hid hsrc
      have HW0 := Lib.hid hbel
      clear hR hos hown hsrc hbel hok

      by_cases h0 : 0 < R
      · obtain ⟨b6, e6⟩ : ∃ b6, A6 = some ⟨b6, 0, none⟩ := by
          rcases OA0.out.2 with ⟨h, _⟩ | ⟨g', cap, cur, h, _⟩
          · injection h with h1 h2; omega
          · injection h with h1 h2; exact ⟨g', h1⟩
        subst e6
        by_cases h1 : 1 < R
        · go_wp2_with fail
          refine (next_any _ g 3 rest wr SR0.out (by omega) (by omega)).mono ?_
          rintro _ w1 ⟨rfl, ho, hs3⟩
          obtain ⟨y, hy⟩ : ∃ y, nxt 3 (rest) = y := ⟨_, rfl⟩
          rw [hy]
          clear hy
          have OA1 := Lib.hid (own_only OA0.out SR0.out (by decide) ho)
          have HW1 := Lib.hid (below_only HW0.out ho hge HW0.out.size)
          have SR1 := Lib.hid hs3
          clear ho hs3
          by_cases hy0 : y = 0
          · subst hy0
            go_upto_region 12 with (fail)
            refine wp_region_inv (by kernel_rfl) (by kernel_rfl) (fun L a w' => ∃ u41 u42 u43 u44 u45 u46 u47 u48 u49 u50 : Value, a = ⟨#[.agg #[.int .i64 x, .int .i64 q, .int .i64 n, .slice AS l.length cS], .slice Az zs.length cz, .pointer (some ⟨w.heap.size, 0, none⟩), undef, .slice none 0 0, .pointer (some ⟨g, 0, none⟩), .slice (some ⟨b6, 0, none⟩) R c6, undef, u8, .slice Az zs.length cz, .pointer (some ⟨g, 0, none⟩), .pointer (some ⟨w.heap.size, 3, none⟩), .slice AS l.length cS, .int .i64 l.length, .int .i64 k, .bool false, u16, u17, u18, u19, u20, u21, u22, u23, u24, u25, u26, u27, u28, u29, u30, u31, u32, .slice (some ⟨b6, 0, none⟩) R c6, .int .i64 R, .bool true, .bool true, .pointer (some ⟨g, 0, none⟩), .int .i64 0, .bool true, .bool true, u41, u42, u43, u44, u45, u46, u47, u48, u49, u50, undef, undef, undef, undef, undef, undef, undef, undef, undef, undef, undef, undef, undef, undef, undef], []⟩ ∧
                Below W.heap.size W w' ∧ Got (L 0) u41 (.slice (some ⟨b6, 0, none⟩) R c6) ∧ Got (L 1) u42 (.slice (some ⟨b6, 0, none⟩) R c6) ∧ Got (L 2) u43 (.slice (some ⟨b6, 0, none⟩) R c6) ∧ Got (L 3) u44 (.pointer (some ⟨b6, 12, none⟩)) ∧ (L 4 = true → ∃ d : Ent, d.small ∧ u45 = .agg #[.int .i64 d.id, .int .i64 d.rows, .int .i64 d.live, .bool d.lo.null, .int .i64 d.lo.n, .string d.lo.s, .int .i64 d.lo.seq, .bool d.hi.null, .int .i64 d.hi.n, .string d.hi.s, .int .i64 d.hi.seq, .int .i64 d.del]) ∧ Got (L 5) u46 (.slice (some ⟨b6, 0, none⟩) R c6) ∧ Got (L 6) u47 (.pointer (some ⟨b6, 0, none⟩)) ∧ (L 7 = true → ∃ d : Ent, d.small ∧ u48 = .agg #[.int .i64 d.id, .int .i64 d.rows, .int .i64 d.live, .bool d.lo.null, .int .i64 d.lo.n, .string d.lo.s, .int .i64 d.lo.seq, .bool d.hi.null, .int .i64 d.hi.n, .string d.hi.s, .int .i64 d.hi.seq, .int .i64 d.del]) ∧ Got (L 8) u49 (.pointer (some ⟨b6, 0, none⟩)) ∧ Got (L 10) u50 (.pointer (some ⟨b6, 12, none⟩)) ∧ (∃ o : List Ent, o.length = R ∧ (∀ e ∈ o, e.small) ∧ w'.ownsRow W.heap.size 34 12 (.slice (some ⟨b6, 0, none⟩) R c6) R (ents o)) ∧ Src w' W.heap.size 100 g rest.tail)
              ?_ ?_ ?_
            · exact ⟨_, _, _, _, _, _, _, _, _, _, rfl, HW1.out.drew, nofun, nofun, nofun, nofun, nofun, nofun, nofun, nofun, nofun, nofun, ⟨out, HR.out, HOS.out, OA1.out⟩, SR1.out.drewN 1⟩
            · refine ⟨?_, ?_, ?_, ?_, ?_, ?_, ?_, ?_, ?_, ?_, ?_, ?_, trivial⟩
              · rintro L a w' ⟨u41, u42, u43, u44, u45, u46, u47, u48, u49, u50, rfl, hb, g0, g1, g2, g3, g4, g5, g6, g7, g8, g9, g10, g11⟩ hl hd K hK
                dsimp only at hK ⊢
                go_simp
                exact hK _ _ ⟨_, _, _, _, _, _, _, _, _, _, rfl, hb, fun _ => rfl, g1, g2, g3, g4, g5, g6, g7, g8, g9, g10, g11⟩
              · rintro L a w' ⟨u41, u42, u43, u44, u45, u46, u47, u48, u49, u50, rfl, hb, g0, g1, g2, g3, g4, g5, g6, g7, g8, g9, g10, g11⟩ hl hd K hK
                dsimp only at hK ⊢
                go_simp
                exact hK _ _ ⟨_, _, _, _, _, _, _, _, _, _, rfl, hb, g0, fun _ => rfl, g2, g3, g4, g5, g6, g7, g8, g9, g10, g11⟩
              · rintro L a w' ⟨u41, u42, u43, u44, u45, u46, u47, u48, u49, u50, rfl, hb, g0, g1, g2, g3, g4, g5, g6, g7, g8, g9, g10, g11⟩ hl hd K hK
                dsimp only at hK ⊢
                go_simp
                exact hK _ _ ⟨_, _, _, _, _, _, _, _, _, _, rfl, hb, g0, g1, fun _ => rfl, g3, g4, g5, g6, g7, g8, g9, g10, g11⟩
              · rintro L a w' ⟨u41, u42, u43, u44, u45, u46, u47, u48, u49, u50, rfl, hb, g0, g1, g2, g3, g4, g5, g6, g7, g8, g9, g10, g11⟩ hl hd K hK
                simp [Region.binds] at hd
                dsimp only at hK ⊢
                have e2 := g2 (by simp [hd])
                subst e2
                go_simp
                exact hK _ _ ⟨_, _, _, _, _, _, _, _, _, _, rfl, hb, g0, g1, g2, fun _ => rfl, g4, g5, g6, g7, g8, g9, g10, g11⟩
              · rintro L a w' ⟨u41, u42, u43, u44, u45, u46, u47, u48, u49, u50, rfl, hb, g0, g1, g2, g3, g4, g5, g6, g7, g8, g9, g10, g11⟩ hl hd K hK
                simp [Region.binds] at hd
                dsimp only at hK ⊢
                have e3 := g3 (by simp [hd])
                subst e3
                obtain ⟨o, ho1, ho2, oo⟩ := g10
                obtain ⟨d, hd1, hc⟩ := own_ent oo ho1 1 (by omega)
                have HD := Lib.hid (ho2 d hd1)
                have n0 : w'.cell? ⟨b6, 12, none⟩ = _ := hc 0 _ (by decide) rfl
                have n1 : w'.cell? ⟨b6, 13, none⟩ = _ := hc 1 _ (by decide) rfl
                have n2 : w'.cell? ⟨b6, 14, none⟩ = _ := hc 2 _ (by decide) rfl
                have n3 : w'.cell? ⟨b6, 15, none⟩ = _ := hc 3 _ (by decide) rfl
                have n4 : w'.cell? ⟨b6, 16, none⟩ = _ := hc 4 _ (by decide) rfl
                have n5 : w'.cell? ⟨b6, 17, none⟩ = _ := hc 5 _ (by decide) rfl
                have n6 : w'.cell? ⟨b6, 18, none⟩ = _ := hc 6 _ (by decide) rfl
                have n7 : w'.cell? ⟨b6, 19, none⟩ = _ := hc 7 _ (by decide) rfl
                have n8 : w'.cell? ⟨b6, 20, none⟩ = _ := hc 8 _ (by decide) rfl
                have n9 : w'.cell? ⟨b6, 21, none⟩ = _ := hc 9 _ (by decide) rfl
                have n10 : w'.cell? ⟨b6, 22, none⟩ = _ := hc 10 _ (by decide) rfl
                have n11 : w'.cell? ⟨b6, 23, none⟩ = _ := hc 11 _ (by decide) rfl
                have OO := Lib.hid oo
                have HO2 := Lib.hid ho2
                have hlt6 := (oo.lt b6 rfl).2
                clear hc hd1 oo ho2
                go_simp
                exact hK _ _ ⟨_, _, _, _, _, _, _, _, _, _, rfl, hb, g0, g1, g2, g3, fun _ => ⟨d, HD.out, rfl⟩, g5, g6, g7, g8, g9, ⟨o, ho1, HO2.out, OO.out⟩, g11⟩
              · rintro L a w' ⟨u41, u42, u43, u44, u45, u46, u47, u48, u49, u50, rfl, hb, g0, g1, g2, g3, g4, g5, g6, g7, g8, g9, g10, g11⟩ hl hd K hK
                dsimp only at hK ⊢
                go_simp
                exact hK _ _ ⟨_, _, _, _, _, _, _, _, _, _, rfl, hb, g0, g1, g2, g3, g4, fun _ => rfl, g6, g7, g8, g9, g10, g11⟩
              · rintro L a w' ⟨u41, u42, u43, u44, u45, u46, u47, u48, u49, u50, rfl, hb, g0, g1, g2, g3, g4, g5, g6, g7, g8, g9, g10, g11⟩ hl hd K hK
                simp [Region.binds] at hd
                dsimp only at hK ⊢
                have e5 := g5 (by simp [hd])
                subst e5
                go_simp
                exact hK _ _ ⟨_, _, _, _, _, _, _, _, _, _, rfl, hb, g0, g1, g2, g3, g4, g5, fun _ => rfl, g7, g8, g9, g10, g11⟩
              · rintro L a w' ⟨u41, u42, u43, u44, u45, u46, u47, u48, u49, u50, rfl, hb, g0, g1, g2, g3, g4, g5, g6, g7, g8, g9, g10, g11⟩ hl hd K hK
                simp [Region.binds] at hd
                dsimp only at hK ⊢
                have e6 := g6 (by simp [hd])
                subst e6
                obtain ⟨o, ho1, ho2, oo⟩ := g10
                obtain ⟨d, hd1, hc⟩ := own_ent oo ho1 0 (by omega)
                have HD := Lib.hid (ho2 d hd1)
                have n0 : w'.cell? ⟨b6, 0, none⟩ = _ := hc 0 _ (by decide) rfl
                have n1 : w'.cell? ⟨b6, 1, none⟩ = _ := hc 1 _ (by decide) rfl
                have n2 : w'.cell? ⟨b6, 2, none⟩ = _ := hc 2 _ (by decide) rfl
                have n3 : w'.cell? ⟨b6, 3, none⟩ = _ := hc 3 _ (by decide) rfl
                have n4 : w'.cell? ⟨b6, 4, none⟩ = _ := hc 4 _ (by decide) rfl
                have n5 : w'.cell? ⟨b6, 5, none⟩ = _ := hc 5 _ (by decide) rfl
                have n6 : w'.cell? ⟨b6, 6, none⟩ = _ := hc 6 _ (by decide) rfl
                have n7 : w'.cell? ⟨b6, 7, none⟩ = _ := hc 7 _ (by decide) rfl
                have n8 : w'.cell? ⟨b6, 8, none⟩ = _ := hc 8 _ (by decide) rfl
                have n9 : w'.cell? ⟨b6, 9, none⟩ = _ := hc 9 _ (by decide) rfl
                have n10 : w'.cell? ⟨b6, 10, none⟩ = _ := hc 10 _ (by decide) rfl
                have n11 : w'.cell? ⟨b6, 11, none⟩ = _ := hc 11 _ (by decide) rfl
                have OO := Lib.hid oo
                have HO2 := Lib.hid ho2
                have hlt6 := (oo.lt b6 rfl).2
                clear hc hd1 oo ho2
                go_simp
                exact hK _ _ ⟨_, _, _, _, _, _, _, _, _, _, rfl, hb, g0, g1, g2, g3, g4, g5, g6, fun _ => ⟨d, HD.out, rfl⟩, g8, g9, ⟨o, ho1, HO2.out, OO.out⟩, g11⟩
              · rintro L a w' ⟨u41, u42, u43, u44, u45, u46, u47, u48, u49, u50, rfl, hb, g0, g1, g2, g3, g4, g5, g6, g7, g8, g9, g10, g11⟩ hl hd K hK
                simp [Region.binds] at hd
                dsimp only at hK ⊢
                have e0 := g0 (by simp [hd])
                subst e0
                go_simp
                exact hK _ _ ⟨_, _, _, _, _, _, _, _, _, _, rfl, hb, g0, g1, g2, g3, g4, g5, g6, g7, fun _ => rfl, g9, g10, g11⟩
              · rintro L a w' ⟨u41, u42, u43, u44, u45, u46, u47, u48, u49, u50, rfl, hb, g0, g1, g2, g3, g4, g5, g6, g7, g8, g9, g10, g11⟩ hl hd K hK
                simp [Region.binds] at hd
                dsimp only at hK ⊢
                have e8 := g8 (by simp [hd])
                subst e8
                obtain ⟨d, hd1, rfl⟩ := g4 (by simp [hd])
                have HD := Lib.hid hd1
                obtain ⟨o, ho1, ho2, oo⟩ := g10
                have ec := setCells12 w' b6 0 d
                simp only [Nat.zero_add] at ec
                have kr := own_put (k := 0) (e := d) oo ho1 (by omega)
                rw [Nat.zero_mul, ec] at kr
                have kg := setCells_grown d.cells w' b6 0
                rw [ec] at kg
                clear ec
                have hnew : W.heap.size ≤ b6 := (oo.lt b6 rfl).1
                have hgb6 : g ≠ b6 := fun e => g11.own_ne oo (by decide) (by rw [e]; rfl)
                have f0 : w'.frozen? ⟨b6, 0, none⟩ = false := (own_cell oo (by omega)).2
                have f1 : w'.frozen? ⟨b6, 1, none⟩ = false := (own_cell oo (by omega)).2
                have f2 : w'.frozen? ⟨b6, 2, none⟩ = false := (own_cell oo (by omega)).2
                have f3 : w'.frozen? ⟨b6, 3, none⟩ = false := (own_cell oo (by omega)).2
                have f4 : w'.frozen? ⟨b6, 4, none⟩ = false := (own_cell oo (by omega)).2
                have f5 : w'.frozen? ⟨b6, 5, none⟩ = false := (own_cell oo (by omega)).2
                have f6 : w'.frozen? ⟨b6, 6, none⟩ = false := (own_cell oo (by omega)).2
                have f7 : w'.frozen? ⟨b6, 7, none⟩ = false := (own_cell oo (by omega)).2
                have f8 : w'.frozen? ⟨b6, 8, none⟩ = false := (own_cell oo (by omega)).2
                have f9 : w'.frozen? ⟨b6, 9, none⟩ = false := (own_cell oo (by omega)).2
                have f10 : w'.frozen? ⟨b6, 10, none⟩ = false := (own_cell oo (by omega)).2
                have f11 : w'.frozen? ⟨b6, 11, none⟩ = false := (own_cell oo (by omega)).2
                obtain ⟨dd, _, hcc⟩ := own_ent oo ho1 0 (by omega)
                have m0 : w'.cell? ⟨b6, 0, none⟩ = _ := hcc 0 _ (by decide) rfl
                have m1 : w'.cell? ⟨b6, 1, none⟩ = _ := hcc 1 _ (by decide) rfl
                have m2 : w'.cell? ⟨b6, 2, none⟩ = _ := hcc 2 _ (by decide) rfl
                have m3 : w'.cell? ⟨b6, 3, none⟩ = _ := hcc 3 _ (by decide) rfl
                have m4 : w'.cell? ⟨b6, 4, none⟩ = _ := hcc 4 _ (by decide) rfl
                have m5 : w'.cell? ⟨b6, 5, none⟩ = _ := hcc 5 _ (by decide) rfl
                have m6 : w'.cell? ⟨b6, 6, none⟩ = _ := hcc 6 _ (by decide) rfl
                have m7 : w'.cell? ⟨b6, 7, none⟩ = _ := hcc 7 _ (by decide) rfl
                have m8 : w'.cell? ⟨b6, 8, none⟩ = _ := hcc 8 _ (by decide) rfl
                have m9 : w'.cell? ⟨b6, 9, none⟩ = _ := hcc 9 _ (by decide) rfl
                have m10 : w'.cell? ⟨b6, 10, none⟩ = _ := hcc 10 _ (by decide) rfl
                have m11 : w'.cell? ⟨b6, 11, none⟩ = _ := hcc 11 _ (by decide) rfl
                clear hcc
                have KR := Lib.hid kr
                have KG := Lib.hid kg
                have HO2 := Lib.hid ho2
                have hlt6 := (oo.lt b6 rfl).2
                clear kr kg hd1 ho2 oo
                go_simp
                exact hK _ _ ⟨_, _, _, _, _, _, _, _, _, _, rfl, below_row hb KG.out hnew hb.size, g0, g1, g2, g3, g4, g5, g6, g7, g8, g9, ⟨_, by simpa using ho1, set_small HO2.out HD.out, KR.out⟩, g11.row KG.out hgb6 hnew⟩
              · rintro L a w' ⟨u41, u42, u43, u44, u45, u46, u47, u48, u49, u50, rfl, hb, g0, g1, g2, g3, g4, g5, g6, g7, g8, g9, g10, g11⟩ hl hd K hK
                simp [Region.binds] at hd
                dsimp only at hK ⊢
                have e1 := g1 (by simp [hd])
                subst e1
                go_simp
                exact hK _ _ ⟨_, _, _, _, _, _, _, _, _, _, rfl, hb, g0, g1, g2, g3, g4, g5, g6, g7, g8, fun _ => rfl, g10, g11⟩
              · rintro L a w' ⟨u41, u42, u43, u44, u45, u46, u47, u48, u49, u50, rfl, hb, g0, g1, g2, g3, g4, g5, g6, g7, g8, g9, g10, g11⟩ hl hd K hK
                simp [Region.binds] at hd
                dsimp only at hK ⊢
                have e9 := g9 (by simp [hd])
                subst e9
                obtain ⟨d, hd1, rfl⟩ := g7 (by simp [hd])
                have HD := Lib.hid hd1
                obtain ⟨o, ho1, ho2, oo⟩ := g10
                have ec := setCells12 w' b6 12 d
                simp only [Nat.reduceAdd] at ec
                have kr := own_put (k := 1) (e := d) oo ho1 (by omega)
                rw [Nat.one_mul, ec] at kr
                have kg := setCells_grown d.cells w' b6 12
                rw [ec] at kg
                clear ec
                have hnew : W.heap.size ≤ b6 := (oo.lt b6 rfl).1
                have hgb6 : g ≠ b6 := fun e => g11.own_ne oo (by decide) (by rw [e]; rfl)
                have f0 : w'.frozen? ⟨b6, 12, none⟩ = false := (own_cell oo (by omega)).2
                have f1 : w'.frozen? ⟨b6, 13, none⟩ = false := (own_cell oo (by omega)).2
                have f2 : w'.frozen? ⟨b6, 14, none⟩ = false := (own_cell oo (by omega)).2
                have f3 : w'.frozen? ⟨b6, 15, none⟩ = false := (own_cell oo (by omega)).2
                have f4 : w'.frozen? ⟨b6, 16, none⟩ = false := (own_cell oo (by omega)).2
                have f5 : w'.frozen? ⟨b6, 17, none⟩ = false := (own_cell oo (by omega)).2
                have f6 : w'.frozen? ⟨b6, 18, none⟩ = false := (own_cell oo (by omega)).2
                have f7 : w'.frozen? ⟨b6, 19, none⟩ = false := (own_cell oo (by omega)).2
                have f8 : w'.frozen? ⟨b6, 20, none⟩ = false := (own_cell oo (by omega)).2
                have f9 : w'.frozen? ⟨b6, 21, none⟩ = false := (own_cell oo (by omega)).2
                have f10 : w'.frozen? ⟨b6, 22, none⟩ = false := (own_cell oo (by omega)).2
                have f11 : w'.frozen? ⟨b6, 23, none⟩ = false := (own_cell oo (by omega)).2
                obtain ⟨dd, _, hcc⟩ := own_ent oo ho1 1 (by omega)
                have m0 : w'.cell? ⟨b6, 12, none⟩ = _ := hcc 0 _ (by decide) rfl
                have m1 : w'.cell? ⟨b6, 13, none⟩ = _ := hcc 1 _ (by decide) rfl
                have m2 : w'.cell? ⟨b6, 14, none⟩ = _ := hcc 2 _ (by decide) rfl
                have m3 : w'.cell? ⟨b6, 15, none⟩ = _ := hcc 3 _ (by decide) rfl
                have m4 : w'.cell? ⟨b6, 16, none⟩ = _ := hcc 4 _ (by decide) rfl
                have m5 : w'.cell? ⟨b6, 17, none⟩ = _ := hcc 5 _ (by decide) rfl
                have m6 : w'.cell? ⟨b6, 18, none⟩ = _ := hcc 6 _ (by decide) rfl
                have m7 : w'.cell? ⟨b6, 19, none⟩ = _ := hcc 7 _ (by decide) rfl
                have m8 : w'.cell? ⟨b6, 20, none⟩ = _ := hcc 8 _ (by decide) rfl
                have m9 : w'.cell? ⟨b6, 21, none⟩ = _ := hcc 9 _ (by decide) rfl
                have m10 : w'.cell? ⟨b6, 22, none⟩ = _ := hcc 10 _ (by decide) rfl
                have m11 : w'.cell? ⟨b6, 23, none⟩ = _ := hcc 11 _ (by decide) rfl
                clear hcc
                have KR := Lib.hid kr
                have KG := Lib.hid kg
                have HO2 := Lib.hid ho2
                have hlt6 := (oo.lt b6 rfl).2
                clear kr kg hd1 ho2 oo
                go_simp
                exact hK _ _ ⟨_, _, _, _, _, _, _, _, _, _, rfl, below_row hb KG.out hnew hb.size, g0, g1, g2, g3, g4, g5, g6, g7, g8, g9, ⟨_, by simpa using ho1, set_small HO2.out HD.out, KR.out⟩, g11.row KG.out hgb6 hnew⟩
            rintro a w2 ⟨u41, u42, u43, u44, u45, u46, u47, u48, u49, u50, rfl, hb, g0, g1, g2, g3, g4, g5, g6, g7, g8, g9, g10, g11⟩
            have e0 := g0 rfl
            subst e0
            have e1 := g1 rfl
            subst e1
            have e2 := g2 rfl
            subst e2
            have e3 := g3 rfl
            subst e3
            have e5 := g5 rfl
            subst e5
            have e6 := g6 rfl
            subst e6
            have e8 := g8 rfl
            subst e8
            have e9 := g9 rfl
            subst e9
            obtain ⟨o, h1o, h2o, OO⟩ := g10
            have ho1 := Lib.hid h1o
            have ho2 := Lib.hid h2o
            have OA2 := Lib.hid OO
            have HW2 := Lib.hid hb
            have SR2 := Lib.hid g11
            clear g0 g1 g2 g3 g4 g5 g6 g7 g8 g9 g11 h1o h2o OO hb
            go_wp2_with fail
            refine (next_any _ g 9 rest.tail w2 SR2.out (by omega) (by omega)).mono ?_
            rintro _ w3 ⟨rfl, ho, hs3⟩
            obtain ⟨z, hz⟩ : ∃ y, nxt 9 (rest.tail) = y := ⟨_, rfl⟩
            rw [hz]
            clear hz
            have OA3 := Lib.hid (own_only OA2.out SR2.out (by decide) ho)
            have HW3 := Lib.hid (below_only HW2.out ho hge HW2.out.size)
            have SR3 := Lib.hid hs3
            clear ho hs3
            by_cases hz0 : z = 0
            · subst hz0
              obtain ⟨e, he, hc⟩ := own_ent OA3.out ho1.out 0 h0
              have HES := Lib.hid (ho2.out e he)
              have n0 := hc 0 _ (by decide) rfl
              have n1 := hc 1 _ (by decide) rfl
              have n2 := hc 2 _ (by decide) rfl
              have n3 := hc 3 _ (by decide) rfl
              have n4 := hc 4 _ (by decide) rfl
              have n5 := hc 5 _ (by decide) rfl
              have n6 := hc 6 _ (by decide) rfl
              have n7 := hc 7 _ (by decide) rfl
              have n8 := hc 8 _ (by decide) rfl
              have n9 := hc 9 _ (by decide) rfl
              have n10 := hc 10 _ (by decide) rfl
              have n11 := hc 11 _ (by decide) rfl
              simp only [Nat.zero_mul, Nat.zero_add] at n0 n1 n2 n3 n4 n5 n6 n7 n8 n9 n10 n11
              clear hc he
              have hsz := HW3.out.size
              go_wp2_with (at_builtin; go_must (refine app1 _ _ OA3.out (Below.refl W.heap.size w3) (Nat.le_refl _) hsz under_entry info_entry rfl (by decide) rfl (one12 _ _ _ _ _ _ _ _ _ _ _ _) (by omega) (by omega) rfl rfl rfl rfl ?_))
              intro g' cap' w9 ho9 hb9 hg9 hor9
              have H9 := Lib.hid (HW3.out.trans hb9)
              have O9 := Lib.hid ho9
              clear hb9 hg9 hor9 ho9
              clear n0 n1 n2 n3 n4 n5 n6 n7 n8 n9 n10 n11
              go_wp2
              go_ret
              exact ⟨_, o ++ [e], rfl, own_snoc1 ho1.out (own_mono O9.out hww), snoc_small ho2.out HES.out, by have := ho1.out; simp; omega, HB0.out.trans (H9.out.mono hww)⟩
            · have t9 : (z == 0) = false := by simpa using hz0
              go_wp2
              go_ret
              exact ⟨_, o, rfl, own_len ho1.out (own_mono OA3.out hww), ho2.out, by have := ho1.out; omega, HB0.out.trans (HW3.out.mono hww)⟩
          · have t1 : (y == 0) = false := by simpa using hy0
            have ho1 := HR
            have ho2 := HOS
            go_wp2_with fail
            refine (next_any _ g 9 rest.tail w1 SR1.out (by omega) (by omega)).mono ?_
            rintro _ w3 ⟨rfl, ho, hs3⟩
            obtain ⟨z, hz⟩ : ∃ y, nxt 9 (rest.tail) = y := ⟨_, rfl⟩
            rw [hz]
            clear hz
            have OA3 := Lib.hid (own_only OA1.out SR1.out (by decide) ho)
            have HW3 := Lib.hid (below_only HW1.out ho hge HW1.out.size)
            have SR3 := Lib.hid hs3
            clear ho hs3
            by_cases hz0 : z = 0
            · subst hz0
              obtain ⟨e, he, hc⟩ := own_ent OA3.out ho1.out 0 h0
              have HES := Lib.hid (ho2.out e he)
              have n0 := hc 0 _ (by decide) rfl
              have n1 := hc 1 _ (by decide) rfl
              have n2 := hc 2 _ (by decide) rfl
              have n3 := hc 3 _ (by decide) rfl
              have n4 := hc 4 _ (by decide) rfl
              have n5 := hc 5 _ (by decide) rfl
              have n6 := hc 6 _ (by decide) rfl
              have n7 := hc 7 _ (by decide) rfl
              have n8 := hc 8 _ (by decide) rfl
              have n9 := hc 9 _ (by decide) rfl
              have n10 := hc 10 _ (by decide) rfl
              have n11 := hc 11 _ (by decide) rfl
              simp only [Nat.zero_mul, Nat.zero_add] at n0 n1 n2 n3 n4 n5 n6 n7 n8 n9 n10 n11
              clear hc he
              have hsz := HW3.out.size
              go_wp2_with (at_builtin; go_must (refine app1 _ _ OA3.out (Below.refl W.heap.size w3) (Nat.le_refl _) hsz under_entry info_entry rfl (by decide) rfl (one12 _ _ _ _ _ _ _ _ _ _ _ _) (by omega) (by omega) rfl rfl rfl rfl ?_))
              intro g' cap' w9 ho9 hb9 hg9 hor9
              have H9 := Lib.hid (HW3.out.trans hb9)
              have O9 := Lib.hid ho9
              clear hb9 hg9 hor9 ho9
              clear n0 n1 n2 n3 n4 n5 n6 n7 n8 n9 n10 n11
              go_wp2
              go_ret
              exact ⟨_, out ++ [e], rfl, own_snoc1 ho1.out (own_mono O9.out hww), snoc_small ho2.out HES.out, by have := ho1.out; simp; omega, HB0.out.trans (H9.out.mono hww)⟩
            · have t9 : (z == 0) = false := by simpa using hz0
              go_wp2
              go_ret
              exact ⟨_, out, rfl, own_len ho1.out (own_mono OA3.out hww), ho2.out, by have := ho1.out; omega, HB0.out.trans (HW3.out.mono hww)⟩
        · go_wp2_with fail
          have ho1 := HR
          have ho2 := HOS
          refine (next_any _ g 9 rest wr SR0.out (by omega) (by omega)).mono ?_
          rintro _ w3 ⟨rfl, ho, hs3⟩
          obtain ⟨z, hz⟩ : ∃ y, nxt 9 (rest) = y := ⟨_, rfl⟩
          rw [hz]
          clear hz
          have OA3 := Lib.hid (own_only OA0.out SR0.out (by decide) ho)
          have HW3 := Lib.hid (below_only HW0.out ho hge HW0.out.size)
          have SR3 := Lib.hid hs3
          clear ho hs3
          by_cases hz0 : z = 0
          · subst hz0
            obtain ⟨e, he, hc⟩ := own_ent OA3.out ho1.out 0 h0
            have HES := Lib.hid (ho2.out e he)
            have n0 := hc 0 _ (by decide) rfl
            have n1 := hc 1 _ (by decide) rfl
            have n2 := hc 2 _ (by decide) rfl
            have n3 := hc 3 _ (by decide) rfl
            have n4 := hc 4 _ (by decide) rfl
            have n5 := hc 5 _ (by decide) rfl
            have n6 := hc 6 _ (by decide) rfl
            have n7 := hc 7 _ (by decide) rfl
            have n8 := hc 8 _ (by decide) rfl
            have n9 := hc 9 _ (by decide) rfl
            have n10 := hc 10 _ (by decide) rfl
            have n11 := hc 11 _ (by decide) rfl
            simp only [Nat.zero_mul, Nat.zero_add] at n0 n1 n2 n3 n4 n5 n6 n7 n8 n9 n10 n11
            clear hc he
            have hsz := HW3.out.size
            go_wp2_with (at_builtin; go_must (refine app1 _ _ OA3.out (Below.refl W.heap.size w3) (Nat.le_refl _) hsz under_entry info_entry rfl (by decide) rfl (one12 _ _ _ _ _ _ _ _ _ _ _ _) (by omega) (by omega) rfl rfl rfl rfl ?_))
            intro g' cap' w9 ho9 hb9 hg9 hor9
            have H9 := Lib.hid (HW3.out.trans hb9)
            have O9 := Lib.hid ho9
            clear hb9 hg9 hor9 ho9
            clear n0 n1 n2 n3 n4 n5 n6 n7 n8 n9 n10 n11
            go_wp2
            go_ret
            exact ⟨_, out ++ [e], rfl, own_snoc1 ho1.out (own_mono O9.out hww), snoc_small ho2.out HES.out, by have := ho1.out; simp; omega, HB0.out.trans (H9.out.mono hww)⟩
          · have t9 : (z == 0) = false := by simpa using hz0
            go_wp2
            go_ret
            exact ⟨_, out, rfl, own_len ho1.out (own_mono OA3.out hww), ho2.out, by have := ho1.out; omega, HB0.out.trans (HW3.out.mono hww)⟩
      · have hR0 : R = 0 := by omega
        subst hR0
        go_wp2
        go_ret
        exact ⟨_, out, rfl, own_len HR.out (own_mono OA0.out hww), HOS.out, by have := HR.out; omega, HB0.out.trans (HW0.out.mono hww)⟩
end Go.Proofs.Ytoikgjhekemjdaa
