/-
  The contracts of snapshot.Check and ref18.CheckSnapshot.
-/
import Derived.Test.YtoikgjhekemjdaaEntries
namespace Go.Proofs.Ytoikgjhekemjdaa
open Go.RowKit Go.Sort
def HeadOk (x q n : Int) (len : Nat) : Prop := 0 ≤ x ∧ x ≤ 2147483647 ∧ 0 ≤ q ∧ q ≤ 1099511627777 ∧ 1 ≤ n ∧ n ≤ 2147483647 ∧ len ≤ 256
theorem headB_of {x q n : Int} {len : Nat} (h : HeadOk x q n len) : headB x q n len = true := by
  obtain ⟨h1, h2, h3, h4, h5, h6, h7⟩ := h
  simp [headB, *]
theorem headB_not {x q n : Int} {len : Nat} (h : ¬HeadOk x q n len) : headB x q n len = false := by
  cases hb : headB x q n len with
  | false => rfl
  | true =>
    refine absurd ?_ h
    simp only [headB, Bool.and_eq_true, decide_eq_true_eq] at hb
    obtain ⟨⟨⟨⟨⟨⟨h1, h2⟩, h3⟩, h4⟩, h5⟩, h6⟩, h7⟩ := hb
    exact ⟨h1, h2, h3, h4, h5, h6, h7⟩
theorem snapB_head {x q n : Int} {l : List Ent} (h : ¬HeadOk x q n l.length) : snapB x q n l = false := by unfold snapB; rw [headB_not h]; rfl
def goodAt (q n : Int) (l : List Ent) (k : Nat) : Bool := okAt l k && underAt q n l k
theorem snapB_good {x q n : Int} {l : List Ent} (h : HeadOk x q n l.length) {t : Bool} (ht : allTo (goodAt q n l) l.length = t) : snapB x q n l = t := by
  unfold snapB; rw [headB_of h, Bool.true_and, entsB, ← allTo_and]; exact ht
theorem goodAt_of {q n : Int} {l : List Ent} {k : Nat} {a b : Bool} (h1 : okAt l k = a) (h2 : underAt q n l k = b) : goodAt q n l k = (a && b) := by unfold goodAt; rw [h1, h2]
theorem under_of {q n : Int} {l : List Ent} {k : Nat} {e : Ent} (he : l[k]? = some e) {t : Bool} (h : e.underB q n = t) : underAt q n l k = t := by rw [underAt_get he, h]
set_option maxRecDepth 100000 in
set_option maxHeartbeats 8000000 in
theorem snapCheck_any (x q n : Int) (v : Value) (l : List Ent) (w : World) (hs : Sl w 12 v l.length (ents l)) (hw : ∀ e ∈ l, e.small) (hl : l.length ≤ 9223372036854775807) :
    Calls Try.prog 21 #[.agg #[.int .i64 x, .int .i64 q, .int .i64 n, v]] w (RetB1' w (snapB x q n l)) := by
  obtain ⟨A, c, rfl, hc1, hc2⟩ := hs.form
  unfold maxLen at hc2
  by_cases hH : HeadOk x q n l.length
  case neg =>
    have HF := Lib.hid (show snapB x q n l = false from snapB_head hH)
    have HH := Lib.hid hH
    clear hH
    go_enter Try.func21, Try.ntmps21
    go_wp2
    all_goals first | (go_ret; exact ⟨ret_bool HF.out.symm, abel _ _⟩) | (exfalso; exact HH.out ⟨by omega, by omega, by omega, by omega, by omega, by omega, by omega⟩)
  case pos =>
  have HH := Lib.hid hH
  obtain ⟨g1, g2, g3, g4, g5, g6, g7⟩ := hH
  obtain ⟨w0, hw0⟩ : ∃ w0, w0 = w.alloc (.cells #[.int .i64 x, .int .i64 q, .int .i64 n, .slice A l.length c] 24) := ⟨_, rfl⟩
  have HB0 := Lib.hid (show Below w.heap.size w w0 by rw [hw0]; exact abel _ _)
  have HK0 := Lib.hid (show Blk w0 w.heap.size 24 #[.int .i64 x, .int .i64 q, .int .i64 n, .slice A l.length c] by rw [hw0]; exact Blk.new _ _ _)
  have z1 : decide (x < 0) = false := by simp; omega
  have z2 : decide (2147483647 < x) = false := by simp; omega
  have z3 : decide (q < 0) = false := by simp; omega
  have z4 : decide (1099511627777 < q) = false := by simp; omega
  have z5 : decide (n < 1) = false := by simp; omega
  have z6 : decide (2147483647 < n) = false := by simp; omega
  have z7 : decide ((256 : Int) < (l.length : Int)) = false := by simp; omega
  go_enter Try.func21, Try.ntmps21
  go_wp2
  rw [← hw0]
  clear hw0
  go_loopw [42] (fun i wr => ∃ k : Nat, i = .int .i64 k ∧ k ≤ l.length ∧ allTo (goodAt q n l) k = true ∧ Below w.heap.size w wr ∧ Blk wr w.heap.size 24 #[.int .i64 x, .int .i64 q, .int .i64 n, .slice A l.length c]) (fun i _ => l.length - (intOf i).toNat)
  case atStart => exact ⟨0, rfl, Nat.zero_le _, rfl, HB0.out, HK0.out⟩
  case round =>
    obtain ⟨k, rfl, hk, hall, hb, hK⟩ := hrel
    clear g1 g2 g3 g4 g5 g6 g7 z1 z2 z3 z4 z5 z6 z7
    by_cases hlt : k < l.length
    · obtain ⟨ad, e, p, rfl, he, hp, hE⟩ := (hs.below hb).ent_load rfl hlt
      have HA := Lib.hid hall
      have HB := Lib.hid hb
      have HK := Lib.hid hK
      obtain ⟨hplt, c0, c1, c2, c3, c4, c5, c6, c7, c8, c9, c10, c11⟩ := hE
      clear hall hb hK
      have hesm := hw e (List.mem_of_getElem? he)
      obtain ⟨W, hW⟩ : ∃ W, W = wr.alloc (.cells e.cells.toArray 34) := ⟨_, rfl⟩
      have HBW := Lib.hid (show Below w.heap.size w W by rw [hW]; exact HB.out.alloc HB.out.size _)
      have HKW := Lib.hid (show Blk W w.heap.size 24 #[.int .i64 x, .int .i64 q, .int .i64 n, .slice (some ad) l.length c] by rw [hW]; exact HK.out.alloc _)
      have hE2 : EntAt W ⟨wr.heap.size, 0, none⟩ e := EntAt.of_blk (by rw [hW]; exact Blk.new _ _ _)
      have f0 := fun d os => (hE2.regrown d os).c0
      have f1 := fun d os => (hE2.regrown d os).c1
      have f2 := fun d os => (hE2.regrown d os).c2
      have f3 := fun d os => (hE2.regrown d os).c3
      have f4 := fun d os => (hE2.regrown d os).c4
      have f5 := fun d os => (hE2.regrown d os).c5
      have f6 := fun d os => (hE2.regrown d os).c6
      have f7 := fun d os => (hE2.regrown d os).c7
      have f8 := fun d os => (hE2.regrown d os).c8
      have f9 := fun d os => (hE2.regrown d os).c9
      have f10 := fun d os => (hE2.regrown d os).c10
      have f11 := fun d os => (hE2.regrown d os).c11
      have k1 := cell_regrown (HKW.out.cell 1)
      have k2 := cell_regrown (HKW.out.cell 2)
      have k3 := cell_regrown (HKW.out.cell 3)
      clear hE2
      by_cases hok : e.okB = true
      · have A1 := Lib.hid (reg_bb (w := W) (fun X => entry_b e hesm hok X))
        rcases k with _ | m
        · by_cases u1 : e.id < n
          · have du1 : decide (n ≤ e.id) = false := by simp; omega
            by_cases u2 : e.del < n
            · have du2 : decide (n ≤ e.del) = false := by simp; omega
              by_cases u3 : e.lo.seq < q
              · have du3 : decide (q ≤ e.lo.seq) = false := by simp; omega
                by_cases u4 : e.hi.seq < q
                · have du4 : decide (q ≤ e.hi.seq) = false := by simp; omega
                  have HN := Lib.hid (allTo_next HA.out (goodAt_of (okAt_first he hok) (under_of he (t := true) (by simp [Ent.underB, *]))))
                  clear hok he
                  unfold Ent.cells at hW
                  go_wp2_with fail
                  rw [← hW]
                  clear hW
                  refine wp_region_quiet_below (by kernel_rfl) (by kernel_rfl) ?_
                  repeat (go_big_quiet_step ((first | (with_reducible exact A1.out _ _))))
                  refine wpQuiet_nil ?_
                  intro _ hw'
                  obtain ⟨⟨dq, osq⟩, hw''⟩ := hw'
                  subst hw''
                  go_wp2
                  go_roundw
                  case rel => exact ⟨1, by go_num, by omega, HN.out, bst HBW.out (below_regrown W dq osq), HKW.out.below (below_regrown W dq osq) HKW.out.lt⟩
                  case measure => simp [intOf]; omega
                · have HN := Lib.hid (show snapB x q n l = false from snapB_good HH.out (allTo_false hlt (goodAt_of (okAt_first he hok) (under_of he (t := false) (by simp [Ent.underB, *] <;> omega)))))
                  have du4 : decide (q ≤ e.hi.seq) = true := by simp; omega
                  clear hok he
                  unfold Ent.cells at hW
                  go_wp2_with fail
                  rw [← hW]
                  clear hW
                  refine wp_region_quiet_below (by kernel_rfl) (by kernel_rfl) ?_
                  repeat (go_big_quiet_step ((first | (with_reducible exact A1.out _ _))))
                  refine wpQuiet_nil ?_
                  intro _ hw'
                  obtain ⟨⟨dq, osq⟩, hw''⟩ := hw'
                  subst hw''
                  go_wp2
                  go_ret
                  exact ⟨ret_bool HN.out.symm, bst HBW.out (below_regrown W dq osq)⟩
              · have HN := Lib.hid (show snapB x q n l = false from snapB_good HH.out (allTo_false hlt (goodAt_of (okAt_first he hok) (under_of he (t := false) (by simp [Ent.underB, *] <;> omega)))))
                have du3 : decide (q ≤ e.lo.seq) = true := by simp; omega
                clear hok he
                unfold Ent.cells at hW
                go_wp2_with fail
                rw [← hW]
                clear hW
                refine wp_region_quiet_below (by kernel_rfl) (by kernel_rfl) ?_
                repeat (go_big_quiet_step ((first | (with_reducible exact A1.out _ _))))
                refine wpQuiet_nil ?_
                intro _ hw'
                obtain ⟨⟨dq, osq⟩, hw''⟩ := hw'
                subst hw''
                go_wp2
                go_ret
                exact ⟨ret_bool HN.out.symm, bst HBW.out (below_regrown W dq osq)⟩
            · have HN := Lib.hid (show snapB x q n l = false from snapB_good HH.out (allTo_false hlt (goodAt_of (okAt_first he hok) (under_of he (t := false) (by simp [Ent.underB, *] <;> omega)))))
              have du2 : decide (n ≤ e.del) = true := by simp; omega
              clear hok he
              unfold Ent.cells at hW
              go_wp2_with fail
              rw [← hW]
              clear hW
              refine wp_region_quiet_below (by kernel_rfl) (by kernel_rfl) ?_
              repeat (go_big_quiet_step ((first | (with_reducible exact A1.out _ _))))
              refine wpQuiet_nil ?_
              intro _ hw'
              obtain ⟨⟨dq, osq⟩, hw''⟩ := hw'
              subst hw''
              go_wp2
              go_ret
              exact ⟨ret_bool HN.out.symm, bst HBW.out (below_regrown W dq osq)⟩
          · have HN := Lib.hid (show snapB x q n l = false from snapB_good HH.out (allTo_false hlt (goodAt_of (okAt_first he hok) (under_of he (t := false) (by simp [Ent.underB, *] <;> omega)))))
            have du1 : decide (n ≤ e.id) = true := by simp; omega
            clear hok he
            unfold Ent.cells at hW
            go_wp2_with fail
            rw [← hW]
            clear hW
            refine wp_region_quiet_below (by kernel_rfl) (by kernel_rfl) ?_
            repeat (go_big_quiet_step ((first | (with_reducible exact A1.out _ _))))
            refine wpQuiet_nil ?_
            intro _ hw'
            obtain ⟨⟨dq, osq⟩, hw''⟩ := hw'
            subst hw''
            go_wp2
            go_ret
            exact ⟨ret_bool HN.out.symm, bst HBW.out (below_regrown W dq osq)⟩
        · obtain ⟨ad', a, p', hA', ha, hp', hE'⟩ := (hs.below HB.out).ent_load rfl (show m < l.length by omega)
          cases hA'
          have hE3 : EntAt W p' a := by rw [hW]; exact hE'.below ((Below.refl _ _).alloc (Nat.le_refl _) _)
          have g0 := fun d os => (hE3.regrown d os).c0
          clear hE' hE3
          by_cases hlt2 : a.id < e.id
          · have dasc : decide (e.id ≤ a.id) = false := by simp; omega
            by_cases u1 : e.id < n
            · have du1 : decide (n ≤ e.id) = false := by simp; omega
              by_cases u2 : e.del < n
              · have du2 : decide (n ≤ e.del) = false := by simp; omega
                by_cases u3 : e.lo.seq < q
                · have du3 : decide (q ≤ e.lo.seq) = false := by simp; omega
                  by_cases u4 : e.hi.seq < q
                  · have du4 : decide (q ≤ e.hi.seq) = false := by simp; omega
                    have HN := Lib.hid (allTo_next HA.out (goodAt_of (okAt_asc ha he hok (t := true) (by simpa using hlt2)) (under_of he (t := true) (by simp [Ent.underB, *]))))
                    clear hok he ha
                    unfold Ent.cells at hW
                    go_wp2_with fail
                    rw [← hW]
                    clear hW
                    refine wp_region_quiet_below (by kernel_rfl) (by kernel_rfl) ?_
                    repeat (go_big_quiet_step ((first | (with_reducible exact A1.out _ _))))
                    refine wpQuiet_nil ?_
                    intro _ hw'
                    obtain ⟨⟨dq, osq⟩, hw''⟩ := hw'
                    subst hw''
                    go_wp2
                    go_roundw
                    case rel => exact ⟨m + 2, by go_num, by omega, HN.out, bst HBW.out (below_regrown W dq osq), HKW.out.below (below_regrown W dq osq) HKW.out.lt⟩
                    case measure => simp [intOf]; omega
                  · have HN := Lib.hid (show snapB x q n l = false from snapB_good HH.out (allTo_false hlt (goodAt_of (okAt_asc ha he hok (t := true) (by simpa using hlt2)) (under_of he (t := false) (by simp [Ent.underB, *] <;> omega)))))
                    have du4 : decide (q ≤ e.hi.seq) = true := by simp; omega
                    clear hok he ha
                    unfold Ent.cells at hW
                    go_wp2_with fail
                    rw [← hW]
                    clear hW
                    refine wp_region_quiet_below (by kernel_rfl) (by kernel_rfl) ?_
                    repeat (go_big_quiet_step ((first | (with_reducible exact A1.out _ _))))
                    refine wpQuiet_nil ?_
                    intro _ hw'
                    obtain ⟨⟨dq, osq⟩, hw''⟩ := hw'
                    subst hw''
                    go_wp2
                    go_ret
                    exact ⟨ret_bool HN.out.symm, bst HBW.out (below_regrown W dq osq)⟩
                · have HN := Lib.hid (show snapB x q n l = false from snapB_good HH.out (allTo_false hlt (goodAt_of (okAt_asc ha he hok (t := true) (by simpa using hlt2)) (under_of he (t := false) (by simp [Ent.underB, *] <;> omega)))))
                  have du3 : decide (q ≤ e.lo.seq) = true := by simp; omega
                  clear hok he ha
                  unfold Ent.cells at hW
                  go_wp2_with fail
                  rw [← hW]
                  clear hW
                  refine wp_region_quiet_below (by kernel_rfl) (by kernel_rfl) ?_
                  repeat (go_big_quiet_step ((first | (with_reducible exact A1.out _ _))))
                  refine wpQuiet_nil ?_
                  intro _ hw'
                  obtain ⟨⟨dq, osq⟩, hw''⟩ := hw'
                  subst hw''
                  go_wp2
                  go_ret
                  exact ⟨ret_bool HN.out.symm, bst HBW.out (below_regrown W dq osq)⟩
              · have HN := Lib.hid (show snapB x q n l = false from snapB_good HH.out (allTo_false hlt (goodAt_of (okAt_asc ha he hok (t := true) (by simpa using hlt2)) (under_of he (t := false) (by simp [Ent.underB, *] <;> omega)))))
                have du2 : decide (n ≤ e.del) = true := by simp; omega
                clear hok he ha
                unfold Ent.cells at hW
                go_wp2_with fail
                rw [← hW]
                clear hW
                refine wp_region_quiet_below (by kernel_rfl) (by kernel_rfl) ?_
                repeat (go_big_quiet_step ((first | (with_reducible exact A1.out _ _))))
                refine wpQuiet_nil ?_
                intro _ hw'
                obtain ⟨⟨dq, osq⟩, hw''⟩ := hw'
                subst hw''
                go_wp2
                go_ret
                exact ⟨ret_bool HN.out.symm, bst HBW.out (below_regrown W dq osq)⟩
            · have HN := Lib.hid (show snapB x q n l = false from snapB_good HH.out (allTo_false hlt (goodAt_of (okAt_asc ha he hok (t := true) (by simpa using hlt2)) (under_of he (t := false) (by simp [Ent.underB, *] <;> omega)))))
              have du1 : decide (n ≤ e.id) = true := by simp; omega
              clear hok he ha
              unfold Ent.cells at hW
              go_wp2_with fail
              rw [← hW]
              clear hW
              refine wp_region_quiet_below (by kernel_rfl) (by kernel_rfl) ?_
              repeat (go_big_quiet_step ((first | (with_reducible exact A1.out _ _))))
              refine wpQuiet_nil ?_
              intro _ hw'
              obtain ⟨⟨dq, osq⟩, hw''⟩ := hw'
              subst hw''
              go_wp2
              go_ret
              exact ⟨ret_bool HN.out.symm, bst HBW.out (below_regrown W dq osq)⟩
          · have HN := Lib.hid (show snapB x q n l = false from snapB_good HH.out (allTo_false hlt (goodAt_of (okAt_asc ha he hok (t := false) (by simpa using hlt2)) rfl)))
            clear hok he ha
            unfold Ent.cells at hW
            go_wp2_with fail
            rw [← hW]
            clear hW
            refine wp_region_quiet_below (by kernel_rfl) (by kernel_rfl) ?_
            repeat (go_big_quiet_step ((first | (with_reducible exact A1.out _ _))))
            refine wpQuiet_nil ?_
            intro _ hw'
            obtain ⟨⟨dq, osq⟩, hw''⟩ := hw'
            subst hw''
            go_wp2
            go_ret
            exact ⟨ret_bool HN.out.symm, bst HBW.out (below_regrown W dq osq)⟩
      · have hok' : e.okB = false := by simpa using hok
        have A1 := Lib.hid (reg_bb (w := W) (fun X => entry_b e hesm hok' X))
        have HN := Lib.hid (show snapB x q n l = false from snapB_good HH.out (allTo_false hlt (goodAt_of (okAt_false he hok') rfl)))
        clear hok hok' he
        unfold Ent.cells at hW
        go_wp2_with fail
        rw [← hW]
        clear hW
        refine wp_region_quiet_below (by kernel_rfl) (by kernel_rfl) ?_
        repeat (go_big_quiet_step ((first | (with_reducible exact A1.out _ _))))
        refine wpQuiet_nil ?_
        intro _ hw'
        obtain ⟨⟨dq, osq⟩, hw''⟩ := hw'
        subst hw''
        go_wp2
        go_ret
        exact ⟨ret_bool HN.out.symm, bst HBW.out (below_regrown W dq osq)⟩
    · obtain rfl : k = l.length := by omega
      have HN := Lib.hid (show snapB x q n l = true from snapB_good HH.out hall)
      have HB := Lib.hid hb
      clear hall hb hK
      go_wp2
      go_ret
      exact ⟨ret_bool HN.out.symm, HB.out⟩
end Go.Proofs.Ytoikgjhekemjdaa
