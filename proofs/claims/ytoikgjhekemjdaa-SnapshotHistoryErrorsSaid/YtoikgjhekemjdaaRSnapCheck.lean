/-
  The contract of ref18.CheckSnapshot.
-/
import Derived.Test.YtoikgjhekemjdaaSnapCheck
namespace Go.Proofs.Ytoikgjhekemjdaa
open Go.RowKit Go.Sort
theorem in_b (n lo hi : Int) {b : Bool} (hb : inB n lo hi = b) (w : World) : Calls Try.prog 70 #[.int .i64 n, .int .i64 lo, .int .i64 hi] w fun e w' => e = .returned (.bool b) ∧ w = w' := by subst hb; exact in_any n lo hi w
theorem rentries_b (v : Value) (l : List Ent) {b : Bool} (hb : entsB l = b) (w : World) (hs : Sl w 12 v l.length (ents l)) (hw : ∀ e ∈ l, e.small) (hl : l.length ≤ 9223372036854775807) : Calls Try.prog 71 #[v] w (RetB1' w b) := by subst hb; exact rentries_any v l w hs hw hl
theorem snapB_ents {x q n : Int} {l : List Ent} (h : entsB l = false) : snapB x q n l = false := by simp [snapB, h]
theorem snapB_under {x q n : Int} {l : List Ent} (h : HeadOk x q n l.length) (he : entsB l = true) {t : Bool} (ht : allTo (underAt q n l) l.length = t) : snapB x q n l = t := by
  unfold snapB; rw [headB_of h, he, ht]; rfl
set_option maxRecDepth 100000 in
set_option maxHeartbeats 8000000 in
theorem rsnapCheck_any (x q n : Int) (v : Value) (l : List Ent) (w : World) (hs : Sl w 12 v l.length (ents l)) (hw : ∀ e ∈ l, e.small) (hl : l.length ≤ 9223372036854775807) :
    Calls Try.prog 47 #[.agg #[.int .i64 x, .int .i64 q, .int .i64 n, v]] w (RetB1' w (snapB x q n l)) := by
  obtain ⟨A, c, rfl, hc1, hc2⟩ := hs.form
  unfold maxLen at hc2
  by_cases h0 : 0 ≤ x ∧ x ≤ 2147483647
  · have I1 := Lib.hid (fun X => in_b x 0 2147483647 (b := true) (by simp [inB]; omega) X)
    by_cases h1 : 0 ≤ q
    · have z2 : decide (q < 0) = false := by simp; omega
      by_cases h2 : q ≤ 1099511627777
      · have z3 : decide (1099511627777 < q) = false := by simp; omega
        by_cases h3 : 1 ≤ n ∧ n ≤ 2147483647
        · have I2 := Lib.hid (fun X => in_b n 1 2147483647 (b := true) (by simp [inB]; omega) X)
          by_cases h4 : l.length ≤ 256
          · have z5 : decide ((256 : Int) < (l.length : Int)) = false := by simp; omega
            have HH := Lib.hid (show HeadOk x q n l.length from ⟨h0.1, h0.2, h1, h2, h3.1, h3.2, h4⟩)
            obtain ⟨w0, hw0⟩ : ∃ w0, w0 = w.alloc (.cells #[.int .i64 x, .int .i64 q, .int .i64 n, .slice A l.length c] 24) := ⟨_, rfl⟩
            have HB0 := Lib.hid (show Below w.heap.size w w0 by rw [hw0]; exact abel _ _)
            have HK0 := Lib.hid (show Blk w0 w.heap.size 24 #[.int .i64 x, .int .i64 q, .int .i64 n, .slice A l.length c] by rw [hw0]; exact Blk.new _ _ _)
            have y0 := HK0.out.cell 0
            have y1 := HK0.out.cell 1
            have y2 := HK0.out.cell 2
            have y3 := HK0.out.cell 3
            simp only [List.getElem?_toArray, List.getElem?_cons_zero, List.getElem?_cons_succ] at y0 y1 y2 y3
            by_cases hE0 : entsB l = true
            · have E1 := Lib.hid (rentries_b (.slice A l.length c) l hE0 w0 (hs.below HB0.out) hw hl)
              have HE := Lib.hid hE0
              have HZ := Lib.hid hs
              clear hs hE0 h0 h1 h2 h3
              go_enter Try.func47, Try.ntmps47
              go_wp2_with fail
              rw [← hw0]
              clear hw0
              refine (I1.out _).mono ?_
              rintro _ _ ⟨rfl, rfl⟩
              go_wp2_with fail
              refine (I2.out _).mono ?_
              rintro _ _ ⟨rfl, rfl⟩
              go_wp2_with fail
              refine E1.out.mono ?_
              rintro _ w1 ⟨rfl, hb1⟩
              have HB1 := Lib.hid (bst HB0.out hb1)
              have HK1 := Lib.hid (HK0.out.below hb1 HK0.out.lt)
              have y4 := HK1.out.cell 3
              simp only [List.getElem?_toArray, List.getElem?_cons_zero, List.getElem?_cons_succ] at y4
              clear hb1 y0 y1 y2 y3
              go_wp2
              clear z2 z3 z5 h4 y4
              go_loopw [40] (fun i wr => ∃ k : Nat, i = .int .i64 k ∧ k ≤ l.length ∧ allTo (underAt q n l) k = true ∧ Below w.heap.size w wr ∧ Blk wr w.heap.size 24 #[.int .i64 x, .int .i64 q, .int .i64 n, .slice A l.length c]) (fun i _ => l.length - (intOf i).toNat)
              case atStart => exact ⟨0, rfl, Nat.zero_le _, rfl, HB1.out, HK1.out⟩
              case round =>
                obtain ⟨k, rfl, hk, hall, hb, hK⟩ := hrel
                by_cases hlt : k < l.length
                · obtain ⟨ad, e, p, rfl, he, hp, hE⟩ := (HZ.out.below hb).ent_load rfl hlt
                  have HA := Lib.hid hall
                  have HB := Lib.hid hb
                  have HK := Lib.hid hK
                  obtain ⟨hplt, c0, c1, c2, c3, c4, c5, c6, c7, c8, c9, c10, c11⟩ := hE
                  have y0 := hK.cell 0
                  have y1 := hK.cell 1
                  have y2 := hK.cell 2
                  have y3 := hK.cell 3
                  simp only [List.getElem?_toArray, List.getElem?_cons_zero, List.getElem?_cons_succ] at y0 y1 y2 y3
                  have ywlt := hK.lt
                  clear hall hb hK
                  by_cases u1 : e.id < n
                  · have du1 : decide (n ≤ e.id) = false := by simp; omega
                    by_cases u2 : e.del < n
                    · have du2 : decide (n ≤ e.del) = false := by simp; omega
                      by_cases u3 : e.lo.seq < q
                      · have du3 : decide (q ≤ e.lo.seq) = false := by simp; omega
                        by_cases u4 : e.hi.seq < q
                        · have du4 : decide (q ≤ e.hi.seq) = false := by simp; omega
                          have HN := Lib.hid (allTo_next HA.out (under_of he (t := true) (by simp [Ent.underB, *])))
                          clear he u1 u2 u3 u4
                          go_wp2
                          go_roundw
                          case rel => exact ⟨k + 1, by go_num, by omega, HN.out, HB.out.alloc HB.out.size _, HK.out.alloc _⟩
                          case measure => simp [intOf]; omega
                        · have du4 : decide (q ≤ e.hi.seq) = true := by simp; omega
                          have HN := Lib.hid (show snapB x q n l = false from snapB_under HH.out HE.out (allTo_false hlt (under_of he (t := false) (by simp [Ent.underB, *] <;> omega))))
                          clear he u1 u2 u3 u4
                          go_wp2
                          go_ret
                          exact ⟨ret_bool HN.out.symm, HB.out.alloc HB.out.size _⟩
                      · have du3 : decide (q ≤ e.lo.seq) = true := by simp; omega
                        have HN := Lib.hid (show snapB x q n l = false from snapB_under HH.out HE.out (allTo_false hlt (under_of he (t := false) (by simp [Ent.underB, *] <;> omega))))
                        clear he u1 u2 u3
                        go_wp2
                        go_ret
                        exact ⟨ret_bool HN.out.symm, HB.out.alloc HB.out.size _⟩
                    · have du2 : decide (n ≤ e.del) = true := by simp; omega
                      have HN := Lib.hid (show snapB x q n l = false from snapB_under HH.out HE.out (allTo_false hlt (under_of he (t := false) (by simp [Ent.underB, *] <;> omega))))
                      clear he u1 u2
                      go_wp2
                      go_ret
                      exact ⟨ret_bool HN.out.symm, HB.out.alloc HB.out.size _⟩
                  · have du1 : decide (n ≤ e.id) = true := by simp; omega
                    have HN := Lib.hid (show snapB x q n l = false from snapB_under HH.out HE.out (allTo_false hlt (under_of he (t := false) (by simp [Ent.underB, *] <;> omega))))
                    clear he u1
                    go_wp2
                    go_ret
                    exact ⟨ret_bool HN.out.symm, HB.out.alloc HB.out.size _⟩
                · obtain rfl : k = l.length := by omega
                  have HN := Lib.hid (show snapB x q n l = true from snapB_under HH.out HE.out hall)
                  have HB := Lib.hid hb
                  clear hall hb hK
                  go_wp2
                  go_ret
                  exact ⟨ret_bool HN.out.symm, HB.out⟩
            · have hE1 : entsB l = false := by simpa using hE0
              have E1 := Lib.hid (rentries_b (.slice A l.length c) l hE1 w0 (hs.below HB0.out) hw hl)
              have HF := Lib.hid (show snapB x q n l = false from snapB_ents hE1)
              clear hs hE0 hE1 h0 h1 h2 h3
              go_enter Try.func47, Try.ntmps47
              go_wp2_with fail
              rw [← hw0]
              clear hw0
              refine (I1.out _).mono ?_
              rintro _ _ ⟨rfl, rfl⟩
              go_wp2_with fail
              refine (I2.out _).mono ?_
              rintro _ _ ⟨rfl, rfl⟩
              go_wp2_with fail
              refine E1.out.mono ?_
              rintro _ w1 ⟨rfl, hb1⟩
              have HB1 := Lib.hid (bst HB0.out hb1)
              clear hb1
              go_wp2
              go_ret
              exact ⟨ret_bool HF.out.symm, HB1.out⟩
          · have HF := Lib.hid (show snapB x q n l = false from snapB_head (fun h => by obtain ⟨h1, h2, h3, h4, h5, h6, h7⟩ := h; omega))
            have z5 : decide ((256 : Int) < (l.length : Int)) = true := by simp; omega
            clear hs hw
            go_enter Try.func47, Try.ntmps47
            go_wp2_with (first
              | (with_reducible refine (I1.out _).mono ?_; rintro _ _ ⟨rfl, rfl⟩)
              | (with_reducible refine (I2.out _).mono ?_; rintro _ _ ⟨rfl, rfl⟩))
            go_ret
            exact ⟨ret_bool HF.out.symm, abel _ _⟩
        · have HF := Lib.hid (show snapB x q n l = false from snapB_head (fun h => by obtain ⟨h1, h2, h3, h4, h5, h6, h7⟩ := h; omega))
          have I2 := Lib.hid (fun X => in_b n 1 2147483647 (b := false) (by simp [inB]; omega) X)
          clear hs hw
          go_enter Try.func47, Try.ntmps47
          go_wp2_with (first
            | (with_reducible refine (I1.out _).mono ?_; rintro _ _ ⟨rfl, rfl⟩)
            | (with_reducible refine (I2.out _).mono ?_; rintro _ _ ⟨rfl, rfl⟩))
          go_ret
          exact ⟨ret_bool HF.out.symm, abel _ _⟩
      · have HF := Lib.hid (show snapB x q n l = false from snapB_head (fun h => by obtain ⟨h1, h2, h3, h4, h5, h6, h7⟩ := h; omega))
        have z3 : decide (1099511627777 < q) = true := by simp; omega
        have I2 := I1
        clear hs hw
        go_enter Try.func47, Try.ntmps47
        go_wp2_with (first
          | (with_reducible refine (I1.out _).mono ?_; rintro _ _ ⟨rfl, rfl⟩)
          | (with_reducible refine (I2.out _).mono ?_; rintro _ _ ⟨rfl, rfl⟩))
        go_ret
        exact ⟨ret_bool HF.out.symm, abel _ _⟩
    · have HF := Lib.hid (show snapB x q n l = false from snapB_head (fun h => by obtain ⟨h1, h2, h3, h4, h5, h6, h7⟩ := h; omega))
      have z2 : decide (q < 0) = true := by simp; omega
      have I2 := I1
      clear hs hw
      go_enter Try.func47, Try.ntmps47
      go_wp2_with (first
        | (with_reducible refine (I1.out _).mono ?_; rintro _ _ ⟨rfl, rfl⟩)
        | (with_reducible refine (I2.out _).mono ?_; rintro _ _ ⟨rfl, rfl⟩))
      go_ret
      exact ⟨ret_bool HF.out.symm, abel _ _⟩
  · have HF := Lib.hid (show snapB x q n l = false from snapB_head (fun h => by obtain ⟨h1, h2, h3, h4, h5, h6, h7⟩ := h; omega))
    have I1 := Lib.hid (fun X => in_b x 0 2147483647 (b := false) (by simp [inB]; omega) X)
    have I2 := I1
    clear hs hw
    go_enter Try.func47, Try.ntmps47
    go_wp2_with (first
      | (with_reducible refine (I1.out _).mono ?_; rintro _ _ ⟨rfl, rfl⟩)
      | (with_reducible refine (I2.out _).mono ?_; rintro _ _ ⟨rfl, rfl⟩))
    go_ret
    exact ⟨ret_bool HF.out.symm, abel _ _⟩
end Go.Proofs.Ytoikgjhekemjdaa
