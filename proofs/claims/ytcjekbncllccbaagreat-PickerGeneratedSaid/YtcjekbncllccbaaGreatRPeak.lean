/-
  The contracts of ref27.Peak and Pick.
-/
import Derived.Test.YtcjekbncllccbaaGreatPickGen
import Derived.Test.YtcjekbncllccbaaGreatRIns
import Derived.Test.YtcjekbncllccbaaGreatPk3
import Derived.Test.YtcjekbncllccbaaGreatPk8
import Derived.Test.YtcjekbncllccbaaGreatInsert
import Derived.Test.YtcjekbncllccbaaGreatPk5
namespace Go.Proofs.YtcjekbncllccbaaGreat
open Go.RowKit Go.Sort

theorem insL_cut : ∀ {l : List Ent} {e : Ent} {k : Nat}, k ≤ l.length → (∀ (j : Nat) (d : Ent), l[j]? = some d → j < k → d.live ≤ e.live) → (∀ d, l[k]? = some d → e.live < d.live) → insL l e = l.take k ++ [e] ++ l.drop k
  | [], e, k, hk, _, _ => by simp at hk; subst hk; rfl
  | x :: r, e, 0, _, _, h2 => by
    have := h2 x rfl
    unfold insL
    rw [List.takeWhile_cons, List.dropWhile_cons]
    have h : ¬ x.live ≤ e.live := by omega
    simp [h]
  | x :: r, e, k + 1, hk, h1, h2 => by
    have hx : x.live ≤ e.live := h1 0 x rfl (by omega)
    have hr := insL_cut (l := r) (e := e) (k := k) (by simpa using hk) (fun j d hd hj => h1 (j + 1) d (by simpa using hd) (by omega)) (fun d hd => h2 d (by simpa using hd))
    unfold insL at hr ⊢
    rw [List.takeWhile_cons, List.dropWhile_cons]
    simp only [hx, decide_true, if_true, List.cons_append, List.take_succ_cons, List.drop_succ_cons]
    rw [hr]
theorem insL_at {l : List Ent} {e : Ent} {k : Nat} (hp : l.Pairwise ltL) (hk : k ≤ l.length) (h1 : ∀ (j : Nat) (d : Ent), l[j]? = some d → k = j + 1 → d.live ≤ e.live) (h2 : ∀ (j : Nat) (d : Ent), l[j]? = some d → k ≤ j → e.live < d.live) : insL l e = l.take k ++ [e] ++ l.drop k := by
  refine insL_cut hk (fun j d hd hj => ?_) (fun d hd => h2 k d hd (Nat.le_refl _))
  obtain ⟨q, rfl⟩ : ∃ q, k = q + 1 := ⟨k - 1, by omega⟩
  have hq := List.getElem?_eq_getElem (show q < l.length by omega)
  have h3 := h1 q _ hq rfl
  rcases Nat.lt_or_ge j q with h | h
  · obtain ⟨hj', ej⟩ := List.getElem?_eq_some_iff.1 hd
    have := List.pairwise_iff_getElem.1 hp j q hj' (by omega) h
    rw [ej] at this
    unfold ltL at this
    omega
  · have : j = q := by omega
    subst this
    rw [hq] at hd
    injection hd with hd
    rw [← hd]; exact h3
theorem chosenL_snoc (a : List Ent) (e : Ent) : chosenL (a ++ [e]) = insL (chosenL a) e := by unfold chosenL; rw [List.foldl_append]; rfl
theorem insL_len (l : List Ent) (e : Ent) : (insL l e).length = l.length + 1 := by
  unfold insL
  have := congrArg List.length (List.takeWhile_append_dropWhile (p := fun x : Ent => decide (x.live ≤ e.live)) (l := l))
  simp only [List.length_append, List.length_singleton] at this ⊢
  omega
theorem sortI_snoc (a : List Int) (x : Int) : sortI (a ++ [x]) = insI (sortI a) x := by unfold sortI; rw [List.foldl_append]; rfl
theorem insI_len (l : List Int) (v : Int) : (insI l v).length = l.length + 1 := by
  unfold insI
  have := congrArg List.length (List.takeWhile_append_dropWhile (p := fun x : Int => decide (x < v)) (l := l))
  simp only [List.length_append, List.length_singleton] at this ⊢
  omega
set_option maxRecDepth 100000 in
set_option maxHeartbeats 8000000 in
theorem rpeak_any (t : Int) (v : Value) (l : List Ent) (d y : Int) (w : World) (hs : Sl w 12 v l.length (ents l)) (hw : ∀ e ∈ l, e.small) (hl : l.length ≤ 1000000) :
    Calls Tryz.prog 24 #[.int .i64 t, v, .int .i64 d, .int .i64 y] w (RetIds w (peakW t l d y)) := by
  obtain ⟨A, c, rfl, hc1, hc2⟩ := hs.form
  have HC := Lib.hid (rchkEs_any t (.slice A l.length c) l w hs hw hl)
  have HR := Lib.hid (fun X (hX : Below w.heap.size w X) => rranges_any (.slice A l.length c) l X (hs.below hX) hl)
  obtain ⟨LR, hL⟩ : ∃ LR, l.map rgOf = LR := ⟨_, rfl⟩
  have hLl : LR.length ≤ 1000000 := by rw [← hL, List.length_map]; exact hl
  have HL := Lib.hid hL
  rw [hL] at HR
  obtain ⟨DD, hDD⟩ : ∃ q, depthR t LR = q := ⟨_, rfl⟩
  obtain ⟨P, hP⟩ : ∃ q, oRk (peakOf t LR) = q := ⟨_, rfl⟩
  have HQ := Lib.hid (show peakW t l d y = if chkEs t l = false ∨ d < 1 ∨ y < 2 ∨ (DD : Int) ≤ d then [] else sortI (((chosenL (l.filter (inP t P))).take y.toNat).map (·.id)) by unfold peakW; rw [hL, hDD, hP])
  have HDD := Lib.hid hDD
  have HPP := Lib.hid hP
  have HS := Lib.hid hs
  obtain ⟨Q, hQ⟩ : ∃ Q, peakW t l d y = Q := ⟨_, rfl⟩
  rw [hQ] at HQ ⊢
  clear hs hw hL hDD hQ hP
  go_enter Tryz.func24, Tryz.ntmps24
  go_wp2_with fail
  refine HC.out.mono ?_
  cases hck : chkEs t l with
  | false =>
    have HF := Lib.hid (show Q = [] by rw [HQ.out, if_pos (.inl hck)])
    clear hck HC
    rintro _ w2 ⟨rfl, hb2⟩
    have HX := Lib.hid hb2
    clear hb2
    go_wp2
    go_ret
    exact ⟨_, rfl, HX.out, by rw [HF.out]; exact World.ownsRow_nil _ _ _ _, fun _ => rfl⟩
  | true =>
    have HF0 := Lib.hid (chk_facts hck)
    have HCK := Lib.hid hck
    clear hck HC
    rintro _ w2 ⟨rfl, hb2⟩
    have HX2 := Lib.hid hb2
    clear hb2
    by_cases hd : d < 1
    · have HF := Lib.hid (show Q = [] by rw [HQ.out, if_pos (.inr (.inl hd))])
      have q1 : decide (d < 1) = true := by simpa using hd
      clear hd
      go_wp2
      go_ret
      exact ⟨_, rfl, HX2.out, by rw [HF.out]; exact World.ownsRow_nil _ _ _ _, fun _ => rfl⟩
    · have q1 : decide (d < 1) = false := by simpa using hd
      by_cases hy : y < 2
      · have HF := Lib.hid (show Q = [] by rw [HQ.out, if_pos (.inr (.inr (.inl hy)))])
        have q2 : decide (y < 2) = true := by simpa using hy
        clear hy hd
        go_wp2
        go_ret
        exact ⟨_, rfl, HX2.out, by rw [HF.out]; exact World.ownsRow_nil _ _ _ _, fun _ => rfl⟩
      · have q2 : decide (y < 2) = false := by simpa using hy
        go_wp2_with fail
        refine (HR.out _ HX2.out).mono ?_
        rintro _ w3 ⟨v3, rfl, hb3, ho3⟩
        obtain ⟨A3, c3, rfl, hc31, hc32⟩ := (Sl.of_own ho3).form
        have HD := Lib.hid (rdepth_any t _ LR w3 (Sl.of_own ho3) hLl)
        have HX3 := Lib.hid (bst HX2.out hb3)
        rw [HDD.out] at HD
        clear ho3 hb3
        go_wp2_with fail
        refine HD.out.mono ?_
        rintro _ w4 ⟨rfl, hb4⟩
        have HX4 := Lib.hid (bst HX3.out hb4)
        clear hb4
        by_cases hle : (DD : Int) ≤ d
        · have HF := Lib.hid (show Q = [] by rw [HQ.out, if_pos (.inr (.inr (.inr hle)))])
          have q3 : decide ((DD : Int) ≤ d) = true := by simpa using hle
          clear hle hy hd
          go_wp2
          go_ret
          exact ⟨_, rfl, HX4.out, by rw [HF.out]; exact World.ownsRow_nil _ _ _ _, fun _ => rfl⟩
        · have HF := Lib.hid (show Q = sortI (((chosenL (l.filter (inP t P))).take y.toNat).map (·.id)) by rw [HQ.out, if_neg (by rw [HCK.out]; simp; omega)])
          have q3 : decide ((DD : Int) ≤ d) = false := by simpa using hle
          clear hle hd
          go_wp2_with fail
          refine (HR.out _ HX4.out).mono ?_
          rintro _ w5 ⟨v5, rfl, hb5, ho5⟩
          obtain ⟨A5, c5, rfl, hc51, hc52⟩ := (Sl.of_own ho5).form
          have HPK := Lib.hid (rpeakOf_any t (.slice A5 LR.length c5) LR w5 (Sl.of_own ho5) hLl)
          unfold RetPk at HPK
          rw [HPP.out] at HPK
          obtain ⟨sm, hsm⟩ : ∃ q, (peakOf t LR).isSome = q := ⟨_, rfl⟩
          rw [hsm] at HPK
          have HX5 := Lib.hid (bst HX4.out hb5)
          clear ho5 hb5 hsm
          go_wp2_with fail
          refine HPK.out.mono ?_
          rintro _ w6 ⟨rfl, hb6⟩
          have HX6 := Lib.hid (bst HX5.out hb6)
          obtain ⟨N, hN⟩ : ∃ N, w6.heap.size = N := ⟨_, rfl⟩
          obtain ⟨U, hU⟩ : ∃ U, U = w6.alloc (.cells #[.bool P.null, .int .i64 P.n, .string P.s, .int .i64 P.seq] 30) := ⟨_, rfl⟩
          have UP := Lib.hid (show Blk U N 30 #[.bool P.null, .int .i64 P.n, .string P.s, .int .i64 P.seq] by rw [hU, ← hN]; exact Blk.new _ _ _)
          have UX := Lib.hid (show Below w.heap.size w U by rw [hU]; exact HX6.out.alloc HX6.out.size _)
          have US := Lib.hid (HS.out.below UX.out)
          clear hb6 HPK HX2 HX3 HX4 HX5 HX6 HR HD
          go_upto_region 4 with (fail)
          rw [← hU]
          try simp only [hN]
          clear hU hN
          go_wp2
          go_loopw [11, 48] (fun v i wr => ∃ (m : Nat) (cs : List Ent), m ≤ l.length ∧ i = .int .i64 m ∧ cs.length ≤ m ∧ Hid (cs = chosenL ((l.take m).filter (inP t P))) ∧ wr.ownsRow U.heap.size 32 12 v cs.length (ents cs) ∧ Below U.heap.size U wr) (fun _ i _ => l.length - (intOf i).toNat)
          case atStart => exact ⟨0, [], by omega, rfl, by simp, Lib.hid (by simp [chosenL]), World.ownsRow_nil _ _ _ _, Below.refl _ _⟩
          case round =>
            obtain ⟨m, cs, hm, rfl, hcl, hcs, hown, hbel⟩ := hrel
            by_cases hlt : m < l.length
            · obtain ⟨ad, e, pe, rfl, he, hpe, hE⟩ := (US.out.below hbel).ent_load rfl hlt
              obtain ⟨hplt, c0, c1, c2, c3, c4, c5', c6, c7, c8, c9, c10, c11⟩ := hE
              have HLT := Lib.hid hlt
              have qm : decide (m < l.length) = true := by simpa using hlt
              have HNX := Lib.hid (show (l.take (m + 1)).filter (inP t P) = (l.take m).filter (inP t P) ++ (if inP t P e = true then [e] else []) by
                rw [List.take_add_one, he, List.filter_append]
                show _ ++ List.filter _ [e] = _
                rw [List.filter_cons]; rfl)
              have HSO := Lib.hid (show cs.Pairwise ltL by
                rw [hcs.out]
                exact (chosen_is (List.Pairwise.filter _ (List.Pairwise.sublist (List.take_sublist _ _) HF0.out.1))).1)
              obtain ⟨N7, hN7⟩ : ∃ N, wr.heap.size = N := ⟨_, rfl⟩
              obtain ⟨V, hV⟩ : ∃ V, V = wr.alloc (.cells #[.int .i64 e.id, .int .i64 e.rows, .int .i64 e.live, .bool e.lo.null, .int .i64 e.lo.n, .string e.lo.s, .int .i64 e.lo.seq, .bool e.hi.null, .int .i64 e.hi.n, .string e.hi.s, .int .i64 e.hi.seq, .int .i64 e.del] 32) := ⟨_, rfl⟩
              have hbV : Below wr.heap.size wr V := by rw [hV]; exact abel _ _
              have VB := Lib.hid (show Below U.heap.size U V by rw [hV]; exact hbel.alloc hbel.size _)
              have VE := Lib.hid (show Blk V N7 32 #[.int .i64 e.id, .int .i64 e.rows, .int .i64 e.live, .bool e.lo.null, .int .i64 e.lo.n, .string e.lo.s, .int .i64 e.lo.seq, .bool e.hi.null, .int .i64 e.hi.n, .string e.hi.s, .int .i64 e.hi.seq, .int .i64 e.del] by rw [hV, ← hN7]; exact Blk.new _ _ _)
              have VO := Lib.hid (own_below hown hbV)
              have hE2 : EntAt V ⟨N7, 0, none⟩ e := EntAt.of_blk (e := e) VE.out
              have hP2 := UP.out.below VB.out UP.out.lt
              have AA1 := Lib.hid (reg_v (w := V) (fun X _ => rangeOf_any e X))
              have AA2 := Lib.hid (fun (b : Bool) (hb : inP t P e = b) => reg_v (w := V) (fun X _ => rcont_any t (rgOf e) P X hb))
              clear he hbV hown hbel
              have f0 := fun d os => (hE2.regrown d os).c0
              have f1 := fun d os => (hE2.regrown d os).c1
              have f2 := fun d os => (hE2.regrown d os).c2
              have f3 := fun d os => (hE2.regrown d os).c3
              have f4 := fun d os => (hE2.regrown d os).c4
              have f5 := fun d os => (hE2.regrown d os).c5
              have f6 := fun d os => (hE2.regrown d os).c6
              have f7 := fun d os => (hE2.regrown d os).c7
              have f8 := fun d os => (hE2.regrown d os).c8
              have f9 := fun d os => (hE2.regrown d os).c9
              have f10 := fun d os => (hE2.regrown d os).c10
              have f11 := fun d os => (hE2.regrown d os).c11
              have g0 := fun d os => (hP2.below (below_regrown V d os) hP2.lt).cell 0
              have g1 := fun d os => (hP2.below (below_regrown V d os) hP2.lt).cell 1
              have g2 := fun d os => (hP2.below (below_regrown V d os) hP2.lt).cell 2
              have g3 := fun d os => (hP2.below (below_regrown V d os) hP2.lt).cell 3
              simp only [List.getElem?_toArray, List.getElem?_cons_zero, List.getElem?_cons_succ] at g0 g1 g2 g3
              clear hE2 hP2
              go_upto_region 8 with (fail)
              rw [← hV]
              try simp only [hN7]
              clear hV hN7 c0 c1 c2 c3 c4 c5' c6 c7 c8 c9 c10 c11 hpe hplt
              cases hin : inP t P e with
              | false =>
                have AA3 := Lib.hid (AA2.out false hin)
                have HNY := Lib.hid (show cs = chosenL ((l.take (m + 1)).filter (inP t P)) by rw [HNX.out, if_neg (by rw [hin]; simp), List.append_nil]; exact hcs.out)
                clear hin AA2
                refine wp_region_quiet_below (by kernel_rfl) (by kernel_rfl) ?_
                repeat (go_big_quiet_step ((first | (with_reducible exact AA1.out _ _) | (with_reducible exact AA3.out _ _))))
                refine wpQuiet_nil ?_
                intro _ hw'
                obtain ⟨⟨dq, osq⟩, hw''⟩ := hw'
                subst hw''
                have XO := Lib.hid (own_below VO.out (below_regrown V dq osq))
                have XB := Lib.hid (bst VB.out (below_regrown V dq osq))
                obtain ⟨X, hX⟩ : ∃ X, grow (redrawn V dq) osq = X := ⟨_, rfl⟩
                simp only [hX] at XO XB
                go_wp2
                try simp only [hX]
                go_roundw
                case rel => exact ⟨m + 1, cs, HLT.out, by go_num, by omega, HNY, XO.out, XB.out⟩
                case measure => have := HLT.out; simp [intOf]; omega
              | true =>
                have AA3 := Lib.hid (AA2.out true hin)
                have HNY := Lib.hid (show chosenL ((l.take (m + 1)).filter (inP t P)) = insL cs e by rw [HNX.out, if_pos hin, chosenL_snoc, hcs.out])
                clear hin AA2
                refine wp_region_quiet_below (by kernel_rfl) (by kernel_rfl) ?_
                repeat (go_big_quiet_step ((first | (with_reducible exact AA1.out _ _) | (with_reducible exact AA3.out _ _))))
                refine wpQuiet_nil ?_
                intro _ hw'
                obtain ⟨⟨dq, osq⟩, hw''⟩ := hw'
                subst hw''
                have XO := Lib.hid (own_below VO.out (below_regrown V dq osq))
                have XB := Lib.hid (bst VB.out (below_regrown V dq osq))
                have XE := Lib.hid (VE.out.below (below_regrown V dq osq) VE.out.lt)
                obtain ⟨X, hX⟩ : ∃ X, grow (redrawn V dq) osq = X := ⟨_, rfl⟩
                simp only [hX] at XO XB XE
                clear f0 f1 f2 f3 f4 f5 f6 f7 f8 f9 f10 f11
                clear g0 g1 g2 g3
                go_upto_region 9 with (fail)
                try simp only [hX]
                clear hX AA1 AA3 HNX
                rcases XO.out.2 with ⟨e0, h0⟩ | ⟨g, cap, cur, e0, _⟩
                · subst e0
                  have hl0 := List.eq_nil_of_length_eq_zero h0
                  subst hl0
                  have HF2 := Lib.hid (show insL [] e = [e] from rfl)
                  go_wp2
                  go_loopw [14] (fun i wr => i = .int .i64 0 ∧ ∃ q, wr = X.drewN q) (fun _ _ => 0)
                  case atStart => exact ⟨rfl, 0, rfl⟩
                  case round =>
                    obtain ⟨rfl, q, rfl⟩ := hrel
                    go_wp2
                    go_quiet (fail)
                    generalize hX : World.drewN (X.drewN q) _ = X2
                    have bE2 : Blk X2 N7 32 #[.int .i64 e.id, .int .i64 e.rows, .int .i64 e.live, .bool e.lo.null, .int .i64 e.lo.n, .string e.lo.s, .int .i64 e.lo.seq, .bool e.hi.null, .int .i64 e.hi.n, .string e.hi.s, .int .i64 e.hi.seq, .int .i64 e.del] := by rw [← hX]; exact XE.out
                    have hB2 : Below U.heap.size U X2 := by rw [← hX]; exact below_drewN (below_drewN XB.out _) _
                    clear hX
                    have hwX := hB2.size
                    go_wp2_with (at_builtin; go_must (refine appN _ _ (World.ownsRow_nil X2 X2.heap.size 32 12) (Sl.nil X2 12) (Nat.le_refl _) under_entry info_entry rfl (by decide) (by simp) (by omega) (by omega) rfl rfl rfl rfl ?_))
                    intro v1 w1 ho1 hg1 _
                    have hb1 : Below X2.heap.size X2 w1 := ⟨hg1.os, hg1.tape, hg1.output, hg1.size, fun i hi => hg1.block i hi (by simp [Value.ownBlock])⟩
                    have bE1 := Lib.hid (bE2.below hb1 bE2.lt)
                    have hB1 := Lib.hid (bst hB2 hb1)
                    have hs1 := hb1.size
                    have bb := bE1.out
                    have x0 := bb.cell 0
                    have x1 := bb.cell 1
                    have x2 := bb.cell 2
                    have x3 := bb.cell 3
                    have x4 := bb.cell 4
                    have x5 := bb.cell 5
                    have x6 := bb.cell 6
                    have x7 := bb.cell 7
                    have x8 := bb.cell 8
                    have x9 := bb.cell 9
                    have x10 := bb.cell 10
                    have x11 := bb.cell 11
                    simp only [List.getElem?_toArray, List.getElem?_cons_zero, List.getElem?_cons_succ] at x0 x1 x2 x3 x4 x5 x6 x7 x8 x9 x10 x11
                    clear bb
                    clear hg1 hb1 bE2 hB2
                    go_wp2_with (at_builtin; go_must (refine app1 _ _ ho1 (Below.refl X2.heap.size w1) (Nat.le_refl _) hs1 under_entry info_entry rfl (by decide) rfl (one12 _ _ _ _ _ _ _ _ _ _ _ _) (by omega) (by omega) rfl rfl rfl rfl ?_))
                    intro g2 cap2 w2 ho2 hb2 hg2 _
                    have HB2 := Lib.hid (hB1.out.trans (hb2.mono (by omega)))
                    have hs2 := hb2.size
                    clear x0 x1 x2 x3 x4 x5 x6 x7 x8 x9 x10 x11
                    have ho2' : w2.ownsRow X2.heap.size 32 12 (.slice (some ⟨g2, 0, none⟩) 1 cap2) 1 (ents [e]) := by simpa [ents, Ent.cells] using ho2
                    clear ho1 ho2 hb2 hg2
                    go_wp2_with (at_builtin; go_must (refine appN _ _ ho2' (Sl.nil w2 12) (by omega) under_entry info_entry rfl (by decide) (by simp) (by omega) (by omega) rfl rfl rfl rfl ?_))
                    all_goals
                      intro v3 w3 ho3 hg3 hor3
                      have HB3 := Lib.hid (HB2.out.grown hg3 HB2.out.size (fun b hb' => Nat.le_trans hwX (ho2'.lt b hb').1))
                      have HO3 := Lib.hid (show w3.ownsRow U.heap.size 32 12 v3 (insL [] e).length (ents (insL [] e)) by rw [HF2.out]; simpa using own_mono ho3 hwX)
                      clear ho3 hg3 hor3 ho2'
                      go_wp2
                      go_roundw
                      case rel => exact ⟨m + 1, insL [] e, HLT.out, by go_num, by rw [insL_len]; omega, Lib.hid HNY.out.symm, HO3.out, HB3.out⟩
                      case measure => have := HLT.out; simp [intOf]; omega
                · subst e0
                  have hcap : cs.length ≤ cap := by
                    obtain ⟨A', c', e0, h1, _⟩ := Sl.of_own XO.out
                    injection e0 with e1 e2 e3
                    omega
                  have hcapM : cap ≤ 9223372036854775807 := by
                    obtain ⟨A', c', e0, h1, h2, _⟩ := Sl.of_own XO.out
                    injection e0 with e1 e2 e3
                    unfold maxLen at h2
                    omega
                  have hcsl : cs.length ≤ 1000000 := by omega
                  go_wp2
                  go_loopw [14] (fun i wr => ∃ k : Nat, k ≤ cs.length ∧ i = .int .i64 (k : Int) ∧ (∃ q, wr = X.drewN q) ∧ Hid (∀ (j : Nat) (z : Ent), cs[j]? = some z → k ≤ j → e.live < z.live)) (fun i _ => (intOf i).toNat)
                  case atStart => exact ⟨cs.length, Nat.le_refl _, rfl, ⟨0, rfl⟩, Lib.hid fun j z hz hj => absurd (List.getElem?_eq_some_iff.1 hz).1 (by omega)⟩
                  case round =>
                    obtain ⟨k, hk, rfl, ⟨q, rfl⟩, hno⟩ := hrel
                    have e2 : X.cell? ⟨N7, 2, none⟩ = some (.int .i64 e.live) := XE.out.cell 2
                    by_cases hk0 : 0 < k
                    · obtain ⟨j, hj⟩ : ∃ j, k = j + 1 := ⟨k - 1, by omega⟩
                      have hjl : j < cs.length := by omega
                      have wk : IntKind.i64.wrap ((k : Int) - 1) = (j : Int) := by rw [hj]; push_cast; rw [show (j : Int) + 1 - 1 = j by omega]; exact IntWalk.i64_in _ (by omega)
                      obtain ⟨ad2, z, pz, hA, hz, hpz, hZ⟩ := (Sl.of_own XO.out).ent_load rfl hjl
                      cases hA
                      have hp' : pz = ⟨g, j * 12, none⟩ := by rw [← hpz]; exact Addr.add_lit _ _ _ |>.trans (by rw [Nat.zero_add])
                      subst hp'
                      have z2 := hZ.c2
                      have HZ := Lib.hid hz
                      have qk : decide (0 < k) = true := by simpa using hk0
                      have qj : decide (j < cs.length) = true := by simpa using hjl
                      have HJ := Lib.hid hj
                      clear hz hZ hpz hk0 hj
                      by_cases hq : e.live < z.live
                      · have q5 : decide (e.live < z.live) = true := decide_eq_true hq
                        have HN := Lib.hid (show ∀ (i : Nat) (x : Ent), cs[i]? = some x → j ≤ i → e.live < x.live from fun i x hx hi => by
                          by_cases ei : i = j
                          · subst ei; rw [HZ.out] at hx; injection hx with hx; rw [← hx]; exact hq
                          · exact hno.out i x hx (by have := HJ.out; omega))
                        clear hq
                        go_wp2
                        go_quiet (fail)
                        go_wp2
                        go_roundw
                        case rel => exact ⟨j, by omega, rfl, ⟨_, rfl⟩, HN⟩
                        case measure => have := HJ.out; simp [intOf]; omega
                      · have q5 : decide (e.live < z.live) = false := decide_eq_false hq
                        have HF2 := Lib.hid (insL_at (e := e) HSO.out hk (fun i x hx hi => by
                          have : i = j := by have := HJ.out; omega
                          subst this; rw [HZ.out] at hx; injection hx with hx; rw [← hx]; exact Int.not_lt.1 hq) hno.out)
                        clear hq
                        go_wp2
                        go_quiet (fail)
                        generalize hX : World.drewN (X.drewN q) _ = X2
                        have hO2 : X2.ownsRow U.heap.size 32 12 (.slice (some ⟨g, 0, none⟩) cs.length cap) cs.length (ents cs) := by rw [← hX]; exact XO.out
                        have bE2 : Blk X2 N7 32 #[.int .i64 e.id, .int .i64 e.rows, .int .i64 e.live, .bool e.lo.null, .int .i64 e.lo.n, .string e.lo.s, .int .i64 e.lo.seq, .bool e.hi.null, .int .i64 e.hi.n, .string e.hi.s, .int .i64 e.hi.seq, .int .i64 e.del] := by rw [← hX]; exact XE.out
                        have hB2 : Below U.heap.size U X2 := by rw [← hX]; exact below_drewN (below_drewN XB.out _) _
                        clear hX z2 e2
                        have hwX := hB2.size
                        have hslX := (Sl.of_own hO2).take12 (k := k) rfl (by omega)
                        have hgX := (hO2.lt g rfl).2
                        go_wp2_with (at_builtin; go_must (refine appN _ _ (World.ownsRow_nil X2 X2.heap.size 32 12) hslX (Nat.le_refl _) under_entry info_entry rfl (by decide) (one_ents' _) (by omega) (by omega) rfl rfl rfl rfl ?_))
                        all_goals try skip
                        intro v1 w1 ho1 hg1 _
                        have hb1 : Below X2.heap.size X2 w1 := ⟨hg1.os, hg1.tape, hg1.output, hg1.size, fun i hi => hg1.block i hi (by simp [Value.ownBlock])⟩
                        have bE1 := Lib.hid (bE2.below hb1 bE2.lt)
                        have hO1 := Lib.hid (own_below hO2 hb1)
                        have hB1 := Lib.hid (bst hB2 hb1)
                        have hs1 := hb1.size
                        have bb := bE1.out
                        have x0 := bb.cell 0
                        have x1 := bb.cell 1
                        have x2 := bb.cell 2
                        have x3 := bb.cell 3
                        have x4 := bb.cell 4
                        have x5 := bb.cell 5
                        have x6 := bb.cell 6
                        have x7 := bb.cell 7
                        have x8 := bb.cell 8
                        have x9 := bb.cell 9
                        have x10 := bb.cell 10
                        have x11 := bb.cell 11
                        simp only [List.getElem?_toArray, List.getElem?_cons_zero, List.getElem?_cons_succ] at x0 x1 x2 x3 x4 x5 x6 x7 x8 x9 x10 x11
                        clear bb
                        clear hg1 hb1 bE2 hB2 hO2 hslX
                        go_wp2_with (at_builtin; go_must (refine app1 _ _ ho1 (Below.refl X2.heap.size w1) (Nat.le_refl _) hs1 under_entry info_entry rfl (by decide) rfl (one12 _ _ _ _ _ _ _ _ _ _ _ _) (by omega) (by omega) rfl rfl rfl rfl ?_))
                        intro g2 cap2 w2 ho2 hb2 hg2 _
                        have hO3 := own_grown hO1.out hg2 (fun b hb' e => by
                          have h1 := (ho1.lt b e).1
                          have hb3 : some g = some b := hb'
                          injection hb3 with hb3
                          omega)
                        have hsl2 := own_drop hO3 (k := k) rfl (by omega)
                        have HB2 := Lib.hid (hB1.out.trans (hb2.mono (by omega)))
                        have hs2 := hb2.size
                        clear x0 x1 x2 x3 x4 x5 x6 x7 x8 x9 x10 x11
                        have ho2' : w2.ownsRow X2.heap.size 32 12 (.slice (some ⟨g2, 0, none⟩) (k + 1) cap2) (k + 1) (ents (cs.take k ++ [e])) := by rw [ents_snoc]; exact ho2
                        clear ho1 ho2 hb2 hg2 hO3
                        go_wp2_with (at_builtin; go_must (refine appN _ _ ho2' hsl2 (by omega) under_entry info_entry rfl (by decide) (one_ents' _) (by omega) (by omega) rfl rfl rfl rfl ?_))
                        all_goals
                          intro v3 w3 ho3 hg3 hor3
                          have HB3 := Lib.hid (HB2.out.grown hg3 HB2.out.size (fun b hb' => Nat.le_trans hwX (ho2'.lt b hb').1))
                          have HO3 := Lib.hid (show w3.ownsRow U.heap.size 32 12 v3 (insL cs e).length (ents (insL cs e)) by
                            have hfl : (cs.take k ++ [e] ++ cs.drop k).length = k + 1 + (cs.length - k) := by simp; omega
                            rw [HF2.out, hfl, ents_append]; exact own_mono ho3 hwX)
                          clear ho3 hg3 hor3 ho2' hsl2
                          go_wp2
                          go_roundw
                          case rel => exact ⟨m + 1, insL cs e, HLT.out, by go_num, by rw [insL_len]; omega, Lib.hid HNY.out.symm, HO3.out, HB3.out⟩
                          case measure => have := HLT.out; simp [intOf]; omega
                    · have hk1 : k = 0 := by omega
                      have qk : decide (0 < k) = false := by simpa using hk0
                      have HF2 := Lib.hid (insL_at (e := e) HSO.out hk (fun i x hx hi => by omega) hno.out)
                      clear hk0 hk1
                      go_wp2
                      go_quiet (fail)
                      generalize hX : World.drewN (X.drewN q) _ = X2
                      have hO2 : X2.ownsRow U.heap.size 32 12 (.slice (some ⟨g, 0, none⟩) cs.length cap) cs.length (ents cs) := by rw [← hX]; exact XO.out
                      have bE2 : Blk X2 N7 32 #[.int .i64 e.id, .int .i64 e.rows, .int .i64 e.live, .bool e.lo.null, .int .i64 e.lo.n, .string e.lo.s, .int .i64 e.lo.seq, .bool e.hi.null, .int .i64 e.hi.n, .string e.hi.s, .int .i64 e.hi.seq, .int .i64 e.del] := by rw [← hX]; exact XE.out
                      have hB2 : Below U.heap.size U X2 := by rw [← hX]; exact below_drewN (below_drewN XB.out _) _
                      clear hX e2
                      have hwX := hB2.size
                      have hslX := (Sl.of_own hO2).take12 (k := k) rfl (by omega)
                      have hgX := (hO2.lt g rfl).2
                      go_wp2_with (at_builtin; go_must (refine appN _ _ (World.ownsRow_nil X2 X2.heap.size 32 12) hslX (Nat.le_refl _) under_entry info_entry rfl (by decide) (one_ents' _) (by omega) (by omega) rfl rfl rfl rfl ?_))
                      all_goals try skip
                      intro v1 w1 ho1 hg1 _
                      have hb1 : Below X2.heap.size X2 w1 := ⟨hg1.os, hg1.tape, hg1.output, hg1.size, fun i hi => hg1.block i hi (by simp [Value.ownBlock])⟩
                      have bE1 := Lib.hid (bE2.below hb1 bE2.lt)
                      have hO1 := Lib.hid (own_below hO2 hb1)
                      have hB1 := Lib.hid (bst hB2 hb1)
                      have hs1 := hb1.size
                      have bb := bE1.out
                      have x0 := bb.cell 0
                      have x1 := bb.cell 1
                      have x2 := bb.cell 2
                      have x3 := bb.cell 3
                      have x4 := bb.cell 4
                      have x5 := bb.cell 5
                      have x6 := bb.cell 6
                      have x7 := bb.cell 7
                      have x8 := bb.cell 8
                      have x9 := bb.cell 9
                      have x10 := bb.cell 10
                      have x11 := bb.cell 11
                      simp only [List.getElem?_toArray, List.getElem?_cons_zero, List.getElem?_cons_succ] at x0 x1 x2 x3 x4 x5 x6 x7 x8 x9 x10 x11
                      clear bb
                      clear hg1 hb1 bE2 hB2 hO2 hslX
                      go_wp2_with (at_builtin; go_must (refine app1 _ _ ho1 (Below.refl X2.heap.size w1) (Nat.le_refl _) hs1 under_entry info_entry rfl (by decide) rfl (one12 _ _ _ _ _ _ _ _ _ _ _ _) (by omega) (by omega) rfl rfl rfl rfl ?_))
                      intro g2 cap2 w2 ho2 hb2 hg2 _
                      have hO3 := own_grown hO1.out hg2 (fun b hb' e => by
                        have h1 := (ho1.lt b e).1
                        have hb3 : some g = some b := hb'
                        injection hb3 with hb3
                        omega)
                      have hsl2 := own_drop hO3 (k := k) rfl (by omega)
                      have HB2 := Lib.hid (hB1.out.trans (hb2.mono (by omega)))
                      have hs2 := hb2.size
                      clear x0 x1 x2 x3 x4 x5 x6 x7 x8 x9 x10 x11
                      have ho2' : w2.ownsRow X2.heap.size 32 12 (.slice (some ⟨g2, 0, none⟩) (k + 1) cap2) (k + 1) (ents (cs.take k ++ [e])) := by rw [ents_snoc]; exact ho2
                      clear ho1 ho2 hb2 hg2 hO3
                      go_wp2_with (at_builtin; go_must (refine appN _ _ ho2' hsl2 (by omega) under_entry info_entry rfl (by decide) (one_ents' _) (by omega) (by omega) rfl rfl rfl rfl ?_))
                      all_goals
                        intro v3 w3 ho3 hg3 hor3
                        have HB3 := Lib.hid (HB2.out.grown hg3 HB2.out.size (fun b hb' => Nat.le_trans hwX (ho2'.lt b hb').1))
                        have HO3 := Lib.hid (show w3.ownsRow U.heap.size 32 12 v3 (insL cs e).length (ents (insL cs e)) by
                          have hfl : (cs.take k ++ [e] ++ cs.drop k).length = k + 1 + (cs.length - k) := by simp; omega
                          rw [HF2.out, hfl, ents_append]; exact own_mono ho3 hwX)
                        clear ho3 hg3 hor3 ho2' hsl2
                        go_wp2
                        go_roundw
                        case rel => exact ⟨m + 1, insL cs e, HLT.out, by go_num, by rw [insL_len]; omega, Lib.hid HNY.out.symm, HO3.out, HB3.out⟩
                        case measure => have := HLT.out; simp [intOf]; omega
            · have hml : m = l.length := by omega
              have HCS := Lib.hid (show cs = chosenL (l.filter (inP t P)) by rw [hcs.out, hml, List.take_length])
              have qm : decide (m < l.length) = false := by simpa using hlt
              have hcsl : cs.length ≤ 1000000 := by omega
              have HB := Lib.hid (bst UX.out hbel)
              have HO := Lib.hid hown
              obtain ⟨AV, cV, rfl, hcV1, hcV2⟩ := (Sl.of_own hown).form
              obtain ⟨R, hR⟩ : ∃ R, cs.length = R := ⟨_, rfl⟩
              rw [hR] at HO hcsl hcV1
              obtain ⟨M, hM⟩ : ∃ M : Nat, min y (R : Int) = (M : Int) := ⟨(min y (R : Int)).toNat, by omega⟩
              have hMR : M ≤ R := by omega
              have HMM := Lib.hid (show cs.take y.toNat = cs.take M by
                rcases Nat.lt_or_ge y.toNat R with h | h
                · rw [show M = y.toNat by omega]
                · rw [List.take_of_length_le (by omega), List.take_of_length_le (by omega)])
              have HSM := Lib.hid (show Sl wr 12 (.slice AV M cV) M (ents (cs.take M)) by rw [← ents_take12]; exact front2 (Sl.of_own HO.out) hMR)
              have HMl := Lib.hid (show (cs.take M).length = M by rw [List.length_take]; omega)
              have HQQ := Lib.hid (show Q = sortI ((cs.take M).map (·.id)) by rw [HF.out, ← HCS.out, HMM.out])
              try simp only [hR]
              clear hR hown hbel hcs hcl hml hlt hm
              obtain ⟨w0r, hw0r⟩ : ∃ q : World, q = wr := ⟨_, rfl⟩
              rw [← hw0r] at HB HSM
              go_wp2
              try rw [← hw0r]
              clear hw0r
              go_loopw [16, 96] (fun v i wi => ∃ (k : Nat) (is : List Int), k ≤ M ∧ i = .int .i64 k ∧ is.length = k ∧ Hid (is = sortI (((cs.take M).take k).map (·.id))) ∧ Hid (is = [] → v = .slice none 0 0) ∧ wi.ownsRow w0r.heap.size 3 1 v is.length (ints is) ∧ Below w0r.heap.size w0r wi) (fun _ i _ => M - (intOf i).toNat)
              case atStart => exact ⟨0, [], by omega, rfl, rfl, Lib.hid rfl, Lib.hid fun _ => rfl, World.ownsRow_nil _ _ _ _, Below.refl _ _⟩
              case round =>
                obtain ⟨k2, is, hk2, rfl, hil, his, hnil, hown, hbel⟩ := hrel
                by_cases hlt2 : k2 < M
                · obtain ⟨ad, e, pe, rfl, he, hpe, hE⟩ := (HSM.out.below hbel).ent_load HMl.out.symm hlt2
                  obtain ⟨hplt, c0, c1, c2, c3, c4, c5', c6, c7, c8, c9, c10, c11⟩ := hE
                  have HN := Lib.hid (show insI is e.id = sortI (((cs.take M).take (k2 + 1)).map (·.id)) by rw [List.take_add_one, he, List.map_append, Option.toList_some, List.map_cons, List.map_nil, sortI_snoc, his.out])
                  have HLT := Lib.hid hlt2
                  have qk : decide (k2 < M) = true := by simpa using hlt2
                  obtain ⟨N8, hN8⟩ : ∃ N, wr.heap.size = N := ⟨_, rfl⟩
                  obtain ⟨V, hV⟩ : ∃ V, V = wr.alloc (.cells #[.int .i64 e.id, .int .i64 e.rows, .int .i64 e.live, .bool e.lo.null, .int .i64 e.lo.n, .string e.lo.s, .int .i64 e.lo.seq, .bool e.hi.null, .int .i64 e.hi.n, .string e.hi.s, .int .i64 e.hi.seq, .int .i64 e.del] 32) := ⟨_, rfl⟩
                  have hbV : Below wr.heap.size wr V := by rw [hV]; exact abel _ _
                  have VE := Lib.hid (show Blk V N8 32 #[.int .i64 e.id, .int .i64 e.rows, .int .i64 e.live, .bool e.lo.null, .int .i64 e.lo.n, .string e.lo.s, .int .i64 e.lo.seq, .bool e.hi.null, .int .i64 e.hi.n, .string e.hi.s, .int .i64 e.hi.seq, .int .i64 e.del] by rw [hV, ← hN8]; exact Blk.new _ _ _)
                  have VO := Lib.hid (own_below hown hbV)
                  have VB := Lib.hid (hbel.trans (hbV.mono hbel.size))
                  have HIL := Lib.hid hil
                  have HI := Lib.hid (rins_any _ w0r.heap.size is e.id V VO.out (by omega) VB.out.size)
                  clear he hown hbel hbV hil
                  go_upto_region 20 with (fail)
                  rw [← hV]
                  try simp only [hN8]
                  clear hV hN8 c0 c1 c2 c3 c4 c5' c6 c7 c8 c9 c10 c11 hpe hplt
                  have bb := VE.out
                  have x0 := bb.cell 0
                  have x1 := bb.cell 1
                  have x2 := bb.cell 2
                  have x3 := bb.cell 3
                  have x4 := bb.cell 4
                  have x5 := bb.cell 5
                  have x6 := bb.cell 6
                  have x7 := bb.cell 7
                  have x8 := bb.cell 8
                  have x9 := bb.cell 9
                  have x10 := bb.cell 10
                  have x11 := bb.cell 11
                  simp only [List.getElem?_toArray, List.getElem?_cons_zero, List.getElem?_cons_succ] at x0 x1 x2 x3 x4 x5 x6 x7 x8 x9 x10 x11
                  clear bb
                  go_wp2_with fail
                  refine HI.out.mono ?_
                  rintro _ w9 ⟨v9, rfl, ho9, hb9⟩
                  have O9 := Lib.hid ho9
                  have B9 := Lib.hid (bst VB.out hb9)
                  clear ho9 hb9 HI
                  clear x0 x1 x2 x3 x4 x5 x6 x7 x8 x9 x10 x11
                  go_wp2
                  go_roundw
                  case rel => exact ⟨k2 + 1, insI is e.id, HLT.out, by go_num, by rw [insI_len, HIL.out], HN, Lib.hid fun h => absurd (congrArg List.length h) (by rw [insI_len]; simp), O9.out, B9.out⟩
                  case measure => have := HLT.out; simp [intOf]; omega
                · have HIS := Lib.hid (show is = Q by rw [his.out, HQQ.out, show k2 = (cs.take M).length by have := HMl.out; omega, List.take_length])
                  have HZ := Lib.hid (show RetIds w Q (.returned u16) wr from ⟨_, rfl, bst HB.out hbel, by rw [← HIS.out]; exact own_mono hown HB.out.size, fun h => hnil.out (by rw [HIS.out]; exact h)⟩)
                  clear hown hbel hnil his hil
                  go_wp2
                  go_ret
                  exact HZ.out
end Go.Proofs.YtcjekbncllccbaaGreat
