/-
  The contracts of picker.Peak and Pick.
-/
import Derived.Test.YtcjekbncllccbaaPk7
import Derived.Test.YtcjekbncllccbaaPk6
import Derived.Test.YtcjekbncllccbaaPickPeak2
import Derived.Test.YtcjekbncllccbaaApplySpec
namespace Go.Proofs.Ytcjekbncllccbaa
open Go.RowKit Go.Sort

theorem front2 {w : World} {sz n c k : Nat} {A : Option Addr} {xs : List Value} (h : Sl w sz (.slice A n c) n xs) (hk : k ≤ n) : Sl w sz (.slice A k c) k (xs.take (k * sz)) := by
  obtain ⟨A', c', e, q1, q2, q3, q4⟩ := h
  injection e with e1 _ e3
  subst e1 e3
  refine ⟨_, _, rfl, by omega, q2, by rw [List.length_take, q3]; exact Nat.min_eq_left (Nat.mul_le_mul_right _ hk), fun hp => ?_⟩
  obtain ⟨ad, e, hb, hc⟩ := q4 (by omega)
  refine ⟨ad, e, hb, fun j u hu => hc j u ?_⟩
  rw [List.getElem?_take] at hu
  split at hu
  · exact hu
  · cases hu
theorem ents_take12 {l : List Ent} {k : Nat} : (ents l).take (k * 12) = ents (l.take k) := by
  induction l generalizing k with
  | nil => simp [ents]
  | cons e r ih =>
    cases k with
    | zero => simp [ents]
    | succ k =>
      rw [List.take_succ_cons, ents_cons, ents_cons, List.take_append, Ent.cells_length, show (k + 1) * 12 - 12 = k * 12 by omega, ih, List.take_of_length_le (by rw [Ent.cells_length]; omega)]
theorem own_blk {w : World} {base g n size : Nat} {t : TypeId} {cs : Array Value} (h : Blk w g t cs) (hb : base ≤ g) (hn : cs.size = n * size) (hm : n ≤ maxLen) : w.ownsRow base t size (.slice (some ⟨g, 0, none⟩) n n) n cs.toList :=
  ⟨by rw [Array.length_toList]; exact hn, .inr ⟨g, n, cs, rfl, hb, h, Nat.le_refl _, hm, hn, by rw [← hn, ← Array.length_toList, List.take_length]⟩⟩
/-- A row of integers of the call's own, nil if it is empty. -/
def RetIds (w : World) (L : List Int) (e : Ending) (w' : World) : Prop := ∃ v, e = .returned v ∧ Below w.heap.size w w' ∧ w'.ownsRow w.heap.size 3 1 v L.length (ints L) ∧ (L = [] → v = .slice none 0 0)
def topI (t : Int) (l : List Ent) (w : Int) : List Int := (topE t l w).map (·.id)
def peakQ (t : Int) (l : List Ent) (d w : Int) : List Int := if chkEs t l = false ∨ d < 1 ∨ w < 2 ∨ ((mostR t (l.map rgOf)).1 : Int) ≤ d then [] else sortI (topI t l w)
theorem chk_facts {t : Int} {l : List Ent} (h : chkEs t l = true) : Asc l ∧ (∀ e ∈ l, 0 ≤ e.id ∧ e.id ≤ 2147483647) ∧ chkRs t (l.map rgOf) = true := by
  unfold chkEs at h
  rw [Bool.and_eq_true] at h
  refine ⟨entsB_asc h.1, fun e he => ?_, h.2⟩
  have := okB_id (entsB_ok h.1 he)
  omega
theorem own_entsR {w : World} {base : Nat} {t : TypeId} {v : Value} {l : List Ent} {e : Ent} {R : Nat} (hR : l.length = R) (h : w.ownsRow base t 12 v (R + 1) (ents l ++ (#[.int .i64 e.id, .int .i64 e.rows, .int .i64 e.live, .bool e.lo.null, .int .i64 e.lo.n, .string e.lo.s, .int .i64 e.lo.seq, .bool e.hi.null, .int .i64 e.hi.n, .string e.hi.s, .int .i64 e.hi.seq, .int .i64 e.del] : Array Value).toList)) : w.ownsRow base t 12 v (l ++ [e]).length (ents (l ++ [e])) := by
  subst hR; exact own_ents (e := e) rfl h
theorem own_intsR {w : World} {base : Nat} {t : TypeId} {v : Value} {l : List Int} {x : Int} {R : Nat} (hR : l.length = R) (h : w.ownsRow base t 1 v (R + 1) (ints l ++ (#[Value.int .i64 x] : Array Value).toList)) : w.ownsRow base t 1 v (l ++ [x]).length (ints (l ++ [x])) := by subst hR; exact own_ints h
theorem chosen_perm {l : List Ent} (h : Asc l) : (chosenL l).Perm l := by
  obtain ⟨h1, h2⟩ := chosen_is h
  exact (List.perm_ext_iff_of_nodup (ltL_nodup h1) (h.imp fun hab e => by rw [e] at hab; omega)).2 h2
set_option maxRecDepth 100000 in
set_option maxHeartbeats 8000000 in
theorem peak_any (t : Int) (v : Value) (l : List Ent) (d y : Int) (w : World) (hs : Sl w 12 v l.length (ents l)) (hw : ∀ e ∈ l, e.small) (hl : l.length ≤ 1000000) :
    Calls Try.prog 9 #[.int .i64 t, v, .int .i64 d, .int .i64 y] w (RetIds w (peakQ t l d y)) := by
  obtain ⟨A, c, rfl, hc1, hc2⟩ := hs.form
  have HC := Lib.hid (pcheck_any t (.slice A l.length c) l w hs hw hl)
  have HR := Lib.hid (fun X (hX : Below w.heap.size w X) => pranges_any (.slice A l.length c) l X (hs.below hX) hl)
  obtain ⟨L, hL⟩ : ∃ L, l.map rgOf = L := ⟨_, rfl⟩
  have hLl : L.length ≤ 1000000 := by rw [← hL, List.length_map]; exact hl
  have HL := Lib.hid hL
  rw [hL] at HR
  obtain ⟨DD, hDD⟩ : ∃ q, (mostR t L).1 = q := ⟨_, rfl⟩
  have HQ := Lib.hid (show peakQ t l d y = if chkEs t l = false ∨ d < 1 ∨ y < 2 ∨ (DD : Int) ≤ d then [] else sortI (topI t l y) by unfold peakQ; rw [hL, hDD])
  have HDD := Lib.hid hDD
  have HS := Lib.hid hs
  obtain ⟨Q, hQ⟩ : ∃ Q, peakQ t l d y = Q := ⟨_, rfl⟩
  rw [hQ] at HQ ⊢
  clear hs hw hL hDD hQ
  go_enter Try.func9, Try.ntmps9
  go_wp2_with fail
  refine HC.out.mono ?_
  cases hck : chkEs t l with
  | false =>
    have HF := Lib.hid (show Q = [] by rw [HQ.out, if_pos (.inl hck)])
    clear hck HC
    rintro _ w2 ⟨rfl, hb2⟩
    have HX := Lib.hid hb2
    clear hb2
    go_wp2
    go_ret
    exact ⟨_, rfl, HX.out, by rw [HF.out]; exact World.ownsRow_nil _ _ _ _, fun _ => rfl⟩
  | true =>
    have HF0 := Lib.hid (chk_facts hck)
    have HCK := Lib.hid hck
    clear hck HC
    rintro _ w2 ⟨rfl, hb2⟩
    have HX2 := Lib.hid hb2
    clear hb2
    by_cases hd : d < 1
    · have HF := Lib.hid (show Q = [] by rw [HQ.out, if_pos (.inr (.inl hd))])
      have q1 : decide (d < 1) = true := by simpa using hd
      clear hd
      go_wp2
      go_ret
      exact ⟨_, rfl, HX2.out, by rw [HF.out]; exact World.ownsRow_nil _ _ _ _, fun _ => rfl⟩
    · have q1 : decide (d < 1) = false := by simpa using hd
      by_cases hy : y < 2
      · have HF := Lib.hid (show Q = [] by rw [HQ.out, if_pos (.inr (.inr (.inl hy)))])
        have q2 : decide (y < 2) = true := by simpa using hy
        clear hy hd
        go_wp2
        go_ret
        exact ⟨_, rfl, HX2.out, by rw [HF.out]; exact World.ownsRow_nil _ _ _ _, fun _ => rfl⟩
      · have q2 : decide (y < 2) = false := by simpa using hy
        go_wp2_with fail
        refine (HR.out _ HX2.out).mono ?_
        rintro _ w3 ⟨v3, rfl, hb3, ho3⟩
        obtain ⟨A3, c3, rfl, hc31, hc32⟩ := (Sl.of_own ho3).form
        have HD := Lib.hid (ddepth_any t _ L w3 (Sl.of_own ho3) hLl)
        have HX3 := Lib.hid (bst HX2.out hb3)
        rw [HDD.out] at HD
        clear ho3 hb3
        go_wp2_with fail
        refine HD.out.mono ?_
        rintro _ w4 ⟨rfl, hb4⟩
        have HX4 := Lib.hid (bst HX3.out hb4)
        clear hb4
        by_cases hle : (DD : Int) ≤ d
        · have HF := Lib.hid (show Q = [] by rw [HQ.out, if_pos (.inr (.inr (.inr hle)))])
          have q3 : decide ((DD : Int) ≤ d) = true := by simpa using hle
          clear hle hy hd
          go_wp2
          go_ret
          exact ⟨_, rfl, HX4.out, by rw [HF.out]; exact World.ownsRow_nil _ _ _ _, fun _ => rfl⟩
        · have HF := Lib.hid (show Q = sortI (topI t l y) by rw [HQ.out, if_neg (by rw [HCK.out]; simp; omega)])
          have q3 : decide ((DD : Int) ≤ d) = false := by simpa using hle
          clear hle hd
          go_wp2_with fail
          refine (HR.out _ HX4.out).mono ?_
          rintro _ w5 ⟨v5, rfl, hb5, ho5⟩
          obtain ⟨A5, c5, rfl, hc51, hc52⟩ := (Sl.of_own ho5).form
          obtain ⟨P, hP⟩ : ∃ P, (mostR t L).2 = P := ⟨_, rfl⟩
          have HPK := Lib.hid (show Calls Try.prog 32 #[.int .i64 t, .slice A5 L.length c5] w5 (RetPeak w5 (DD, P)) by rw [← HDD.out, ← hP]; exact dpeak_any t _ L w5 (Sl.of_own ho5) hLl)
          have HPP := Lib.hid (show peakP t l = P by
            have h := HF0.out.2.2
            rw [HL.out] at h
            unfold peakP
            rw [HL.out, ← hP]
            unfold mostR
            rw [if_pos h, ← HL.out, List.length_map])
          have HX5 := Lib.hid (bst HX4.out hb5)
          clear ho5 hb5 hP
          go_wp2_with fail
          refine HPK.out.mono ?_
          rintro _ w6 ⟨rfl, hb6⟩
          obtain ⟨N, hN⟩ : ∃ N, w6.heap.size = N := ⟨_, rfl⟩
          obtain ⟨U, hU⟩ : ∃ U, U = w6.alloc (.cells #[.bool P.null, .int .i64 P.n, .string P.s, .int .i64 P.seq] 37) := ⟨_, rfl⟩
          have UP := Lib.hid (show Blk U N 37 #[.bool P.null, .int .i64 P.n, .string P.s, .int .i64 P.seq] by rw [hU, ← hN]; exact Blk.new _ _ _)
          have UB := Lib.hid (show Below w.heap.size w U by rw [hU]; exact (bst HX5.out hb6).alloc (bst HX5.out hb6).size _)
          have hNw : w.heap.size ≤ N := by rw [← hN]; exact (bst HX5.out hb6).size
          clear hb6
          go_upto_region 4 with (fail)
          rw [← hU]
          try simp only [hN]
          clear hU hN
          go_wp2
          go_loopw [11, 46] (fun v i wr => ∃ (k : Nat) (cs : List Ent), k ≤ l.length ∧ i = .int .i64 k ∧ cs.length ≤ k ∧ Hid (cs = (l.take k).filter (inP t P)) ∧ wr.ownsRow w.heap.size 41 12 v cs.length (ents cs) ∧ Blk wr N 37 #[.bool P.null, .int .i64 P.n, .string P.s, .int .i64 P.seq] ∧ Below w.heap.size w wr) (fun _ i _ => l.length - (intOf i).toNat)
          case atStart => exact ⟨0, [], by omega, rfl, by simp, Lib.hid rfl, World.ownsRow_nil _ _ _ _, UP.out, UB.out⟩
          case round =>
            obtain ⟨k, cs, hk, rfl, hcl, hcs, hown, bP, hbel⟩ := hrel
            by_cases hlt : k < l.length
            · obtain ⟨ad, e, pe, rfl, he, hpe, hE⟩ := (HS.out.below hbel).ent_load rfl hlt
              obtain ⟨hplt, c0, c1, c2, c3, c4, c5, c6, c7, c8, c9, c10, c11⟩ := hE
              have HT := Lib.hid (show (l.take (k + 1)).filter (inP t P) = cs ++ (if inP t P e = true then [e] else []) by rw [List.take_add_one, he, List.filter_append, ← hcs.out, Option.toList_some]; congr 1; simp only [List.filter_cons, List.filter_nil])
              have HLT := Lib.hid hlt
              have qk : decide (k < l.length) = true := by simpa using hlt
              obtain ⟨N5, hN5⟩ : ∃ N, wr.heap.size = N := ⟨_, rfl⟩
              obtain ⟨V, hV⟩ : ∃ V, V = wr.alloc (.cells #[.int .i64 e.id, .int .i64 e.rows, .int .i64 e.live, .bool e.lo.null, .int .i64 e.lo.n, .string e.lo.s, .int .i64 e.lo.seq, .bool e.hi.null, .int .i64 e.hi.n, .string e.hi.s, .int .i64 e.hi.seq, .int .i64 e.del] 41) := ⟨_, rfl⟩
              have hbV : Below wr.heap.size wr V := by rw [hV]; exact abel _ _
              have VE := Lib.hid (show Blk V N5 41 #[.int .i64 e.id, .int .i64 e.rows, .int .i64 e.live, .bool e.lo.null, .int .i64 e.lo.n, .string e.lo.s, .int .i64 e.lo.seq, .bool e.hi.null, .int .i64 e.hi.n, .string e.hi.s, .int .i64 e.hi.seq, .int .i64 e.del] by rw [hV, ← hN5]; exact Blk.new _ _ _)
              have VP := Lib.hid (bP.below hbV bP.lt)
              have VO := Lib.hid (own_below hown hbV)
              have VB := Lib.hid (hbel.trans (hbV.mono hbel.size))
              have HCL := Lib.hid hcl
              clear he hlt bP hbel hown hbV
              have bb := VE.out
              have d0 := bb.cell 0
              have d1 := bb.cell 1
              have d2 := bb.cell 2
              have d3 := bb.cell 3
              have d4 := bb.cell 4
              have d5 := bb.cell 5
              have d6 := bb.cell 6
              have d7 := bb.cell 7
              have d8 := bb.cell 8
              have d9 := bb.cell 9
              have d10 := bb.cell 10
              have d11 := bb.cell 11
              simp only [List.getElem?_toArray, List.getElem?_cons_zero, List.getElem?_cons_succ] at d0 d1 d2 d3 d4 d5 d6 d7 d8 d9 d10 d11
              clear bb
              have bb := VP.out
              have q0 := bb.cell 0
              have q1 := bb.cell 1
              have q2 := bb.cell 2
              have q3 := bb.cell 3
              simp only [List.getElem?_toArray, List.getElem?_cons_zero, List.getElem?_cons_succ] at q0 q1 q2 q3
              clear bb
              go_upto_region 8 with (fail)
              rw [← hV]
              try simp only [hN5]
              clear hV hN5 c0 c1 c2 c3 c4 c5 c6 c7 c8 c9 c10 c11 hpe hplt
              obtain ⟨ib, hib⟩ : ∃ b, inP t P e = b := ⟨_, rfl⟩
              have HCO := Lib.hid (dcont_any t (rgOf e) P V (show contR t (rgOf e) P = ib from hib))
              rw [hib] at HT
              clear hib
              go_wp2_with fail
              refine HCO.out.mono ?_
              rintro _ w8 ⟨rfl, hb8⟩
              have ZE := Lib.hid (VE.out.below hb8 VE.out.lt)
              have ZP := Lib.hid (VP.out.below hb8 VP.out.lt)
              have ZO := Lib.hid (own_below VO.out hb8)
              have ZB := Lib.hid (VB.out.trans (hb8.mono VB.out.size))
              clear hb8
              clear d0 d1 d2 d3 d4 d5 d6 d7 d8 d9 d10 d11
              clear q0 q1 q2 q3
              cases ib with
              | false =>
                have HN := Lib.hid (show cs = (l.take (k + 1)).filter (inP t P) by rw [HT.out, if_neg (by simp), List.append_nil])
                go_wp2
                go_roundw
                case rel => exact ⟨k + 1, cs, HLT.out, by go_num, by have := HCL.out; omega, HN, ZO.out, ZP.out, ZB.out⟩
                case measure => have := HLT.out; simp [intOf]; omega
              | true =>
                have HN := Lib.hid (show cs ++ [e] = (l.take (k + 1)).filter (inP t P) by rw [HT.out, if_pos rfl])
                obtain ⟨R, hR⟩ : ∃ R, cs.length = R := ⟨_, rfl⟩
                have HRR := Lib.hid hR
                have hrn : R < 1000000 := by have := HCL.out; have := HLT.out; omega
                have hO := ZO.out
                have hB := ZB.out
                simp only [hR] at hO
                clear hR
                have hsz := hB.size
                have bb := ZE.out
                have d0 := bb.cell 0
                have d1 := bb.cell 1
                have d2 := bb.cell 2
                have d3 := bb.cell 3
                have d4 := bb.cell 4
                have d5 := bb.cell 5
                have d6 := bb.cell 6
                have d7 := bb.cell 7
                have d8 := bb.cell 8
                have d9 := bb.cell 9
                have d10 := bb.cell 10
                have d11 := bb.cell 11
                simp only [List.getElem?_toArray, List.getElem?_cons_zero, List.getElem?_cons_succ] at d0 d1 d2 d3 d4 d5 d6 d7 d8 d9 d10 d11
                clear bb
                go_wp2_with (at_builtin; go_must (refine app1 _ _ hO hB (Nat.le_refl _) hsz under_entry info_entry rfl (by decide) rfl (one12 _ _ _ _ _ _ _ _ _ _ _ _) (by omega) (by omega) rfl rfl rfl rfl ?_))
                intro g' cap' w9 hown9 hbel9 hgr9 _
                have ZP9 := Lib.hid (ZP.out.grown hgr9 (fun e => own_blk_ne hO ZP.out (by decide) e))
                clear hO hB hsz
                go_wp2
                go_roundw
                case rel => exact ⟨k + 1, cs ++ [e], HLT.out, by go_num, by have := HCL.out; simp; omega, HN, own_entsR HRR.out hown9, ZP9.out, hbel9⟩
                case measure => have := HLT.out; simp [intOf]; omega
            · have hkl : k = l.length := by omega
              have HCS := Lib.hid (show cs = l.filter (inP t P) by rw [hcs.out, hkl, List.take_length])
              subst hkl
              have hasc : Asc cs := by rw [HCS.out]; exact List.Pairwise.filter _ HF0.out.1
              have hidc : ∀ e ∈ cs, 0 ≤ e.id ∧ e.id ≤ 2147483647 := fun e he => HF0.out.2.1 e (by rw [HCS.out] at he; exact (List.mem_filter.1 he).1)
              obtain ⟨S, hS⟩ : ∃ S, chosenL cs = S := ⟨_, rfl⟩
              have hperm : S.Perm cs := by rw [← hS]; exact chosen_perm hasc
              have hpw : S.Pairwise ltL := by rw [← hS]; exact (chosen_is hasc).1
              have hSl : S.length ≤ 1000000 := by rw [hperm.length_eq]; omega
              obtain ⟨AV, cV, rfl, hcV1, hcV2⟩ := (Sl.of_own hown).form
              have HSO := Lib.hid (sortP_any (.slice AV cs.length cV) w.heap.size cs S wr hown hidc (by omega) hperm hpw (fun x hx y hy h => asc_inj hasc hx hy h))
              have hSc : cs.length = S.length := hperm.length_eq.symm
              rw [hSc] at HSO
              have HB := Lib.hid hbel
              have HOW := Lib.hid hown
              have HTE := Lib.hid (show topI t l y = (S.take y.toNat).map (·.id) by unfold topI topE; rw [HPP.out, ← HCS.out, hS])
              have hidn : (S.map (·.id)).Nodup := by
                refine List.pairwise_map.2 (List.Pairwise.imp_of_mem (fun {a b} ha hb hab e => ?_) (ltL_nodup hpw))
                exact hab (asc_inj hasc (hperm.mem_iff.1 ha) (hperm.mem_iff.1 hb) e)
              have HIDN := Lib.hid hidn
              simp only [hSc] at *
              clear hown bP hbel hcs hcl hS hasc hidc hperm hpw hidn hSc
              go_wp2_with fail
              refine HSO.out.mono ?_
              rintro _ w10 ⟨rfl, ho10, hg10⟩
              have O10 := Lib.hid ho10
              have X10 := Lib.hid (HB.out.grown hg10 HB.out.size (fun b hb => (HOW.out.lt b hb).1))
              clear ho10 hg10
              obtain ⟨R, hR⟩ : ∃ R, S.length = R := ⟨_, rfl⟩
              rw [hR] at O10 hSl hcV1
              obtain ⟨M, hM⟩ : ∃ M : Nat, min y (R : Int) = (M : Int) := ⟨(min y (R : Int)).toNat, by omega⟩
              have hMR : M ≤ R := by omega
              have HMM := Lib.hid (show S.take y.toNat = S.take M by
                rcases Nat.lt_or_ge y.toNat R with h | h
                · rw [show M = y.toNat by omega]
                · rw [List.take_of_length_le (by omega), List.take_of_length_le (by omega)])
              have HSM := Lib.hid (show Sl w10 12 (.slice AV M cV) M (ents (S.take M)) by rw [← ents_take12]; exact front2 (Sl.of_own O10.out) hMR)
              have HMl := Lib.hid (show (S.take M).length = M by rw [List.length_take]; omega)
              try simp only [hR]
              clear hR
              go_wp2
              go_loopw [14, 72] (fun v i wr => ∃ (k : Nat) (is : List Int), k ≤ M ∧ i = .int .i64 k ∧ is.length = k ∧ Hid (is = ((S.take M).take k).map (·.id)) ∧ Hid (is = [] → v = .slice none 0 0) ∧ wr.ownsRow w10.heap.size 3 1 v is.length (ints is) ∧ Below w10.heap.size w10 wr) (fun _ i _ => M - (intOf i).toNat)
              case atStart => exact ⟨0, [], by omega, rfl, rfl, Lib.hid rfl, Lib.hid fun _ => rfl, World.ownsRow_nil _ _ _ _, Below.refl _ _⟩
              case round =>
                obtain ⟨k2, is, hk2, rfl, hil, his, hnil, hown, hbel⟩ := hrel
                by_cases hlt2 : k2 < M
                · obtain ⟨ad, e, pe, rfl, he, hpe, hE⟩ := (HSM.out.below hbel).ent_load HMl.out.symm hlt2
                  obtain ⟨hplt, c0, c1, c2, c3, c4, c5, c6, c7, c8, c9, c10, c11⟩ := hE
                  have HN := Lib.hid (show is ++ [e.id] = ((S.take M).take (k2 + 1)).map (·.id) by rw [List.take_add_one, he, his.out]; simp)
                  have HLT := Lib.hid hlt2
                  have qk : decide (k2 < M) = true := by simpa using hlt2
                  obtain ⟨V, hV⟩ : ∃ V, V = wr.alloc (.cells #[.int .i64 e.id, .int .i64 e.rows, .int .i64 e.live, .bool e.lo.null, .int .i64 e.lo.n, .string e.lo.s, .int .i64 e.lo.seq, .bool e.hi.null, .int .i64 e.hi.n, .string e.hi.s, .int .i64 e.hi.seq, .int .i64 e.del] 41) := ⟨_, rfl⟩
                  have hbV : Below wr.heap.size wr V := by rw [hV]; exact abel _ _
                  have VE := Lib.hid (show Blk V wr.heap.size 41 #[.int .i64 e.id, .int .i64 e.rows, .int .i64 e.live, .bool e.lo.null, .int .i64 e.lo.n, .string e.lo.s, .int .i64 e.lo.seq, .bool e.hi.null, .int .i64 e.hi.n, .string e.hi.s, .int .i64 e.hi.seq, .int .i64 e.del] by rw [hV]; exact Blk.new _ _ _)
                  have VO := Lib.hid (own_below hown hbV)
                  have VB := Lib.hid (hbel.trans (hbV.mono hbel.size))
                  have HIL := Lib.hid hil
                  obtain ⟨R2, hR2⟩ : ∃ R2, is.length = R2 := ⟨_, rfl⟩
                  have HRR := Lib.hid hR2
                  have hrn : R2 < 1000000 := by omega
                  clear he hown hbel hbV hil
                  have bb := VE.out
                  have d0 := bb.cell 0
                  have d1 := bb.cell 1
                  have d2 := bb.cell 2
                  have d3 := bb.cell 3
                  have d4 := bb.cell 4
                  have d5 := bb.cell 5
                  have d6 := bb.cell 6
                  have d7 := bb.cell 7
                  have d8 := bb.cell 8
                  have d9 := bb.cell 9
                  have d10 := bb.cell 10
                  have d11 := bb.cell 11
                  simp only [List.getElem?_toArray, List.getElem?_cons_zero, List.getElem?_cons_succ] at d0 d1 d2 d3 d4 d5 d6 d7 d8 d9 d10 d11
                  clear bb
                  go_upto_region 16 with (fail)
                  rw [← hV]
                  clear hV
                  have hO := VO.out
                  have hB := VB.out
                  simp only [hR2] at hO
                  clear hR2
                  have hsz := hB.size
                  go_wp2_with (at_builtin; go_must (refine app1 _ _ hO hB (Nat.le_refl _) hsz under_i64 info_i64 rfl (by decide) rfl (oneInt _ _) (by omega) (by omega) rfl rfl rfl rfl ?_))
                  intro g' cap' w9 hown9 hbel9 hgr9 _
                  have HB9 := Lib.hid hbel9
                  clear hO hB hsz hbel9
                  go_wp2
                  go_roundw
                  case rel => exact ⟨k2 + 1, is ++ [e.id], HLT.out, by go_num, by simp [HIL.out], HN, Lib.hid fun h => by simp at h, own_intsR HRR.out hown9, HB9.out⟩
                  case measure => have := HLT.out; simp [intOf]; omega
                · have HIS := Lib.hid (show is = topI t l y by rw [his.out, HTE.out, HMM.out, show k2 = (S.take M).length by have := HMl.out; omega, List.take_length])
                  have hnd : is.Nodup := by rw [HIS.out, HTE.out]; exact List.Nodup.sublist (List.Sublist.map _ (List.take_sublist _ _)) HIDN.out
                  obtain ⟨T, hT⟩ : ∃ T, sortI is = T := ⟨_, rfl⟩
                  have hTp : T.Perm is := by rw [← hT]; exact (List.perm_ext_iff_of_nodup (asc_int_nodup (sortI_is hnd).1) hnd).2 (sortI_is hnd).2
                  have hTa : T.Pairwise (· < ·) := by rw [← hT]; exact (sortI_is hnd).1
                  obtain ⟨AI, cI, rfl, hcI1, hcI2⟩ := (Sl.of_own hown).form
                  have HSQ := Lib.hid (sortQ_any (.slice AI is.length cI) w10.heap.size is T wr hown (by omega) hTp hTa)
                  have HTQ := Lib.hid (show T = Q by rw [HF.out, ← HIS.out, hT])
                  have HNI := Lib.hid (show T = [] → Value.slice AI is.length cI = .slice none 0 0 from fun h => hnil.out (by subst h; exact (List.Perm.nil_eq hTp).symm))
                  have HO := Lib.hid hown
                  have HB := Lib.hid (X10.out.trans (hbel.mono X10.out.size))
                  obtain ⟨R2, hR2⟩ : ∃ R2, is.length = R2 := ⟨_, rfl⟩
                  rw [hR2] at HSQ HNI HO
                  simp only [hR2]
                  clear hown hbel hnil his hil hT hTp hTa hnd hR2
                  go_wp2_with fail
                  refine HSQ.out.mono ?_
                  rintro _ w12 ⟨rfl, ho12, hg12⟩
                  have O12 := Lib.hid (own_mono ho12 X10.out.size)
                  have X12 := Lib.hid (HB.out.grown hg12 HB.out.size (fun b hb => Nat.le_trans X10.out.size (HO.out.lt b hb).1))
                  clear ho12 hg12
                  go_wp2
                  go_ret
                  exact ⟨_, rfl, X12.out, by rw [← HTQ.out]; exact O12.out, fun h => HNI.out (by rw [HTQ.out]; exact h)⟩
def pickQ (t : Int) (l : List Ent) (d y rows : Int) : List Int := if peakQ t l d y ≠ [] then peakQ t l d y else match pairP t l rows with | none => [] | some s => [min s.1.id s.2.id, max s.1.id s.2.id]
set_option maxRecDepth 100000 in
set_option maxHeartbeats 8000000 in
theorem pick28_any (t : Int) (v : Value) (l : List Ent) (d y rows : Int) (w : World) (hs : Sl w 12 v l.length (ents l)) (hw : ∀ e ∈ l, e.small) (hl : l.length ≤ 1000000) (hlv : ∀ e ∈ l, -1000000 ≤ e.live ∧ e.live ≤ 1000000) :
    Calls Try.prog 23 #[.int .i64 t, v, .int .i64 d, .int .i64 y, .int .i64 rows] w (RetIds w (pickQ t l d y rows)) := by
  obtain ⟨A, c, rfl, hc1, hc2⟩ := hs.form
  have HP := Lib.hid (peak_any t (.slice A l.length c) l d y w hs hw hl)
  have HQ := Lib.hid (fun X (hX : Below w.heap.size w X) => ppair_any t (.slice A l.length c) l rows X (hs.below hX) hw hl hlv)
  have HD := Lib.hid (show pickQ t l d y rows = if peakQ t l d y ≠ [] then peakQ t l d y else match pairP t l rows with | none => [] | some s => [min s.1.id s.2.id, max s.1.id s.2.id] from rfl)
  obtain ⟨K, hK⟩ : ∃ K, pickQ t l d y rows = K := ⟨_, rfl⟩
  obtain ⟨L, hL⟩ : ∃ L, peakQ t l d y = L := ⟨_, rfl⟩
  obtain ⟨S, hS⟩ : ∃ S, pairP t l rows = S := ⟨_, rfl⟩
  rw [hK, hL, hS] at HD
  rw [hL] at HP
  rw [hS] at HQ
  rw [hK]
  clear hK hL hS hs hw hlv
  go_enter Try.func23, Try.ntmps23
  go_wp2_with fail
  refine HP.out.mono ?_
  rintro _ w2 ⟨v2, rfl, hb2, ho2, hn2⟩
  have HB2 := Lib.hid hb2
  clear hb2
  by_cases h0 : L = []
  · subst h0
    have e2 := hn2 rfl
    subst e2
    clear ho2 hn2 HP
    go_wp2_with fail
    refine (HQ.out _ HB2.out).mono ?_
    rintro _ w3 ⟨rfl, hb3⟩
    have HB3 := Lib.hid (bst HB2.out hb3)
    clear hb3
    cases S with
    | none =>
      have HF := Lib.hid (show K = [] by rw [HD.out]; rfl)
      simp only [Option.isSome_none]
      go_wp2
      go_ret
      exact ⟨_, rfl, HB3.out, by rw [HF.out]; exact World.ownsRow_nil _ _ _ _, fun _ => rfl⟩
    | some s =>
      obtain ⟨a, b⟩ := s
      have HF := Lib.hid (show K = [min a.id b.id, max a.id b.id] by rw [HD.out]; rfl)
      simp only [Option.isSome_some]
      simp only [show (pairE (some (a, b))).1 = a from rfl, show (pairE (some (a, b))).2 = b from rfl]
      go_wp2
      go_ret
      refine ⟨_, rfl, HB3.out.alloc HB3.out.size _, ?_, fun h => by rw [HF.out] at h; cases h⟩
      rw [HF.out]
      exact own_blk (n := 2) (size := 1) (Blk.new _ _ _) HB3.out.size rfl (by decide)
  · have HF := Lib.hid (show K = L by rw [HD.out, if_pos h0])
    rcases ho2.2 with ⟨rfl, hn⟩ | ⟨g, cap, cur, rfl, hg⟩
    · exact absurd (List.eq_nil_of_length_eq_zero hn) h0
    · have HO := Lib.hid ho2
      have HL := Lib.hid h0
      clear ho2 hn2 hg h0
      go_wp2
      go_ret
      exact ⟨_, rfl, HB2.out, by rw [HF.out]; exact HO.out, fun h => absurd (HF.out ▸ h) HL.out⟩
end Go.Proofs.Ytcjekbncllccbaa
