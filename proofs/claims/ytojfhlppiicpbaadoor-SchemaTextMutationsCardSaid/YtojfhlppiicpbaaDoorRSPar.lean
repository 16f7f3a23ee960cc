/-
  The contract of ref6.ParseSchema.
-/
import Derived.Test.YtojfhlppiicpbaaDoorRSCol
namespace Go.Proofs.YtojfhlppiicpbaaDoor
open Go.RowKit Go.Sort
set_option linter.unusedVariables false
theorem seg_line {S : List UInt8} {p t : Nat} (h1 : p ≤ t) (h2 : t ≤ S.length) (hr : ∀ j, p ≤ j → j < t → S[j]? ≠ some 10) (he : t = S.length ∨ S[t]? = some 10) : lineT (S.drop p) = pieceW S p t ∧ lineR (S.drop p) = S.drop t := by
  have hs : S.drop p = pieceW S p t ++ S.drop t := by
    unfold pieceW
    have := (List.take_append_drop (t - p) (S.drop p)).symm
    rw [List.drop_drop, show p + (t - p) = t by omega] at this
    exact this
  have hn : ∀ x ∈ pieceW S p t, x ≠ 10 := by
    intro x hx e
    unfold pieceW at hx
    obtain ⟨k, hk⟩ := List.mem_iff_getElem?.1 hx
    have hlt : k < t - p := by
      have := (List.getElem?_eq_some_iff.1 hk).1
      rw [List.length_take] at this; omega
    rw [List.getElem?_take_of_lt hlt, List.getElem?_drop] at hk
    exact hr (p + k) (by omega) (by omega) (by rw [hk, e])
  rcases he with he | he
  · have : S.drop t = [] := by rw [he]; exact List.drop_length
    rw [this, List.append_nil] at hs
    rw [hs, this]; exact line_all hn
  · have h10 : S.drop t = 10 :: S.drop (t + 1) := by
      have hi := (List.getElem?_eq_some_iff.1 he).1
      rw [List.drop_eq_getElem_cons hi]
      congr 1
      exact (List.getElem?_eq_some_iff.1 he).2
    rw [hs, h10]; exact line_of hn
set_option maxRecDepth 100000 in
set_option maxHeartbeats 8000000 in
theorem rspar_any (s : ByteArray) (w : World) (hs : s.size ≤ 140737488351232) :
    Calls Tryd.prog 19 #[.string s] w (RetSp w (sparV s.data.toList)) := by
  have hlenS := sizeD s
  obtain ⟨RES, hRES⟩ : ∃ r, r = sparV s.data.toList := ⟨_, rfl⟩
  rw [← hRES]
  have hbR0 := below_new w (.cells #[.slice none 0 0, .int .i64 0] 34)
  have bR0 := Blk.new w 34 #[.slice none 0 0, .int .i64 0]
  obtain ⟨W1, hW1⟩ : ∃ X, X = w.alloc (.cells #[.slice none 0 0, .int .i64 0] 34) := ⟨_, rfl⟩
  have hz1 : W1.heap.size = w.heap.size + 1 := by rw [hW1]; simp
  rw [← hW1] at hbR0 bR0
  obtain ⟨R, hR⟩ : ∃ R, R = w.heap.size := ⟨_, rfl⟩
  rw [← hR] at bR0
  have hRw : w.heap.size ≤ R := by omega
  by_cases hbig : 65536 < s.size
  · have HO := Lib.hid (show RES = (([], 0), 0, 7) by rw [hRES]; unfold sparV; rw [if_pos (by omega)])
    have HBR := Lib.hid bR0
    have HBL := Lib.hid hbR0
    have big : (65536 : Int) < s.size := by omega
    have R0 : W1.cell? ⟨R, 0, none⟩ = some (.slice none 0 0) := HBR.out.cell 0
    have R1 : W1.cell? ⟨R, 1, none⟩ = some (.int .i64 0) := HBR.out.cell 1
    have f0 := HBR.out.frozen 0
    have f1 := HBR.out.frozen 1
    clear hRES hbR0 bR0 hz1
    go_enter Tryd.func19, Tryd.ntmps19
    go_upto_region 1 with (fail)
    rw [← hW1, ← hR]
    clear hW1 hR
    go_wp2
    have b2 := blk2S (.slice none 0 0) (.int .i64 0) HBR.out
    have q0 : _ = some (Value.slice none 0 0) := b2.cell 0
    have q1 : _ = some (Value.int .i64 0) := b2.cell 1
    exact bodyPost_ret (v := .tuple #[.agg #[.slice none 0 0, .int .i64 0], .int .i64 0, .int .i64 7]) (by simp [results, Tryd.results19, go_sem, q0, q1]) rfl (RetSp.err HO.out (below2S _ _ HBL.out hRw))
  have HR := Lib.hid (show goP (s.size + 1) s.data.toList 1 [] [] 0 = RES by rw [hRES]; unfold sparV; rw [if_neg (by omega), hlenS])
  have hbS0 := below_new W1 (.cells #[.slice none 0 0, .int .i64 0] 34)
  have bS0 := Blk.new W1 34 #[.slice none 0 0, .int .i64 0]
  obtain ⟨W2, hW2⟩ : ∃ X, X = W1.alloc (.cells #[.slice none 0 0, .int .i64 0] 34) := ⟨_, rfl⟩
  have hz2 : W2.heap.size = W1.heap.size + 1 := by rw [hW2]; simp
  rw [← hW2] at hbS0 bS0
  obtain ⟨S, hS⟩ : ∃ S, S = W1.heap.size := ⟨_, rfl⟩
  rw [← hS] at bS0
  obtain ⟨D, hD⟩ : ∃ D, D = W2.heap.size := ⟨_, rfl⟩
  have hSR : S ≠ R := by omega
  have hSD : S < D := by omega
  have hDS : D ≤ S + 1 := by omega
  have hRD : R < D := by omega
  have hwS : w.heap.size ≤ S := by omega
  have hwD : w.heap.size ≤ D := by omega
  have HBR2 := Lib.hid (bR0.below hbS0 bR0.lt)
  have HBS2 := Lib.hid bS0
  have HBL2 := Lib.hid (bst hbR0 hbS0)
  have HD2 := Lib.hid (show D ≤ W2.heap.size by omega)
  have nbig : (s.size : Int) ≤ 65536 := by omega
  clear hRES hbR0 bR0 hz1 hz2 hbS0 bS0 hD
  go_enter Tryd.func19, Tryd.ntmps19
  go_upto_region 1 with (fail)
  rw [← hW1, ← hR]
  have HW2 := Lib.hid hW2
  have HS := Lib.hid hS
  clear hR hW1 hW2 hS
  go_upto_region 4 with (fail)
  rw [← HW2.out, ← HS.out]
  go_wp2
  go_loopw [6, 7, 8, 9] (fun t6 t7 t8 t9 wr => ∃ (f p : Nat) (kw : ByteArray) (cs : List Col) (kl ln : Nat) (v : Value), t6 = .string kw ∧ t7 = .int .i64 kl ∧ t8 = .int .i64 ln ∧ t9 = .int .i64 p ∧ p ≤ s.size ∧ s.size - p < f ∧ cs.length ≤ p ∧ ln ≤ p ∧ kl ≤ 65537 ∧ (∀ c ∈ cs, c.nm.size ≤ 65536) ∧ Blk wr R 34 #[.slice none 0 0, .int .i64 0] ∧ Blk wr S 34 #[v, .int .i64 0] ∧ wr.ownsRow D 41 4 v cs.length (cols cs) ∧ Below w.heap.size w wr ∧ D ≤ wr.heap.size ∧ Hid (goP f (s.data.toList.drop p) ((ln : Int) + 1) cs kw.data.toList kl = RES)) (fun _ _ _ t9 _ => s.size - (intOf t9).toNat)
  case atStart => exact ⟨s.size + 1, 0, { data := #[] }, [], 0, 0, .slice none 0 0, rfl, rfl, rfl, rfl, by omega, by omega, by simp, by omega, by omega, by simp, HBR2.out, HBS2.out, World.ownsRow_nil _ _ _ _, HBL2.out, HD2.out, HR⟩
  case round =>
    obtain ⟨f, p, kw, cs, kl, ln, v, rfl, rfl, rfl, rfl, hp, hsf, hcs, hln, hkl, hnm, hbr, hbs, hown, hbel, hDw, hgo⟩ := hrel
    obtain ⟨f, rfl⟩ : ∃ f', f = f' + 1 := ⟨f - 1, by omega⟩
    obtain ⟨A, cp, rfl, hd1, hd2⟩ := (Sl.of_own hown).form
    unfold maxLen at hd2
    have HBR := Lib.hid hbr
    have HBS := Lib.hid hbs
    have HOW := Lib.hid hown
    have HBL := Lib.hid hbel
    have HDW := Lib.hid hDw
    have HNM := Lib.hid hnm
    clear hbr hbs hown hbel hDw hnm HBR2 HBS2 HBL2 HD2
    by_cases h0 : p = s.size
    case pos =>
      have HF := Lib.hid (show finP cs kw.data.toList kl = RES by rw [← hgo.out, show s.data.toList.drop p = [] from by rw [h0, ← hlenS]; exact List.drop_length, goP_nil])
      clear hgo hsf
      have e1 : ¬((p : Int) < s.size) := by omega
      by_cases hk0 : kl = 0
      case pos =>
        have HO := Lib.hid (show RES = (([], 0), 0, 2) by rw [← HF.out]; unfold finP; rw [if_pos (by omega)]; rfl)
        have qk : ((kl : Int) == 0) = true := by subst hk0; rfl
        clear HF hk0
        have R0 : wr.cell? ⟨R, 0, none⟩ = some (.slice none 0 0) := HBR.out.cell 0
        have f0 := HBR.out.frozen 0
        have R1 : wr.cell? ⟨R, 1, none⟩ = some (.int .i64 0) := HBR.out.cell 1
        have f1 := HBR.out.frozen 1
        go_wp2
        have b2 := blk2S (.slice none 0 0) (.int .i64 0) HBR.out
        have q0 : _ = some (Value.slice none 0 0) := b2.cell 0
        have q1 : _ = some (Value.int .i64 0) := b2.cell 1
        exact bodyPost_ret (v := .tuple #[.agg #[.slice none 0 0, .int .i64 0], .int .i64 0, .int .i64 2]) (by simp [results, Tryd.results19, go_sem, q0, q1]) rfl (RetSp.err HO.out (below2S _ _ HBL.out hRw))
      case neg =>
        have qk : ((kl : Int) == 0) = false := by rw [beq_eq_false_iff_ne]; omega
        obtain ⟨F, hF⟩ : ∃ F, F = findC cs kw := ⟨_, rfl⟩
        have HF2 := Lib.hid (show (if F < 0 then (([], 0), (kl : Int), 3) else if schkV cs F ≠ 0 then (([], 0), 0, schkV cs F) else ((cs, F), 0, 0) : SRes) = RES by
          rw [← HF.out]; unfold finP; rw [mkS_of, ← hF, if_neg (show ¬((kl : Int) = 0) by omega)])
        have FC := Lib.hid (rfind_any _ cs 0 kw wr (Sl.of_own HOW.out) (by omega))
        rw [← hF] at FC
        have i0 : wr.cell? ⟨S, 0, none⟩ = some (.slice A cs.length cp) := HBS.out.cell 0
        have i1 : wr.cell? ⟨S, 1, none⟩ = some (.int .i64 0) := HBS.out.cell 1
        clear HF hF hk0
        go_wp2_with fail
        refine FC.out.mono ?_
        rintro _ X1 ⟨rfl, hb1⟩
        clear i0 i1 FC
        replace HBR := Lib.hid (HBR.out.below hb1 HBR.out.lt)
        replace HBS := Lib.hid (HBS.out.below hb1 HBS.out.lt)
        replace HOW := Lib.hid (own_below HOW.out hb1)
        replace HBL := Lib.hid (bst HBL.out hb1)
        replace HDW := Lib.hid (Nat.le_trans HDW.out hb1.size)
        clear hb1
        have i1 : X1.cell? ⟨S, 1, none⟩ = some (.int .i64 0) := HBS.out.cell 1
        have g1 := HBS.out.frozen 1
        go_upto_region 25 with (fail)
        clear i1 g1
        have bS3 := blkS1 (.int .i64 F) HBS.out
        have bR3 := farC 1 (.int .i64 F) (Ne.symm hSR) HBR.out
        have bO3 := own_row HOW.out (grownBy_set X1 ⟨S, 1, none⟩ (.int .i64 F)) (fun b hb e => own_blk_ne HOW.out HBS.out (by decide) (by rw [hb, e]))
        have bL3 := HBL.out.setCell (p := ⟨S, 1, none⟩) hwS (.int .i64 F)
        obtain ⟨X, hX⟩ : ∃ X, X = X1.setCell ⟨S, 1, none⟩ (.int .i64 F) := ⟨_, rfl⟩
        rw [← hX] at bS3 bR3 bO3 bL3 ⊢
        clear hX
        replace HBS := Lib.hid bS3
        replace HBR := Lib.hid bR3
        replace HOW := Lib.hid bO3
        replace HBL := Lib.hid bL3
        replace HDW := Lib.hid (show D ≤ X.heap.size by have := HBS.out.lt; omega)
        clear bS3 bR3 bO3 bL3
        have i0 : X.cell? ⟨S, 0, none⟩ = some (.slice A cs.length cp) := HBS.out.cell 0
        have i1 : X.cell? ⟨S, 1, none⟩ = some (.int .i64 F) := HBS.out.cell 1
        by_cases hF0 : F < 0
        case pos =>
          have HO := Lib.hid (show RES = (([], 0), (kl : Int), 3) by rw [← HF2.out, if_pos hF0])
          clear HF2
          have R0 : X.cell? ⟨R, 0, none⟩ = some (.slice none 0 0) := HBR.out.cell 0
          have f0 := HBR.out.frozen 0
          have R1 : X.cell? ⟨R, 1, none⟩ = some (.int .i64 0) := HBR.out.cell 1
          have f1 := HBR.out.frozen 1
          go_wp2
          have b2 := blk2S (.slice none 0 0) (.int .i64 0) HBR.out
          have q0 : _ = some (Value.slice none 0 0) := b2.cell 0
          have q1 : _ = some (Value.int .i64 0) := b2.cell 1
          exact bodyPost_ret (v := .tuple #[.agg #[.slice none 0 0, .int .i64 0], .int .i64 (kl : Int), .int .i64 3]) (by simp [results, Tryd.results19, go_sem, q0, q1]) rfl (RetSp.err HO.out (below2S _ _ HBL.out hRw))
        case neg =>
          have CK := Lib.hid (rschk_any _ cs F X (Sl.of_own HOW.out) (by omega) (fun c hc => by have := HNM.out c hc; omega))
          obtain ⟨E, hE⟩ : ∃ E, E = schkV cs F := ⟨_, rfl⟩
          rw [← hE] at CK
          have HF3 := Lib.hid (show (if E ≠ 0 then (([], 0), 0, E) else ((cs, F), 0, 0) : SRes) = RES by rw [← HF2.out, if_neg hF0, hE])
          clear HF2 hE
          go_wp2_with fail
          refine CK.out.mono ?_
          rintro _ X2 ⟨rfl, hb2⟩
          clear i0 i1 CK
          replace HBR := Lib.hid (HBR.out.below hb2 HBR.out.lt)
          replace HBS := Lib.hid (HBS.out.below hb2 HBS.out.lt)
          replace HOW := Lib.hid (own_below HOW.out hb2)
          replace HBL := Lib.hid (bst HBL.out hb2)
          replace HDW := Lib.hid (Nat.le_trans HDW.out hb2.size)
          clear hb2
          by_cases hE0 : E = 0
          case neg =>
            have HO := Lib.hid (show RES = (([], 0), 0, E) by rw [← HF3.out, if_pos hE0])
            have qe : (E != 0) = true := by rw [bne_iff_ne]; exact hE0
            clear HF3 hE0
            have R0 : X2.cell? ⟨R, 0, none⟩ = some (.slice none 0 0) := HBR.out.cell 0
            have f0 := HBR.out.frozen 0
            have R1 : X2.cell? ⟨R, 1, none⟩ = some (.int .i64 0) := HBR.out.cell 1
            have f1 := HBR.out.frozen 1
            go_wp2
            have b2 := blk2S (.slice none 0 0) (.int .i64 0) HBR.out
            have q0 : _ = some (Value.slice none 0 0) := b2.cell 0
            have q1 : _ = some (Value.int .i64 0) := b2.cell 1
            exact bodyPost_ret (v := .tuple #[.agg #[.slice none 0 0, .int .i64 0], .int .i64 0, .int .i64 E]) (by simp [results, Tryd.results19, go_sem, q0, q1]) rfl (RetSp.err HO.out (below2S _ _ HBL.out hRw))
          case pos =>
            have HO := Lib.hid (show RES = ((cs, F), 0, 0) by rw [← HF3.out, if_neg (by simp [hE0])])
            have qe : (E != 0) = false := by rw [hE0]; rfl
            clear HF3 hE0
            have i0 : X2.cell? ⟨S, 0, none⟩ = some (.slice A cs.length cp) := HBS.out.cell 0
            have i1 : X2.cell? ⟨S, 1, none⟩ = some (.int .i64 F) := HBS.out.cell 1
            have R0 : X2.cell? ⟨R, 0, none⟩ = some (.slice none 0 0) := HBR.out.cell 0
            have f0 := HBR.out.frozen 0
            have R1 : X2.cell? ⟨R, 1, none⟩ = some (.int .i64 0) := HBR.out.cell 1
            have f1 := HBR.out.frozen 1
            go_wp2
            have b2 := blk2S (.slice A cs.length cp) (.int .i64 F) HBR.out
            have q0 : _ = some (Value.slice A cs.length cp) := b2.cell 0
            have q1 : _ = some (Value.int .i64 F) := b2.cell 1
            have o1 := own_row HOW.out (grownBy_set X2 ⟨R, 0, none⟩ (.slice A cs.length cp)) (fun b hb e => own_blk_ne HOW.out HBR.out (by decide) (by rw [hb, e]))
            have o2 := own_row o1 (grownBy_set _ ⟨R, 1, none⟩ (.int .i64 F)) (fun b hb e => own_blk_ne HOW.out HBR.out (by decide) (by rw [hb, e]))
            exact bodyPost_ret (v := .tuple #[.agg #[.slice A cs.length cp, .int .i64 F], .int .i64 0, .int .i64 0]) (by simp [results, Tryd.results19, go_sem, q0, q1]) rfl (RetSp.ok HO.out (Sl.of_own o2) (below2S _ _ HBL.out hRw))
    case neg =>
      have hne : s.data.toList.drop p ≠ [] := by
        intro h
        have := congrArg List.length h
        rw [List.length_drop] at this
        simp at this; omega
      have HNE := Lib.hid hne
      have e1 : (p : Int) < s.size := by omega
      clear hne
      go_wp2
      go_loop [10] (fun t10 => ∃ t : Nat, t10 = .int .i64 t ∧ p ≤ t ∧ t ≤ s.size ∧ Hid (∀ j, p ≤ j → j < t → s.data.toList[j]? ≠ some 10)) (fun t10 => s.size - (intOf t10).toNat)
      case atStart => exact ⟨p, rfl, Nat.le_refl _, by omega, Lib.hid (fun j h1 h2 => by omega)⟩
      case round =>
        obtain ⟨t, rfl, hpt, hts, hrun⟩ := hrel
        by_cases hgo10 : t < s.size ∧ s.data.toList[t]? ≠ some 10
        case pos =>
          obtain ⟨hlt, hc⟩ := hgo10
          have hq : (s[t].toNat : Int) ≠ 10 := by
            intro e; apply hc; rw [get_data s t hlt]; congr 1; exact UInt8.toNat_inj.1 (by show s[t].toNat = 10; omega)
          have q1 : ((s[t].toNat : Int) != 10) = true := by rw [bne_iff_ne]; exact hq
          have HN := Lib.hid (show ∀ j, p ≤ j → j < t + 1 → s.data.toList[j]? ≠ some 10 from fun j h1 h2 => by
            by_cases e : j = t
            · rw [e]; exact hc
            · exact hrun.out j h1 (by omega))
          clear hc hq hrun
          go_wp2
          go_round
          case rel => exact ⟨t + 1, by go_num, by omega, by omega, HN⟩
          case measure => simp [intOf]; omega
        case neg =>
          obtain ⟨TX, hTX⟩ : ∃ T, T = s.extract p t := ⟨_, rfl⟩
          have hTm : TX = mkS (pieceW s.data.toList p t) := by rw [hTX, piece_ext]
          obtain ⟨W, hW⟩ : ∃ W, W = splitC 32 (pieceW s.data.toList p t) := ⟨_, rfl⟩
          have hTs : TX.size ≤ t - p := by rw [← sizeD, hTm, mkS_data]; unfold pieceW; rw [List.length_take]; omega
          have hWl : ∀ x ∈ W, x.length ≤ 65536 := by
            intro x hx
            rw [hW] at hx
            have := splitC_len 32 _ x hx
            rw [← sizeD, hTm, mkS_data] at hTs; omega
          have hWn : W.length ≤ 65537 := by
            have := splitC_cnt 32 (pieceW s.data.toList p t)
            rw [← hW] at this
            rw [← sizeD, hTm, mkS_data] at hTs; omega
          have CW := Lib.hid (fun X => show Calls Tryd.prog 35 #[.string TX] X (RetWd X W) by have := words_any TX X (by omega); rw [hTm, mkS_data, ← hW] at this; rw [hTm]; exact this)
          have HWL := Lib.hid hWl
          have HTX := Lib.hid hTX
          have hx1 : (p : Int) ≤ t := by omega
          have hx2 : (t : Int) ≤ s.size := by omega
          by_cases hend : t = s.size
          case pos =>
            obtain ⟨l1, l2⟩ := seg_line hpt (by omega) hrun.out (.inl (by omega))
            have hdr : s.data.toList.drop t = [] := by rw [hend, ← hlenS]; exact List.drop_length
            have HO := Lib.hid (show RES = (([], 0), (ln : Int) + 1, 2) by rw [← hgo.out, goP_form HNE.out (.inl (by rw [l2, hdr]))]; rfl)
            have qe : ((t : Int) == s.size) = true := by rw [beq_iff_eq]; omega
            clear hgo hrun hgo10 hTm hW hWl l1 l2 hdr hend hTX HWL
            have qt : ¬((t : Int) < s.size) := by rw [beq_iff_eq] at qe; omega
            go_wp2_with fail
            rw [← HTX.out]
            refine (CW.out _).mono ?_
            rintro _ X2 ⟨vw, ok, rfl, ⟨Aw, nw, cw, rfl⟩, hok1, hok0, hb2⟩
            have HN1 := Lib.hid hok1
            have HN0 := Lib.hid hok0
            clear hok1 hok0 CW
            replace HBR := Lib.hid (HBR.out.below hb2 HBR.out.lt)
            replace HBS := Lib.hid (HBS.out.below hb2 HBS.out.lt)
            replace HOW := Lib.hid (own_below HOW.out hb2)
            replace HBL := Lib.hid (bst HBL.out hb2)
            replace HDW := Lib.hid (Nat.le_trans HDW.out hb2.size)
            clear hb2
            cases ok with
            | false =>
              have R0 : X2.cell? ⟨R, 0, none⟩ = some (.slice none 0 0) := HBR.out.cell 0
              have f0 := HBR.out.frozen 0
              have R1 : X2.cell? ⟨R, 1, none⟩ = some (.int .i64 0) := HBR.out.cell 1
              have f1 := HBR.out.frozen 1
              go_wp2
              have b2 := blk2S (.slice none 0 0) (.int .i64 0) HBR.out
              have q0 : _ = some (Value.slice none 0 0) := b2.cell 0
              have q1 : _ = some (Value.int .i64 0) := b2.cell 1
              exact bodyPost_ret (v := .tuple #[.agg #[.slice none 0 0, .int .i64 0], .int .i64 ((ln : Int) + 1), .int .i64 2]) (by simp [results, Tryd.results19, go_sem, q0, q1]) rfl (RetSp.err HO.out (below2S _ _ HBL.out hRw))
            | true =>
              have R0 : X2.cell? ⟨R, 0, none⟩ = some (.slice none 0 0) := HBR.out.cell 0
              have f0 := HBR.out.frozen 0
              have R1 : X2.cell? ⟨R, 1, none⟩ = some (.int .i64 0) := HBR.out.cell 1
              have f1 := HBR.out.frozen 1
              go_wp2
              have b2 := blk2S (.slice none 0 0) (.int .i64 0) HBR.out
              have q0 : _ = some (Value.slice none 0 0) := b2.cell 0
              have q1 : _ = some (Value.int .i64 0) := b2.cell 1
              exact bodyPost_ret (v := .tuple #[.agg #[.slice none 0 0, .int .i64 0], .int .i64 ((ln : Int) + 1), .int .i64 2]) (by simp [results, Tryd.results19, go_sem, q0, q1]) rfl (RetSp.err HO.out (below2S _ _ HBL.out hRw))
          case neg =>
            have hlt : t < s.size := by omega
            have h10 : s.data.toList[t]? = some 10 := by
              cases hd : decide (s.data.toList[t]? = some 10) with
              | true => exact of_decide_eq_true hd
              | false => exact absurd ⟨hlt, of_decide_eq_false hd⟩ hgo10
            have hq : (s[t].toNat : Int) = 10 := by rw [get_data s t hlt] at h10; injection h10 with h10; rw [h10]; rfl
            have q1 : ((s[t].toNat : Int) != 10) = false := by rw [bne_eq_false_iff_eq]; exact hq
            obtain ⟨l1, l2⟩ := seg_line hpt (by omega) hrun.out (.inr h10)
            have hdr : s.data.toList.drop t = 10 :: s.data.toList.drop (t + 1) := by
              rw [List.drop_eq_getElem_cons (List.getElem?_eq_some_iff.1 h10).1]
              congr 1
              exact (List.getElem?_eq_some_iff.1 h10).2
            have hlR : lineR (s.data.toList.drop p) ≠ [] := by rw [l2, hdr]; simp
            have hlTl : (lineR (s.data.toList.drop p)).tail = s.data.toList.drop (t + 1) := by rw [l2, hdr]; rfl
            have HLR := Lib.hid hlR
            have HLT := Lib.hid hlTl
            have HW := Lib.hid (show splitC 32 (lineT (s.data.toList.drop p)) = W by rw [l1, hW])
            have qe : ((t : Int) == s.size) = false := by rw [beq_eq_false_iff_ne]; omega
            clear hgo10 hTm hW hWl l1 l2 hdr hend hlR hlTl h10 hq hrun hTX
            go_wp2_with fail
            rw [← HTX.out]
            refine (CW.out _).mono ?_
            rintro _ X2 ⟨vw, ok, rfl, ⟨Aw, nw, cw, rfl⟩, hok1, hok0, hb2⟩
            have HN1 := Lib.hid hok1
            have HN0 := Lib.hid hok0
            clear hok1 hok0 CW
            replace HBR := Lib.hid (HBR.out.below hb2 HBR.out.lt)
            replace HBS := Lib.hid (HBS.out.below hb2 HBS.out.lt)
            replace HOW := Lib.hid (own_below HOW.out hb2)
            replace HBL := Lib.hid (bst HBL.out hb2)
            replace HDW := Lib.hid (Nat.le_trans HDW.out hb2.size)
            clear hb2
            cases ok with
            | false =>
              have HO := Lib.hid (show RES = (([], 0), (ln : Int) + 1, 2) by rw [← hgo.out, goP_form HNE.out (.inr (.inr (by rw [HW.out]; exact HN0.out rfl)))]; rfl)
              clear hgo
              have R0 : X2.cell? ⟨R, 0, none⟩ = some (.slice none 0 0) := HBR.out.cell 0
              have f0 := HBR.out.frozen 0
              have R1 : X2.cell? ⟨R, 1, none⟩ = some (.int .i64 0) := HBR.out.cell 1
              have f1 := HBR.out.frozen 1
              go_wp2
              have b2 := blk2S (.slice none 0 0) (.int .i64 0) HBR.out
              have q0 : _ = some (Value.slice none 0 0) := b2.cell 0
              have q1 : _ = some (Value.int .i64 0) := b2.cell 1
              exact bodyPost_ret (v := .tuple #[.agg #[.slice none 0 0, .int .i64 0], .int .i64 ((ln : Int) + 1), .int .i64 2]) (by simp [results, Tryd.results19, go_sem, q0, q1]) rfl (RetSp.err HO.out (below2S _ _ HBL.out hRw))
            | true =>
              obtain ⟨hno, g, c', he', hg1, hg2, hg3⟩ := HN1.out rfl
              by_cases hk0 : 0 < kl
              case pos =>
                have HO := Lib.hid (show RES = (([], 0), (ln : Int) + 1, 2) by rw [← hgo.out, goP_form HNE.out (.inr (.inl (by omega)))]; rfl)
                have qk : (0 : Int) < kl := by omega
                clear hgo hno he' hg1 hg2 hg3
                have R0 : X2.cell? ⟨R, 0, none⟩ = some (.slice none 0 0) := HBR.out.cell 0
                have f0 := HBR.out.frozen 0
                have R1 : X2.cell? ⟨R, 1, none⟩ = some (.int .i64 0) := HBR.out.cell 1
                have f1 := HBR.out.frozen 1
                go_wp2
                have b2 := blk2S (.slice none 0 0) (.int .i64 0) HBR.out
                have q0 : _ = some (Value.slice none 0 0) := b2.cell 0
                have q1 : _ = some (Value.int .i64 0) := b2.cell 1
                exact bodyPost_ret (v := .tuple #[.agg #[.slice none 0 0, .int .i64 0], .int .i64 ((ln : Int) + 1), .int .i64 2]) (by simp [results, Tryd.results19, go_sem, q0, q1]) rfl (RetSp.err HO.out (below2S _ _ HBL.out hRw))
              case neg =>
                obtain rfl : kl = 0 := by omega
                injection he' with a1 a2 a3
                subst a1 a2 a3
                have HROW := Lib.hid hg3
                have HGO := Lib.hid (show ¬(lineR (s.data.toList.drop p) = [] ∨ (0 : Int) < ((0 : Nat) : Int) ∨ [] ∈ splitC 32 (lineT (s.data.toList.drop p))) by
                  rintro (h | h | h)
                  · exact HLR.out h
                  · omega
                  · rw [HW.out] at h; exact hno h)
                unfold maxLen at hg2
                clear hno hg3 HN0 HN1
                cases hkey : isKey W with
                | true =>
                  obtain ⟨b, hWk⟩ := isKey_two hkey
                  have HN := Lib.hid (show goP f (s.data.toList.drop (t + 1)) (((ln + 1 : Nat) : Int) + 1) cs (mkS b).data.toList (((ln + 1 : Nat) : Int)) = RES by
                    rw [show ((ln + 1 : Nat) : Int) = (ln : Int) + 1 by omega, ← hgo.out, goP_key HNE.out HGO.out (by rw [HW.out]; exact hkey), HLT.out, HW.out, hWk]; rfl)
                  have HWK := Lib.hid hWk
                  clear hkey hgo HGO hWk
                  have k0 : X2.cell? ⟨g, 0, none⟩ = some (.string (mkS keyW)) := HROW.out.2 0 keyW (by rw [HWK.out]; rfl)
                  have k1 : X2.cell? ⟨g, 1, none⟩ = some (.string (mkS b)) := HROW.out.2 1 b (by rw [HWK.out]; rfl)
                  have k2 : ((mkS keyW).toList == [107, 101, 121]) = true := by rw [Go.ByteArray.toList_eq]; rfl
                  have q2 : ((W.length : Int) == 2) = true := by rw [HWK.out]; rfl
                  have l2 : W.length = 2 := by rw [HWK.out]; rfl
                  have l0 : 0 < W.length := by omega
                  have l1 : (1 : Int) < W.length := by omega
                  clear l2
                  go_wp2
                  go_roundw
                  case rel => exact ⟨f, t + 1, mkS b, cs, ln + 1, ln + 1, _, rfl, by go_num, by go_num, by go_num, by omega, by omega, by omega, by omega, by omega, HNM.out, HBR.out, HBS.out, HOW.out, HBL.out, HDW.out, HN⟩
                  case measure => simp [intOf]; omega
                | false =>
                  have HKN := Lib.hid (isKey_no hkey)
                  have HGC := Lib.hid (fun c (hc : colV W = some c) => (show goP f (s.data.toList.drop (t + 1)) (((ln + 1 : Nat) : Int) + 1) (cs ++ [c]) kw.data.toList ((0 : Nat) : Int) = RES by
                    rw [show ((ln + 1 : Nat) : Int) = (ln : Int) + 1 by omega, ← hgo.out, goP_col HNE.out HGO.out (by rw [HW.out]; exact hkey) (by rw [HW.out]; exact hc), HLT.out]))
                  have HGB := Lib.hid (fun (hc : colV W = none) => (show RES = (([], 0), (ln : Int) + 1, 2) by rw [← hgo.out, goP_bad HNE.out HGO.out (by rw [HW.out]; exact hkey) (by rw [HW.out]; exact hc)]; rfl))
                  clear hkey hgo HGO
                  have SC := Lib.hid (rcol_any W.length W g cw X2 rfl HROW.out hg1 (by unfold maxLen; omega) (by omega) (fun x hx => by have := HWL.out x hx; omega))
                  rcases HKN.out with hk2 | ⟨a, b, hab, hak⟩
                  · have q2 : ((W.length : Int) == 2) = false := by rw [beq_eq_false_iff_ne]; omega
                    clear hk2 HKN
                    go_wp2_with fail
                    refine SC.out.mono ?_
                    rintro _ X3 ⟨c, ok, rfl, hy, hn, hb3⟩
                    clear SC
                    replace HBR := Lib.hid (HBR.out.below hb3 HBR.out.lt)
                    replace HBS := Lib.hid (HBS.out.below hb3 HBS.out.lt)
                    replace HOW := Lib.hid (own_below HOW.out hb3)
                    replace HBL := Lib.hid (bst HBL.out hb3)
                    replace HDW := Lib.hid (Nat.le_trans HDW.out hb3.size)
                    clear hb3 HROW
                    go_upto_region 18 with (fail)
                    have hb4 := below_new X3 (.cells #[.string c.nm, .int .i64 c.ty, .int .i64 c.sc, .bool c.nu] 41)
                    have bB := Blk.new X3 41 #[.string c.nm, .int .i64 c.ty, .int .i64 c.sc, .bool c.nu]
                    obtain ⟨X4, hX4⟩ : ∃ X, X = X3.alloc (.cells #[.string c.nm, .int .i64 c.ty, .int .i64 c.sc, .bool c.nu] 41) := ⟨_, rfl⟩
                    rw [← hX4] at hb4 bB ⊢
                    obtain ⟨Bk, hBk⟩ : ∃ g, g = X3.heap.size := ⟨_, rfl⟩
                    rw [← hBk] at bB ⊢
                    have HBB := Lib.hid bB
                    replace HBR := Lib.hid (HBR.out.below hb4 HBR.out.lt)
                    replace HBS := Lib.hid (HBS.out.below hb4 HBS.out.lt)
                    replace HOW := Lib.hid (own_below HOW.out hb4)
                    replace HBL := Lib.hid (bst HBL.out hb4)
                    replace HDW := Lib.hid (Nat.le_trans HDW.out hb4.size)
                    clear hb4 bB hX4 hBk
                    cases ok with
                    | false =>
                      have HO := Lib.hid (HGB.out (hn rfl))
                      clear hy hn HGB HGC
                      have R0 : X4.cell? ⟨R, 0, none⟩ = some (.slice none 0 0) := HBR.out.cell 0
                      have f0 := HBR.out.frozen 0
                      have R1 : X4.cell? ⟨R, 1, none⟩ = some (.int .i64 0) := HBR.out.cell 1
                      have f1 := HBR.out.frozen 1
                      go_wp2
                      have b2 := blk2S (.slice none 0 0) (.int .i64 0) HBR.out
                      have q0 : _ = some (Value.slice none 0 0) := b2.cell 0
                      have q1 : _ = some (Value.int .i64 0) := b2.cell 1
                      exact bodyPost_ret (v := .tuple #[.agg #[.slice none 0 0, .int .i64 0], .int .i64 ((ln : Int) + 1), .int .i64 2]) (by simp [results, Tryd.results19, go_sem, q0, q1]) rfl (RetSp.err HO.out (below2S _ _ HBL.out hRw))
                    | true =>
                      have HN := Lib.hid (HGC.out c (hy rfl))
                      have hcn : c.nm.size ≤ 65536 := by
                        obtain ⟨a, ha, e⟩ := colV_nm (hy rfl)
                        have := HWL.out a ha
                        rw [e, ← sizeD, mkS_data]; omega
                      have HNN := Lib.hid (show ∀ d ∈ cs ++ [c], d.nm.size ≤ 65536 from fun d hd => by
                        rcases List.mem_append.1 hd with h | h
                        · exact HNM.out d h
                        · rw [List.mem_singleton.1 h]; exact hcn)
                      clear hy hn HGB HGC hcn HNM HWL
                      obtain ⟨cnm, cty, csc, cnu⟩ := c
                      simp only at HBB HN HNN ⊢
                      have n0 : X4.cell? ⟨Bk, 0, none⟩ = some (.string cnm) := HBB.out.cell 0
                      have n1 : X4.cell? ⟨Bk, 1, none⟩ = some (.int .i64 cty) := HBB.out.cell 1
                      have n2 : X4.cell? ⟨Bk, 2, none⟩ = some (.int .i64 csc) := HBB.out.cell 2
                      have n3 : X4.cell? ⟨Bk, 3, none⟩ = some (.bool cnu) := HBB.out.cell 3
                      have m0 : X4.cell? ⟨S, 0, none⟩ = some (.slice A cs.length cp) := HBS.out.cell 0
                      go_wp2_with (at_builtin; go_must (refine app1 _ _ HOW.out HBL.out hwD HDW.out under_col info_col rfl (by decide) rfl (oneCol _ _ _ _) (by omega) (by omega) rfl rfl rfl rfl ?_))
                      intro g' cap' w9 hown9 hbel9 hgr9 _
                      have bo9 := HBS.out.grown hgr9 (own_blk_ne HOW.out HBS.out (by decide))
                      have br9 := HBR.out.grown hgr9 (own_blk_ne HOW.out HBR.out (by decide))
                      have p0 : w9.cell? ⟨S, 0, none⟩ = some (.slice A cs.length cp) := bo9.cell 0
                      have p1 := bo9.frozen 0
                      have hown10 := own_colsS hown9
                      have kg := grownBy_set w9 ⟨S, 0, none⟩ (.slice (some ⟨g', 0, none⟩) (cs.length + 1) cap')
                      have HOy := Lib.hid (own_row hown10 kg (fun b hb e => own_blk_ne hown10 bo9 (by decide) (by rw [hb, e])))
                      have HBy := Lib.hid (below_row hbel9 kg (by show w.heap.size ≤ S; omega) hbel9.size)
                      have HRy := Lib.hid (br9.row (A := S) kg (Ne.symm hSR))
                      have HPy := Lib.hid (blkS0 (.slice (some ⟨g', 0, none⟩) (cs.length + 1) cap') bo9)
                      have HDy := Lib.hid (show D ≤ (w9.setCell ⟨S, 0, none⟩ (.slice (some ⟨g', 0, none⟩) (cs.length + 1) cap')).heap.size by have := HPy.out.lt; omega)
                      clear hown9 hbel9 hgr9 bo9 br9 hown10 kg n0 n1 n2 n3 m0
                      go_wp2
                      go_roundw
                      case rel => exact ⟨f, t + 1, kw, cs ++ [⟨cnm, cty, csc, cnu⟩], 0, ln + 1, _, rfl, rfl, by go_num, by go_num, by omega, by omega, by rw [List.length_append, List.length_singleton]; omega, by omega, by omega, HNN.out, HRy.out, HPy.out, HOy.out, HBy.out, HDy.out, HN⟩
                      case measure => simp [intOf]; omega
                  · have k0 : X2.cell? ⟨g, 0, none⟩ = some (.string (mkS a)) := HROW.out.2 0 a (by rw [hab]; rfl)
                    have k2 : ((mkS a).toList == [107, 101, 121]) = false := by rw [Go.ByteArray.toList_eq]; exact beq_false_of_ne hak
                    have q2 : ((W.length : Int) == 2) = true := by rw [hab]; rfl
                    have l2 : W.length = 2 := by rw [hab]; rfl
                    have l0 : 0 < W.length := by omega
                    clear l2 hab hak HKN
                    go_wp2_with fail
                    refine SC.out.mono ?_
                    rintro _ X3 ⟨c, ok, rfl, hy, hn, hb3⟩
                    clear SC
                    replace HBR := Lib.hid (HBR.out.below hb3 HBR.out.lt)
                    replace HBS := Lib.hid (HBS.out.below hb3 HBS.out.lt)
                    replace HOW := Lib.hid (own_below HOW.out hb3)
                    replace HBL := Lib.hid (bst HBL.out hb3)
                    replace HDW := Lib.hid (Nat.le_trans HDW.out hb3.size)
                    clear hb3 HROW
                    go_upto_region 18 with (fail)
                    have hb4 := below_new X3 (.cells #[.string c.nm, .int .i64 c.ty, .int .i64 c.sc, .bool c.nu] 41)
                    have bB := Blk.new X3 41 #[.string c.nm, .int .i64 c.ty, .int .i64 c.sc, .bool c.nu]
                    obtain ⟨X4, hX4⟩ : ∃ X, X = X3.alloc (.cells #[.string c.nm, .int .i64 c.ty, .int .i64 c.sc, .bool c.nu] 41) := ⟨_, rfl⟩
                    rw [← hX4] at hb4 bB ⊢
                    obtain ⟨Bk, hBk⟩ : ∃ g, g = X3.heap.size := ⟨_, rfl⟩
                    rw [← hBk] at bB ⊢
                    have HBB := Lib.hid bB
                    replace HBR := Lib.hid (HBR.out.below hb4 HBR.out.lt)
                    replace HBS := Lib.hid (HBS.out.below hb4 HBS.out.lt)
                    replace HOW := Lib.hid (own_below HOW.out hb4)
                    replace HBL := Lib.hid (bst HBL.out hb4)
                    replace HDW := Lib.hid (Nat.le_trans HDW.out hb4.size)
                    clear hb4 bB hX4 hBk
                    cases ok with
                    | false =>
                      have HO := Lib.hid (HGB.out (hn rfl))
                      clear hy hn HGB HGC
                      have R0 : X4.cell? ⟨R, 0, none⟩ = some (.slice none 0 0) := HBR.out.cell 0
                      have f0 := HBR.out.frozen 0
                      have R1 : X4.cell? ⟨R, 1, none⟩ = some (.int .i64 0) := HBR.out.cell 1
                      have f1 := HBR.out.frozen 1
                      go_wp2
                      have b2 := blk2S (.slice none 0 0) (.int .i64 0) HBR.out
                      have q0 : _ = some (Value.slice none 0 0) := b2.cell 0
                      have q1 : _ = some (Value.int .i64 0) := b2.cell 1
                      exact bodyPost_ret (v := .tuple #[.agg #[.slice none 0 0, .int .i64 0], .int .i64 ((ln : Int) + 1), .int .i64 2]) (by simp [results, Tryd.results19, go_sem, q0, q1]) rfl (RetSp.err HO.out (below2S _ _ HBL.out hRw))
                    | true =>
                      have HN := Lib.hid (HGC.out c (hy rfl))
                      have hcn : c.nm.size ≤ 65536 := by
                        obtain ⟨a, ha, e⟩ := colV_nm (hy rfl)
                        have := HWL.out a ha
                        rw [e, ← sizeD, mkS_data]; omega
                      have HNN := Lib.hid (show ∀ d ∈ cs ++ [c], d.nm.size ≤ 65536 from fun d hd => by
                        rcases List.mem_append.1 hd with h | h
                        · exact HNM.out d h
                        · rw [List.mem_singleton.1 h]; exact hcn)
                      clear hy hn HGB HGC hcn HNM HWL
                      obtain ⟨cnm, cty, csc, cnu⟩ := c
                      simp only at HBB HN HNN ⊢
                      have n0 : X4.cell? ⟨Bk, 0, none⟩ = some (.string cnm) := HBB.out.cell 0
                      have n1 : X4.cell? ⟨Bk, 1, none⟩ = some (.int .i64 cty) := HBB.out.cell 1
                      have n2 : X4.cell? ⟨Bk, 2, none⟩ = some (.int .i64 csc) := HBB.out.cell 2
                      have n3 : X4.cell? ⟨Bk, 3, none⟩ = some (.bool cnu) := HBB.out.cell 3
                      have m0 : X4.cell? ⟨S, 0, none⟩ = some (.slice A cs.length cp) := HBS.out.cell 0
                      go_wp2_with (at_builtin; go_must (refine app1 _ _ HOW.out HBL.out hwD HDW.out under_col info_col rfl (by decide) rfl (oneCol _ _ _ _) (by omega) (by omega) rfl rfl rfl rfl ?_))
                      intro g' cap' w9 hown9 hbel9 hgr9 _
                      have bo9 := HBS.out.grown hgr9 (own_blk_ne HOW.out HBS.out (by decide))
                      have br9 := HBR.out.grown hgr9 (own_blk_ne HOW.out HBR.out (by decide))
                      have p0 : w9.cell? ⟨S, 0, none⟩ = some (.slice A cs.length cp) := bo9.cell 0
                      have p1 := bo9.frozen 0
                      have hown10 := own_colsS hown9
                      have kg := grownBy_set w9 ⟨S, 0, none⟩ (.slice (some ⟨g', 0, none⟩) (cs.length + 1) cap')
                      have HOy := Lib.hid (own_row hown10 kg (fun b hb e => own_blk_ne hown10 bo9 (by decide) (by rw [hb, e])))
                      have HBy := Lib.hid (below_row hbel9 kg (by show w.heap.size ≤ S; omega) hbel9.size)
                      have HRy := Lib.hid (br9.row (A := S) kg (Ne.symm hSR))
                      have HPy := Lib.hid (blkS0 (.slice (some ⟨g', 0, none⟩) (cs.length + 1) cap') bo9)
                      have HDy := Lib.hid (show D ≤ (w9.setCell ⟨S, 0, none⟩ (.slice (some ⟨g', 0, none⟩) (cs.length + 1) cap')).heap.size by have := HPy.out.lt; omega)
                      clear hown9 hbel9 hgr9 bo9 br9 hown10 kg n0 n1 n2 n3 m0
                      go_wp2
                      go_roundw
                      case rel => exact ⟨f, t + 1, kw, cs ++ [⟨cnm, cty, csc, cnu⟩], 0, ln + 1, _, rfl, rfl, by go_num, by go_num, by omega, by omega, by rw [List.length_append, List.length_singleton]; omega, by omega, by omega, HNN.out, HRy.out, HPy.out, HOy.out, HBy.out, HDy.out, HN⟩
                      case measure => simp [intOf]; omega
end Go.Proofs.YtojfhlppiicpbaaDoor
