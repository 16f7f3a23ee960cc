/-
  The contract of ref21.text.
-/
import Derived.Test.YtjnamjkdjcndiaaDoorPText
namespace Go.Proofs.YtjnamjkdjcndiaaDoor
open Go.RowKit Go.Sort

theorem rett_det {P : Program} {f : FuncId} {args : Array Value} {w : World} {L : List UInt8} {S : ByteArray} (h : Calls P f args w (RetT w L)) (hS : S.data.toList = L) : Calls P f args w fun e w' => e = .returned (.string S) ∧ Below w.heap.size w w' :=
  h.mono fun e w' ⟨S', h1, h2, h3⟩ => ⟨by rw [h1, bytes_ext (h2.trans hS.symm)], h3⟩
set_option maxRecDepth 100000 in
set_option maxHeartbeats 8000000 in
theorem rtext_any (v pv : Value) (key : Int) (cs : List Col) (p : List Nd) (w0 : World) (he : PEnv w0 v cs pv p) (hk : POk cs p) :
    ∀ (i : Nat), i < p.length → sizI cs p i ≤ 65536 → ∀ (w : World), Below w0.heap.size w0 w →
    Calls Tryd.prog 25 #[.agg #[v, .int .i64 key], pv, .int .i64 (i : Int)] w (RetT w (txtI cs p i)) := by
  obtain ⟨A, cA, rfl, hc1, hc2⟩ := he.hs.form
  obtain ⟨AP, cP, rfl, hc3, hc4⟩ := he.hp.form
  have HE := Lib.hid he
  have HK := Lib.hid hk
  have hp64 : p.length ≤ 64 := hk.ok.len
  clear he hk
  intro i
  induction i using Nat.strongRecOn with
  | _ i ih =>
    intro hi hsz w hbw
    have IH := Lib.hid ih
    have qi : decide (i < p.length) = true := decide_eq_true hi
    have pi' : (i < p.length) = True := eq_true hi
    obtain ⟨N0, hN0⟩ : ∃ N, w.heap.size = N := ⟨_, rfl⟩
    obtain ⟨W, hW⟩ : ∃ W, W = w.alloc (.cells #[.slice A cs.length cA, .int .i64 key] 24) := ⟨_, rfl⟩
    have hwW : Below w.heap.size w W := by rw [hW]; exact (Below.refl _ _).alloc (Nat.le_refl _) _
    have bS : Blk W N0 24 #[.slice A cs.length cA, .int .i64 key] := by rw [hW, ← hN0]; exact Blk.new _ _ _
    obtain ⟨ad, x, u, px, rfl, hx, hpx, hE, hu⟩ := (HE.out.hp.below (hbw.trans (hwW.mono (hbw.size)))).nd_load rfl hi
    obtain ⟨AU, cU, rfl, _, _⟩ := hu.form
    obtain ⟨hplt, c0, c1, c2, c3, c4, c5, c6, c7⟩ := hE
    have HX := Lib.hid hx
    have hn := HK.out.ok.node i x hx
    obtain ⟨o1, o2⟩ := node_op hn
    have HSUB := Lib.hid (fun h => node_sub hn h)
    obtain ⟨hsT, hsub⟩ := siz_txt HK.out.ok i x hx hsz
    have HSS := Lib.hid hsub
    obtain ⟨N1, hN1⟩ : ∃ N, W.heap.size = N := ⟨_, rfl⟩
    obtain ⟨V, hV⟩ : ∃ V, V = W.alloc (.cells #[.int .i64 x.op, .int .i64 x.col, .bool x.v.nu, .int .i64 x.v.n, .string x.v.s, .slice AU x.l.length cU, .int .i64 x.a, .int .i64 x.b] 36) := ⟨_, rfl⟩
    have hWV : Below W.heap.size W V := by rw [hV]; exact (Below.refl _ _).alloc (Nat.le_refl _) _
    have hwV : Below w.heap.size w V := bst hwW hWV
    have VN := Lib.hid (show Blk V N1 36 #[.int .i64 x.op, .int .i64 x.col, .bool x.v.nu, .int .i64 x.v.n, .string x.v.s, .slice AU x.l.length cU, .int .i64 x.a, .int .i64 x.b] by rw [hV, ← hN1]; exact Blk.new _ _ _)
    have VS := Lib.hid (bS.below hWV bS.lt)
    have VU := Lib.hid (hu.below hWV)
    have VB := Lib.hid hwV
    have V0 := Lib.hid (hbw.trans (hwV.mono hbw.size))
    clear hx hn hsT hsub hwW bS hu hWV hwV hbw ih
    go_enter Tryd.func25, Tryd.ntmps25
    go_upto_region 1 with (fail)
    rw [← hW]
    try simp only [hN0]
    clear hW
    go_upto_region 2 with (fail)
    rw [← hV]
    try simp only [hN1]
    clear hV hN0 hN1 c0 c1 c2 c3 c4 c5 c6 c7 hpx hplt
    by_cases h9 : x.op < 9
    · have q11 : (x.op == 11) = false := by rw [beq_eq_false_iff_ne]; omega
      have q9 : (x.op == 9) = false := by rw [beq_eq_false_iff_ne]; omega
      have q10 : (x.op == 10) = false := by rw [beq_eq_false_iff_ne]; omega
      have HLF := Lib.hid (own_at_ (key := key) (w := V) HE.out HK.out HX.out h9 VU.out V0.out)
      have HTX := Lib.hid (txt_leaf (cs := cs) HX.out h9)
      clear h9
      have bb := VN.out
      have n0 := bb.cell 0
      have n1 := bb.cell 1
      have n2 := bb.cell 2
      have n3 := bb.cell 3
      have n4 := bb.cell 4
      have n5 := bb.cell 5
      have n6 := bb.cell 6
      have n7 := bb.cell 7
      simp only [List.getElem?_toArray, List.getElem?_cons_zero, List.getElem?_cons_succ] at n0 n1 n2 n3 n4 n5 n6 n7
      clear bb
      have bb := VS.out
      have s0 := bb.cell 0
      have s1 := bb.cell 1
      simp only [List.getElem?_toArray, List.getElem?_cons_zero, List.getElem?_cons_succ] at s0 s1
      clear bb
      go_wp2_with fail
      refine HLF.out.mono ?_
      rintro _ w3 ⟨S, rfl, hS, hb3⟩
      have HS := Lib.hid hS
      have B3 := Lib.hid (bst VB.out hb3)
      clear hb3 HLF hS
      go_wp2
      go_ret
      exact RetT.mk_ (by rw [HS.out, HTX.out]) B3.out
    · obtain ⟨a0, a1, hb⟩ := HSUB.out (by omega)
      obtain ⟨ea, hea⟩ := Int.eq_ofNat_of_zero_le a0
      have hak : ea < i := by omega
      obtain ⟨hs6, hs2⟩ := HSS.out (by omega)
      have hta : x.a.toNat = ea := by omega
      rw [hta] at hs6 hs2
      have hea' : x.a = (ea : Int) := hea
      obtain ⟨SA, hSA⟩ : ∃ S : ByteArray, S.data.toList = txtI cs p ea := ⟨⟨(txtI cs p ea).toArray⟩, by simp⟩
      have HSA := Lib.hid hSA
      have hSAs : SA.size ≤ 65536 := by
        rw [size_of hSA, (siz_txt HK.out.ok ea _ (List.getElem?_eq_getElem (show ea < p.length by omega)) (by omega)).1]; omega
      have HTA := Lib.hid (fun X (hX : Below w0.heap.size w0 X) => rett_det (IH.out ea (by omega) (by omega) (by omega) X hX) HSA.out)
      by_cases h11 : x.op = 11
      · have HTX := Lib.hid (show txtI cs p i = [40, 110, 111, 116, 32] ++ txtI cs p ea ++ [41] by have h := txt_not (cs := cs) HX.out h11 (by omega); rw [hta] at h; exact h)
        have HOP := Lib.hid h11
        have HEA := Lib.hid hea'
        clear a0 a1 hb hea hta hs6 hs2 h9 h11 hea' hSA
        have bb := VN.out
        have n0 := bb.cell 0
        have n1 := bb.cell 1
        have n2 := bb.cell 2
        have n3 := bb.cell 3
        have n4 := bb.cell 4
        have n5 := bb.cell 5
        have n6 := bb.cell 6
        have n7 := bb.cell 7
        simp only [List.getElem?_toArray, List.getElem?_cons_zero, List.getElem?_cons_succ] at n0 n1 n2 n3 n4 n5 n6 n7
        clear bb
        have bb := VS.out
        have s0 := bb.cell 0
        have s1 := bb.cell 1
        simp only [List.getElem?_toArray, List.getElem?_cons_zero, List.getElem?_cons_succ] at s0 s1
        clear bb
        rw [HOP.out] at n0
        rw [HEA.out] at n6
        go_wp2_with fail
        refine (HTA.out _ V0.out).mono ?_
        rintro _ w3 ⟨rfl, hb3⟩
        have B3 := Lib.hid (bst VB.out hb3)
        clear hb3 HTA
        clear n0 n1 n2 n3 n4 n5 n6 n7
        clear s0 s1
        go_wp2
        go_ret
        exact RetT.mk_ (by rw [HTX.out]; simp [ByteArray.data_append, HSA.out]) B3.out
      · obtain ⟨b0, b1⟩ := hb h11
        obtain ⟨eb, heb⟩ := Int.eq_ofNat_of_zero_le b0
        have hbk : eb < i := by omega
        have htb : x.b.toNat = eb := by omega
        have hs2 := hs2 h11
        rw [htb] at hs2
        have heb' : x.b = (eb : Int) := heb
        obtain ⟨SB, hSB⟩ : ∃ S : ByteArray, S.data.toList = txtI cs p eb := ⟨⟨(txtI cs p eb).toArray⟩, by simp⟩
        have HSB := Lib.hid hSB
        have hSBs : SB.size ≤ 65536 := by
          rw [size_of hSB, (siz_txt HK.out.ok eb _ (List.getElem?_eq_getElem (show eb < p.length by omega)) (by omega)).1]; omega
        have HTX := Lib.hid (show txtI cs p i = (40 :: wordP x.op ++ [32]) ++ txtI cs p ea ++ [32] ++ txtI cs p eb ++ [41] by have h := txt_two (cs := cs) HX.out h9 h11 (by omega) (by omega); rw [hta, htb] at h; exact h)
        obtain ⟨B0, hB0⟩ : ∃ B : ByteArray, B = ⟨(wordP x.op).toArray⟩ := ⟨_, rfl⟩
        have HBW := Lib.hid (show B0.data.toList = wordP x.op by rw [hB0])
        have hwl : B0.size ≤ 4 := by rw [size_of HBW.out]; exact wordP_len x.op
        have A0 := Lib.hid (reg_n (w := V) (fun X _ => (rword_any x.op o1 o2 X).mono fun e w' h => show e = .returned (.string B0) ∧ Below X.heap.size X w' by rw [hB0]; exact ⟨h.1, h.2 ▸ Below.refl _ _⟩))
        have A1 := Lib.hid (reg_n (w := V) (fun X hX => HTA.out X (V0.out.trans (hX.mono V0.out.size))))
        have A2 := Lib.hid (reg_n (w := V) (fun X hX => rett_det (IH.out eb (by omega) (by omega) (by omega) X (V0.out.trans (hX.mono V0.out.size))) HSB.out))
        have q11 : (x.op == 11) = false := by simpa using h11
        have h910 : x.op = 9 ∨ x.op = 10 := by omega
        clear a0 a1 b0 b1 hb hea heb hta htb hs6 hs2 h9 h11 hSA hSB hB0
        have f0 := fun d os => (VN.out.below (below_regrown V d os) VN.out.lt).cell 0
        have f1 := fun d os => (VN.out.below (below_regrown V d os) VN.out.lt).cell 1
        have f2 := fun d os => (VN.out.below (below_regrown V d os) VN.out.lt).cell 2
        have f3 := fun d os => (VN.out.below (below_regrown V d os) VN.out.lt).cell 3
        have f4 := fun d os => (VN.out.below (below_regrown V d os) VN.out.lt).cell 4
        have f5 := fun d os => (VN.out.below (below_regrown V d os) VN.out.lt).cell 5
        have f6 := fun d os => (VN.out.below (below_regrown V d os) VN.out.lt).cell 6
        have f7 := fun d os => (VN.out.below (below_regrown V d os) VN.out.lt).cell 7
        have g0 := fun d os => (VS.out.below (below_regrown V d os) VS.out.lt).cell 0
        have g1 := fun d os => (VS.out.below (below_regrown V d os) VS.out.lt).cell 1
        simp only [List.getElem?_toArray, List.getElem?_cons_zero, List.getElem?_cons_succ] at f0 f1 f2 f3 f4 f5 f6 f7 g0 g1
        simp only [hea'] at f6
        simp only [heb'] at f7
        clear hea' heb'
        rcases h910 with h9 | h9
        · have HOP := Lib.hid h9
          clear h9
          have bb := VN.out
          have n0 := bb.cell 0
          have n1 := bb.cell 1
          have n2 := bb.cell 2
          have n3 := bb.cell 3
          have n4 := bb.cell 4
          have n5 := bb.cell 5
          have n6 := bb.cell 6
          have n7 := bb.cell 7
          simp only [List.getElem?_toArray, List.getElem?_cons_zero, List.getElem?_cons_succ] at n0 n1 n2 n3 n4 n5 n6 n7
          clear bb
          rw [HOP.out] at n0
          simp only [HOP.out] at f0 A0 q11
          go_upto_region 7 with (fail)
          clear n0 n1 n2 n3 n4 n5 n6 n7
          refine wp_region_quiet_below (by kernel_rfl) (by kernel_rfl) ?_
          repeat (go_big_quiet_step ((first | (with_reducible exact A0.out _ _) | (with_reducible exact A1.out _ _) | (with_reducible exact A2.out _ _))))
          refine wpQuiet_nil ?_
          intro _ hw'
          obtain ⟨⟨dq, osq⟩, hw''⟩ := hw'
          subst hw''
          have ZB := Lib.hid (bst VB.out (below_regrown V dq osq))
          clear f0 f1 f2 f3 f4 f5 f6 f7 g0 g1 A0 A1 A2 HTA
          go_wp2
          go_ret
          exact RetT.mk_ (by rw [HTX.out]; simp [ByteArray.data_append, HSA.out, HSB.out, HBW.out]) ZB.out
        · have HOP := Lib.hid h9
          clear h9
          have bb := VN.out
          have n0 := bb.cell 0
          have n1 := bb.cell 1
          have n2 := bb.cell 2
          have n3 := bb.cell 3
          have n4 := bb.cell 4
          have n5 := bb.cell 5
          have n6 := bb.cell 6
          have n7 := bb.cell 7
          simp only [List.getElem?_toArray, List.getElem?_cons_zero, List.getElem?_cons_succ] at n0 n1 n2 n3 n4 n5 n6 n7
          clear bb
          rw [HOP.out] at n0
          simp only [HOP.out] at f0 A0 q11
          go_upto_region 7 with (fail)
          clear n0 n1 n2 n3 n4 n5 n6 n7
          refine wp_region_quiet_below (by kernel_rfl) (by kernel_rfl) ?_
          repeat (go_big_quiet_step ((first | (with_reducible exact A0.out _ _) | (with_reducible exact A1.out _ _) | (with_reducible exact A2.out _ _))))
          refine wpQuiet_nil ?_
          intro _ hw'
          obtain ⟨⟨dq, osq⟩, hw''⟩ := hw'
          subst hw''
          have ZB := Lib.hid (bst VB.out (below_regrown V dq osq))
          clear f0 f1 f2 f3 f4 f5 f6 f7 g0 g1 A0 A1 A2 HTA
          go_wp2
          go_ret
          exact RetT.mk_ (by rw [HTX.out]; simp [ByteArray.data_append, HSA.out, HSB.out, HBW.out]) ZB.out
end Go.Proofs.YtjnamjkdjcndiaaDoor
