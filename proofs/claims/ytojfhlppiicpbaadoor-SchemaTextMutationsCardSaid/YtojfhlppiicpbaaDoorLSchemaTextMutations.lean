/-
  The walk of the law SchemaTextMutations.
-/
import Derived.Test.YtojfhlppiicpbaaDoorSParses
import Derived.Test.YtojfhlppiicpbaaDoorKSchemaLaw
import Derived.Test.YtojfhlppiicpbaaDoorRSFmt
import Derived.Test.YtojfhlppiicpbaaDoorLSchemaRoundTrip
import Derived.Deep.RegionWith
import Derived.Laws.BytesArg
namespace Go.Proofs.YtojfhlppiicpbaaDoor
open Go.RowKit Go.Sort
set_option linter.unusedVariables false
theorem conv_one8 {P : Program} (w : World) (x : Int) {src e : TypeId} (hs : P.underlying src = some (.slice e)) (he : P.underlying e = some (.int .u8)) :
    ∀ dst, P.underlying dst = some .string → (convert src dst (.slice (some ⟨w.heap.size, 0, none⟩) 1 1)).run P (w.alloc (.cells #[.int .u8 x] e)) = .ok (.string (strOfNums [x])) (w.alloc (.cells #[.int .u8 x] e)) :=
  run_convert_bytes_arg _ src e hs he w.heap.size 0 1 1 [x] rfl (fun i hi => by
    obtain rfl : i = 0 := by omega
    exact (Blk.new w e #[.int .u8 x]).cell 0)
set_option maxRecDepth 100000 in
set_option maxHeartbeats 8000000 in
theorem schemaTextMutations_walk (v : Value) (zs : List Int) (at' x : Int) (cut : Bool) (w : World) (hE : Env w) (hs : Sl w 1 v zs.length (ints zs)) (hl : zs.length ≤ 9223372036854775807) (hr : ∀ x ∈ zs, -9223372036854775808 ≤ x ∧ x ≤ 9223372036854775807) :
    Calls Tryd.prog 4 #[v, .int .i64 at', .int .u8 x, .bool cut] w (RetB w true) := by
  have HK := Lib.hid (kschema_any v zs w hs hl hr)
  obtain ⟨A, c, rfl, _, _⟩ := hs.form
  have HE := Lib.hid hE
  clear hs hl hr hE
  go_enter Tryd.func4, Tryd.ntmps4
  go_wp2_with fail
  refine HK.out.mono ?_
  rintro _ w1 ⟨vs, l, key, rfl, h1, h4, hG, k0, k1, hsl, hb1⟩
  obtain ⟨A2, cp2, rfl, _, _⟩ := hsl.form
  have HV := Lib.hid (gen_valid h1 h4 hG k0 k1)
  have HN := Lib.hid (gen_small hG)
  have HB := Lib.hid hb1
  clear hG hb1
  obtain ⟨T, hT⟩ : ∃ T : ByteArray, T = ⟨(linesC l ++ keyC l key).toArray⟩ := ⟨_, rfl⟩
  have HT := Lib.hid (show T.data.toList = linesC l ++ keyC l key by rw [hT])
  have HSF := Lib.hid (show sfmtV l key = (linesC l ++ keyC l key, 0) by unfold sfmtV; rw [if_neg (by rw [HV.out]; simp)])
  have hTs : T.size ≤ 100000 := by
    have hv := (schk_valid HV.out).2.2.1
    rw [← sizeD, HT.out, List.length_append]
    have h1 := linesC_len hv
    have h2 := keyL_len (key := key) hv
    omega
  have hT0 : 0 < T.size := by
    rw [← sizeD, HT.out, List.length_append]
    match l, h1 with
    | d :: q, _ => simp [linesC, colLine]; omega
  have HF := Lib.hid (dec_to7 (r := sfmtV l key) (T := T) (E := 0) (by rw [HSF.out]; exact hT) (by rw [HSF.out]) (rsfmt_any _ l key w1 hsl (by omega) (fun c hc => by have := HN.out c hc; omega)))
  have p1 := pick_lo at' T.size (by omega)
  have p2 := pick_hi at' T.size (by omega)
  have HPK := Lib.hid (fun X => pick_any at' T.size X (by omega) (by omega))
  obtain ⟨i, hi⟩ : ∃ i : Nat, pick at' T.size = i := ⟨(pick at' T.size).toNat, by omega⟩
  rw [hi] at p1 p2 HPK
  clear hT hi hsl
  go_wp2_with fail
  refine HF.out.mono ?_
  rintro _ w2 ⟨rfl, hb⟩
  replace HB := Lib.hid (bst HB.out hb)
  clear hb HF
  go_wp2_with fail
  refine (HPK.out _).mono ?_
  rintro _ _ ⟨rfl, rfl⟩
  have hi1 : (i : Int) ≤ T.size := by omega
  have hi2 : (i : Int) + 1 ≤ T.size := by omega
  clear HPK
  cases cut with
  | true =>
    have F1 := Lib.hid (fun X (h : Env X) => parses_any (T.extract 0 i) X h (by rw [ByteArray.size_extract]; omega))
    go_wp2_with fail
    refine (awake7_any _).mono ?_
    rintro _ y1 ⟨rfl, hq⟩
    replace HB := Lib.hid (bst HB.out hq)
    clear hq
    go_wp2_with fail
    refine (F1.out _ (HE.out.below HB.out)).mono ?_
    rintro _ y2 ⟨rfl, hq⟩
    replace HB := Lib.hid (bst HB.out hq)
    clear hq
    go_wp2
    go_ret
    exact ⟨by simp, HB.out⟩
  | false =>
    obtain ⟨U, hU⟩ : ∃ U : ByteArray, U = T.extract 0 i ++ strOfNums [x] ++ T.extract (i + 1) T.size := ⟨_, rfl⟩
    have hx1 : (strOfNums [x]).size ≤ 1 := by simp [strOfNums, ByteArray.size]
    have hUs : U.size ≤ 300000 := by
      rw [hU, ByteArray.size_append, ByteArray.size_append, ByteArray.size_extract, ByteArray.size_extract]; omega
    have F1 := Lib.hid (fun X (h : Env X) => parses_any U X h (by omega))
    rw [hU] at F1
    have z1 : (T.extract 0 i).size = i := by rw [ByteArray.size_extract]; omega
    have m1 : ¬9223372036854775807 < i + (strOfNums [x]).size := by omega
    have m2 : ¬9223372036854775807 < i + (strOfNums [x]).size + (T.size - (i + 1)) := by omega
    have cv := fun (X : World) => conv_one8 (P := Tryd.prog) X x Tryd.underlying22 Tryd.underlying5
    clear hU hUs
    go_upto_region 5 with (fail)
    refine wp_region_inv (by kernel_rfl) (by kernel_rfl) (fun L x' w' => ∃ u8 u30 u31 u32 u33 u34 u35 u36 u37 u38 u39 u40 u41 u42 u43 u44 u45 : Value,
        x' = ⟨#[.slice A zs.length c, .int .i64 at', .int .u8 x, .bool false, undef, undef, undef, undef, u8, .string T, .int .i64 0, .int .i64 ↑i, .tuple #[.string T, .int .i64 0], .slice A zs.length c, .agg #[.slice A2 l.length cp2, .int .i64 key], .tuple #[.string T, .int .i64 0], .string T, .int .i64 0, .int .i64 at', .string T, .int .i64 ↑T.size, .int .i64 ↑i, .bool false, undef, undef, undef, undef, undef, undef, undef, u30, u31, u32, u33, u34, u35, u36, u37, u38, u39, u40, u41, u42, u43, u44, u45], []⟩ ∧ Below w2.heap.size w2 w' ∧ Got (L 0) u30 (.bool true) ∧ Got (L 1) u31 (.bool true) ∧ Got (L 2) u32 (.string T) ∧ Got (L 3) u33 (.int .i64 ↑i) ∧ Got (L 4) u34 (.string (T.extract 0 i)) ∧ Got (L 5) u35 (.int .u8 x) ∧ GotRow (L 6) w2.heap.size u36 1 5 #[.int .u8 x] w' ∧ Got (L 7) u37 (.string (strOfNums [x])) ∧ Got (L 8) u38 (.string (T.extract 0 i ++ strOfNums [x])) ∧ Got (L 9) u39 (.string T) ∧ Got (L 10) u40 (.int .i64 ↑i) ∧ Got (L 11) u41 (.int .i64 (↑i + 1)) ∧ Got (L 12) u42 (.string (T.extract (i + 1) T.size)) ∧ Got (L 13) u43 (.string (T.extract 0 i ++ strOfNums [x] ++ T.extract (i + 1) T.size)) ∧ Got (L 14) u44 (.bool true) ∧ Got (L 15) u45 (.bool true) ∧ Got (L 16) u8 (.bool true))
      ?_ ?_ ?_
    · exact ⟨_, _, _, _, _, _, _, _, _, _, _, _, _, _, _, _, _, rfl, (Below.refl _ _).drew, nofun, nofun, nofun, nofun, nofun, nofun, nofun, nofun, nofun, nofun, nofun, nofun, nofun, nofun, nofun, nofun, nofun⟩
    · refine ⟨?_, ?_, ?_, ?_, ?_, ?_, ?_, ?_, ?_, ?_, ?_, ?_, ?_, ?_, ?_, ?_, ?_, trivial⟩
      · rintro L x' w' ⟨u8, u30, u31, u32, u33, u34, u35, u36, u37, u38, u39, u40, u41, u42, u43, u44, u45, rfl, hb, g0, g1, g2, g3, g4, g5, g6, g7, g8, g9, g10, g11, g12, g13, g14, g15, g16⟩ hl hd K hK
        simp [Region.binds] at hd
        dsimp only at hK ⊢
        have HK := Lib.hid hK
        clear hK
        go_wp2_with (go_at_call 7; (with_reducible refine (awake7_any _).mono ?_); rintro _ w3 ⟨rfl, hq⟩)
        exact HK.out _ _ ⟨_, _, _, _, _, _, _, _, _, _, _, _, _, _, _, _, _, rfl, hb.trans (hq.mono hb.size), fun _ => rfl, g1, g2, g3, g4, g5, g6.below hq, g7, g8, g9, g10, g11, g12, g13, g14, g15, g16⟩
      · rintro L x' w' ⟨u8, u30, u31, u32, u33, u34, u35, u36, u37, u38, u39, u40, u41, u42, u43, u44, u45, rfl, hb, g0, g1, g2, g3, g4, g5, g6, g7, g8, g9, g10, g11, g12, g13, g14, g15, g16⟩ hl hd K hK
        simp [Region.binds] at hd
        dsimp only at hK ⊢
        have e0 := g0 (by simp [hd])
        subst e0
        go_simp
        exact hK _ _ ⟨_, _, _, _, _, _, _, _, _, _, _, _, _, _, _, _, _, rfl, hb, g0, fun _ => rfl, g2, g3, g4, g5, g6, g7, g8, g9, g10, g11, g12, g13, g14, g15, g16⟩
      · rintro L x' w' ⟨u8, u30, u31, u32, u33, u34, u35, u36, u37, u38, u39, u40, u41, u42, u43, u44, u45, rfl, hb, g0, g1, g2, g3, g4, g5, g6, g7, g8, g9, g10, g11, g12, g13, g14, g15, g16⟩ hl hd K hK
        simp [Region.binds] at hd
        dsimp only at hK ⊢
        have e1 := g1 (by simp [hd])
        subst e1
        go_simp
        exact hK _ _ ⟨_, _, _, _, _, _, _, _, _, _, _, _, _, _, _, _, _, rfl, hb, g0, g1, fun _ => rfl, g3, g4, g5, g6, g7, g8, g9, g10, g11, g12, g13, g14, g15, g16⟩
      · rintro L x' w' ⟨u8, u30, u31, u32, u33, u34, u35, u36, u37, u38, u39, u40, u41, u42, u43, u44, u45, rfl, hb, g0, g1, g2, g3, g4, g5, g6, g7, g8, g9, g10, g11, g12, g13, g14, g15, g16⟩ hl hd K hK
        simp [Region.binds] at hd
        dsimp only at hK ⊢
        have e1 := g1 (by simp [hd])
        subst e1
        go_simp
        exact hK _ _ ⟨_, _, _, _, _, _, _, _, _, _, _, _, _, _, _, _, _, rfl, hb, g0, g1, g2, fun _ => rfl, g4, g5, g6, g7, g8, g9, g10, g11, g12, g13, g14, g15, g16⟩
      · rintro L x' w' ⟨u8, u30, u31, u32, u33, u34, u35, u36, u37, u38, u39, u40, u41, u42, u43, u44, u45, rfl, hb, g0, g1, g2, g3, g4, g5, g6, g7, g8, g9, g10, g11, g12, g13, g14, g15, g16⟩ hl hd K hK
        simp [Region.binds] at hd
        dsimp only at hK ⊢
        have e1 := g1 (by simp [hd])
        subst e1
        have e2 := g2 (by simp [hd])
        subst e2
        have e3 := g3 (by simp [hd])
        subst e3
        go_simp
        exact hK _ _ ⟨_, _, _, _, _, _, _, _, _, _, _, _, _, _, _, _, _, rfl, hb, g0, g1, g2, g3, fun _ => rfl, g5, g6, g7, g8, g9, g10, g11, g12, g13, g14, g15, g16⟩
      · rintro L x' w' ⟨u8, u30, u31, u32, u33, u34, u35, u36, u37, u38, u39, u40, u41, u42, u43, u44, u45, rfl, hb, g0, g1, g2, g3, g4, g5, g6, g7, g8, g9, g10, g11, g12, g13, g14, g15, g16⟩ hl hd K hK
        simp [Region.binds] at hd
        dsimp only at hK ⊢
        have e1 := g1 (by simp [hd])
        subst e1
        go_simp
        exact hK _ _ ⟨_, _, _, _, _, _, _, _, _, _, _, _, _, _, _, _, _, rfl, hb, g0, g1, g2, g3, g4, fun _ => rfl, g6, g7, g8, g9, g10, g11, g12, g13, g14, g15, g16⟩
      · rintro L x' w' ⟨u8, u30, u31, u32, u33, u34, u35, u36, u37, u38, u39, u40, u41, u42, u43, u44, u45, rfl, hb, g0, g1, g2, g3, g4, g5, g6, g7, g8, g9, g10, g11, g12, g13, g14, g15, g16⟩ hl hd K hK
        simp [Region.binds] at hd
        dsimp only at hK ⊢
        have e1 := g1 (by simp [hd])
        subst e1
        have e5 := g5 (by simp [hd])
        subst e5
        go_simp
        exact hK _ _ ⟨_, _, _, _, _, _, _, _, _, _, _, _, _, _, _, _, _, rfl, hb.alloc hb.size _, g0, g1, g2, g3, g4, g5, fun _ => ⟨_, rfl, hb.size, Blk.new _ _ _⟩, g7, g8, g9, g10, g11, g12, g13, g14, g15, g16⟩
      · rintro L x' w' ⟨u8, u30, u31, u32, u33, u34, u35, u36, u37, u38, u39, u40, u41, u42, u43, u44, u45, rfl, hb, g0, g1, g2, g3, g4, g5, g6, g7, g8, g9, g10, g11, g12, g13, g14, g15, g16⟩ hl hd K hK
        simp [Region.binds] at hd
        dsimp only at hK ⊢
        have e1 := g1 (by simp [hd])
        subst e1
        obtain ⟨G, e6, hG, bG⟩ := g6 (by simp [hd])
        subst e6
        have hcv := run_convert_bytes_arg (P := Tryd.prog) w' 22 5 Tryd.underlying22 Tryd.underlying5 G 0 1 1 [x] rfl (fun i' hi' => by
          obtain rfl : i' = 0 := by omega
          exact bG.cell 0) 9 Tryd.underlying9
        go_simp
        exact hK _ _ ⟨_, _, _, _, _, _, _, _, _, _, _, _, _, _, _, _, _, rfl, hb, g0, g1, g2, g3, g4, g5, fun _ => ⟨_, rfl, hG, bG⟩, fun _ => rfl, g8, g9, g10, g11, g12, g13, g14, g15, g16⟩
      · rintro L x' w' ⟨u8, u30, u31, u32, u33, u34, u35, u36, u37, u38, u39, u40, u41, u42, u43, u44, u45, rfl, hb, g0, g1, g2, g3, g4, g5, g6, g7, g8, g9, g10, g11, g12, g13, g14, g15, g16⟩ hl hd K hK
        simp [Region.binds] at hd
        dsimp only at hK ⊢
        have e1 := g1 (by simp [hd])
        subst e1
        have e4 := g4 (by simp [hd])
        subst e4
        have e7 := g7 (by simp [hd])
        subst e7
        go_simp
        exact hK _ _ ⟨_, _, _, _, _, _, _, _, _, _, _, _, _, _, _, _, _, rfl, hb, g0, g1, g2, g3, g4, g5, g6, g7, fun _ => rfl, g9, g10, g11, g12, g13, g14, g15, g16⟩
      · rintro L x' w' ⟨u8, u30, u31, u32, u33, u34, u35, u36, u37, u38, u39, u40, u41, u42, u43, u44, u45, rfl, hb, g0, g1, g2, g3, g4, g5, g6, g7, g8, g9, g10, g11, g12, g13, g14, g15, g16⟩ hl hd K hK
        simp [Region.binds] at hd
        dsimp only at hK ⊢
        have e1 := g1 (by simp [hd])
        subst e1
        go_simp
        exact hK _ _ ⟨_, _, _, _, _, _, _, _, _, _, _, _, _, _, _, _, _, rfl, hb, g0, g1, g2, g3, g4, g5, g6, g7, g8, fun _ => rfl, g10, g11, g12, g13, g14, g15, g16⟩
      · rintro L x' w' ⟨u8, u30, u31, u32, u33, u34, u35, u36, u37, u38, u39, u40, u41, u42, u43, u44, u45, rfl, hb, g0, g1, g2, g3, g4, g5, g6, g7, g8, g9, g10, g11, g12, g13, g14, g15, g16⟩ hl hd K hK
        simp [Region.binds] at hd
        dsimp only at hK ⊢
        have e1 := g1 (by simp [hd])
        subst e1
        go_simp
        exact hK _ _ ⟨_, _, _, _, _, _, _, _, _, _, _, _, _, _, _, _, _, rfl, hb, g0, g1, g2, g3, g4, g5, g6, g7, g8, g9, fun _ => rfl, g11, g12, g13, g14, g15, g16⟩
      · rintro L x' w' ⟨u8, u30, u31, u32, u33, u34, u35, u36, u37, u38, u39, u40, u41, u42, u43, u44, u45, rfl, hb, g0, g1, g2, g3, g4, g5, g6, g7, g8, g9, g10, g11, g12, g13, g14, g15, g16⟩ hl hd K hK
        simp [Region.binds] at hd
        dsimp only at hK ⊢
        have e1 := g1 (by simp [hd])
        subst e1
        have e10 := g10 (by simp [hd])
        subst e10
        go_simp
        exact hK _ _ ⟨_, _, _, _, _, _, _, _, _, _, _, _, _, _, _, _, _, rfl, hb, g0, g1, g2, g3, g4, g5, g6, g7, g8, g9, g10, fun _ => by congr 1; rw [IntKind.wrap_i64]; omega, g12, g13, g14, g15, g16⟩
      · rintro L x' w' ⟨u8, u30, u31, u32, u33, u34, u35, u36, u37, u38, u39, u40, u41, u42, u43, u44, u45, rfl, hb, g0, g1, g2, g3, g4, g5, g6, g7, g8, g9, g10, g11, g12, g13, g14, g15, g16⟩ hl hd K hK
        simp [Region.binds] at hd
        dsimp only at hK ⊢
        have e1 := g1 (by simp [hd])
        subst e1
        have e9 := g9 (by simp [hd])
        subst e9
        have e11 := g11 (by simp [hd])
        subst e11
        go_simp
        exact hK _ _ ⟨_, _, _, _, _, _, _, _, _, _, _, _, _, _, _, _, _, rfl, hb, g0, g1, g2, g3, g4, g5, g6, g7, g8, g9, g10, g11, fun _ => rfl, g13, g14, g15, g16⟩
      · rintro L x' w' ⟨u8, u30, u31, u32, u33, u34, u35, u36, u37, u38, u39, u40, u41, u42, u43, u44, u45, rfl, hb, g0, g1, g2, g3, g4, g5, g6, g7, g8, g9, g10, g11, g12, g13, g14, g15, g16⟩ hl hd K hK
        simp [Region.binds] at hd
        dsimp only at hK ⊢
        have e1 := g1 (by simp [hd])
        subst e1
        have e8 := g8 (by simp [hd])
        subst e8
        have e12 := g12 (by simp [hd])
        subst e12
        go_simp
        exact hK _ _ ⟨_, _, _, _, _, _, _, _, _, _, _, _, _, _, _, _, _, rfl, hb, g0, g1, g2, g3, g4, g5, g6, g7, g8, g9, g10, g11, g12, fun _ => rfl, g14, g15, g16⟩
      · rintro L x' w' ⟨u8, u30, u31, u32, u33, u34, u35, u36, u37, u38, u39, u40, u41, u42, u43, u44, u45, rfl, hb, g0, g1, g2, g3, g4, g5, g6, g7, g8, g9, g10, g11, g12, g13, g14, g15, g16⟩ hl hd K hK
        simp [Region.binds] at hd
        dsimp only at hK ⊢
        have e1 := g1 (by simp [hd])
        subst e1
        have e13 := g13 (by simp [hd])
        subst e13
        have HK := Lib.hid hK
        clear hK
        go_wp2_with (go_at_call 8; (with_reducible refine (F1.out _ (HE.out.below (bst HB.out hb))).mono ?_); rintro _ w3 ⟨rfl, hq⟩)
        exact HK.out _ _ ⟨_, _, _, _, _, _, _, _, _, _, _, _, _, _, _, _, _, rfl, hb.trans (hq.mono hb.size), g0, g1, g2, g3, g4, g5, g6.below hq, g7, g8, g9, g10, g11, g12, g13, fun _ => rfl, g15, g16⟩
      · rintro L x' w' ⟨u8, u30, u31, u32, u33, u34, u35, u36, u37, u38, u39, u40, u41, u42, u43, u44, u45, rfl, hb, g0, g1, g2, g3, g4, g5, g6, g7, g8, g9, g10, g11, g12, g13, g14, g15, g16⟩ hl hd K hK
        simp [Region.binds] at hd
        dsimp only at hK ⊢
        have e1 := g1 (by simp [hd])
        subst e1
        have e14 := g14 (by simp [hd])
        subst e14
        go_simp
        exact hK _ _ ⟨_, _, _, _, _, _, _, _, _, _, _, _, _, _, _, _, _, rfl, hb, g0, g1, g2, g3, g4, g5, g6, g7, g8, g9, g10, g11, g12, g13, g14, fun _ => rfl, g16⟩
      · rintro L x' w' ⟨u8, u30, u31, u32, u33, u34, u35, u36, u37, u38, u39, u40, u41, u42, u43, u44, u45, rfl, hb, g0, g1, g2, g3, g4, g5, g6, g7, g8, g9, g10, g11, g12, g13, g14, g15, g16⟩ hl hd K hK
        simp [Region.binds] at hd
        dsimp only at hK ⊢
        have e15 := g15 (by simp [hd])
        subst e15
        go_simp
        exact hK _ _ ⟨_, _, _, _, _, _, _, _, _, _, _, _, _, _, _, _, _, rfl, hb, g0, g1, g2, g3, g4, g5, g6, g7, g8, g9, g10, g11, g12, g13, g14, g15, fun _ => rfl⟩
    · rintro x' w' ⟨u8, u30, u31, u32, u33, u34, u35, u36, u37, u38, u39, u40, u41, u42, u43, u44, u45, rfl, hb, g0, g1, g2, g3, g4, g5, g6, g7, g8, g9, g10, g11, g12, g13, g14, g15, g16⟩
      have e16 := g16 rfl
      subst e16
      go_wp2
      go_ret
      exact ⟨by simp, bst HB.out hb⟩
end Go.Proofs.YtojfhlppiicpbaaDoor
