/-
  The contract of ref18.Checkpoint.
-/
import Derived.Test.YtoikgjhekemjdaaChk
import Derived.Test.YtoikgjhekemjdaaInv2
namespace Go.Proofs.Ytoikgjhekemjdaa
open Go.RowKit Go.Sort
theorem chkV_badAt {H : List Snp} {k : Nat} {s : Snp} (hk : H[k]? = some s) (hb : s.okB = false) : chkV H = (1, []) := by
  rcases H with _ | ⟨x, H⟩
  · simp at hk
  refine chkV_bad ?_
  rw [List.all_eq_false]
  exact ⟨s, List.mem_of_getElem? hk, by rw [hb]; simp⟩
theorem okAny {H : List Snp} {k : Nat} (hk : H.length ≤ k) (h : ∀ (j : Nat) (d : Snp), H[j]? = some d → j < k → d.okB = true) : (H.any fun x => !x.okB) = false := by
  rw [List.any_eq_false]
  intro x hx
  obtain ⟨j, hj, e⟩ := List.mem_iff_getElem.1 hx
  have := h j x (by rw [List.getElem?_eq_getElem hj, e]) (by omega)
  simp [this]
theorem ok_asc {s : Snp} (h : s.okB = true) : Asc s.l := entsB_asc (snapB_parts h).2
theorem wrap_s {k : Nat} (h : k ≤ 9223372036854775807) : IntKind.i64.wrap (k : Int) = k := by rw [IntKind.wrap_i64]; omega
theorem rmiss_next {l o : List Ent} {k : Nat} {e : Ent} (h : l[k]? = some e) : (missE (l.take (k + 1)) o).map Ent.id = if hasE o e = true then (missE (l.take k) o).map Ent.id else (missE (l.take k) o).map Ent.id ++ [e.id] := by
  rw [miss_next h]; split <;> simp
theorem own_iR {w : World} {base : Nat} {e : TypeId} {v : Value} {l : List Int} {y : Int} {R : Nat} (hR : l.length = R) (h : w.ownsRow base e 1 v (R + 1) (ints l ++ (#[Value.int .i64 y] : Array Value).toList)) : w.ownsRow base e 1 v (l ++ [y]).length (ints (l ++ [y])) := by subst hR; exact own_ints h
set_option maxRecDepth 100000 in
set_option maxHeartbeats 8000000 in
theorem rchk_any (v : Value) (H : List Snp) (w : World) (hs : SlSn w v H) (hsm : ∀ s ∈ H, ∀ e ∈ s.l, e.small) (hl : H.length ≤ 9223372036854775807) :
    Calls Try.prog 22 #[v] w (RetChk w (chkV H)) := by
  obtain ⟨A, c, rfl, hc1, hc2⟩ := hs.form
  unfold maxLen at hc2
  by_cases h0 : H.length = 0
  · have hH := List.eq_nil_of_length_eq_zero h0
    subst hH
    go_enter Try.func22, Try.ntmps22
    go_wp2
    exact bodyPost_ret (v := .tuple #[.slice none 0 0, .int .i64 1]) (by simp [results, Try.results22, go_sem]) rfl ⟨_, rfl, OwnRc.nil _ _, Below.refl _ _⟩
  have hl0 : ((H.length : Int) == 0) = false := by simp; intro h; rw [h] at h0; exact h0 rfl
  have H0 := Lib.hid h0
  have HSM := Lib.hid hsm
  clear h0 hsm
  go_enter Try.func22, Try.ntmps22
  go_wp2
  go_loopw [20] (fun i wr => ∃ k : Nat, i = .int .i64 k ∧ k ≤ H.length ∧ Hid (∀ (j : Nat) (d : Snp), H[j]? = some d → j < k → d.okB = true) ∧ Below w.heap.size w wr) (fun i _ => H.length - (intOf i).toNat)
  case atStart => exact ⟨0, rfl, by omega, Lib.hid fun j d _ hj => absurd hj (Nat.not_lt_zero _), Below.refl _ _⟩
  case round =>
    obtain ⟨k, rfl, hk, hno, hbel⟩ := hrel
    by_cases hlt : k < H.length
    · obtain ⟨ad, s, u, p, rfl, hse, hp, hSA, hSl⟩ := (hs.below hbel).load rfl hlt
      obtain ⟨hplt, c0, c1, c2, c3⟩ := hSA
      obtain ⟨AL, cL, rfl, hL1, hL2⟩ := hSl.form
      unfold maxLen at hL2
      have HSE := Lib.hid hse
      have HLT := Lib.hid hlt
      obtain ⟨b, hb⟩ : ∃ b, s.okB = b := ⟨_, rfl⟩
      have HCK := Lib.hid (rsnapCheck_b' (x := s.ver) (q := s.seq) (n := s.nid) (l := s.l) hb hSl (HSM.out s (List.mem_of_getElem? hse)) (by omega))
      have HBB := Lib.hid hb
      clear hse hb hSl
      go_upto_region 6 with (fail)
      obtain ⟨w2, hw2⟩ : ∃ w2, w2 = wr.alloc (.cells #[.int .i64 s.ver, .int .i64 s.seq, .int .i64 s.nid, .slice AL s.l.length cL] 24) := ⟨_, rfl⟩
      have BS := Lib.hid (show Blk w2 wr.heap.size 24 #[.int .i64 s.ver, .int .i64 s.seq, .int .i64 s.nid, .slice AL s.l.length cL] by rw [hw2]; exact Blk.new _ _ _)
      have B2 := Lib.hid (show Below wr.heap.size wr w2 by rw [hw2]; exact abel _ _)
      rw [← hw2]
      have HBL := Lib.hid hbel
      clear hw2 hbel c0 c1 c2 c3
      have bb := BS.out
      have n0 := bb.cell 0
      have n1 := bb.cell 1
      have n2 := bb.cell 2
      have n3 := bb.cell 3
      simp only [List.getElem?_toArray, List.getElem?_cons_zero, List.getElem?_cons_succ] at n0 n1 n2 n3
      clear bb
      go_wp2_with fail
      refine (HCK.out w2 B2.out).mono ?_
      rintro _ w3 ⟨rfl, hb3⟩
      have B3 := Lib.hid (bst HBL.out (bst B2.out hb3))
      clear hb3 n0 n1 n2 n3
      cases b with
      | false =>
        have HE := Lib.hid (chkV_badAt HSE.out HBB.out)
        go_wp2
        exact bodyPost_ret (v := .tuple #[.slice none 0 0, .int .i64 1]) (by simp [results, Try.results22, go_sem]) rfl ⟨_, by rw [HE.out], by rw [HE.out]; exact OwnRc.nil _ _, B3.out⟩
      | true =>
        go_wp2
        go_roundw
        case rel =>
          refine ⟨k + 1, by go_num, HLT.out, Lib.hid fun j d hj hjk => ?_, B3.out⟩
          rcases Nat.lt_succ_iff_lt_or_eq.1 hjk with h | h
          · exact hno.out j d hj h
          · subst h
            have e := HSE.out
            rw [hj] at e
            injection e with e
            rw [e]; exact HBB.out
        case measure => have := HLT.out; simp [intOf]; omega
    · have HOK := Lib.hid (okAny (k := k) (by omega) hno.out)
      obtain ⟨ad, s, u, p0, rfl, hse, hp, hSA, hSl⟩ := (hs.below hbel).load (k := 0) rfl (by have := H0.out; omega)
      have hp' : p0 = ad := by rw [← hp]; simp [Addr.add]
      subst hp'
      clear hp
      obtain ⟨hplt, c0, c1, c2, c3⟩ := hSA
      obtain ⟨AL, cL, rfl, hL1, hL2⟩ := hSl.form
      have HSE := Lib.hid hse
      have HSL := Lib.hid hSl
      have HOS := Lib.hid (all_ok HOK.out hse)
      have hl256 : s.l.length ≤ 256 := len_ok HOS.out
      have HL1 := Lib.hid (show 0 < H.length by have := H0.out; omega)
      have hlen0 : 0 < H.length := by have := H0.out; omega
      have HBL := Lib.hid hbel
      clear hse hSl hbel hno
      go_upto_region 9 with (fail)
      have hplt1 := hplt
      refine wp_region_inv (by kernel_rfl) (by kernel_rfl) (fun L a w' => ∃ v28 v29 v30 v31 v32 v33 v34 v35 v36 v37 v38 v39 v40 v41 v42 v43 v44 v45 v46 v6 : Value, a = ⟨#[.slice (some p0) H.length c, undef, u2, u3, undef, u5, v6, undef, undef, undef, undef, undef, undef, undef, undef, .slice (some p0) H.length c, .int .i64 H.length, .bool false, .slice (some p0) H.length c, .int .i64 H.length, .int .i64 k, .bool false, u22, u23, u24, u25, u26, u27, v28, v29, v30, v31, v32, v33, v34, v35, v36, v37, v38, v39, v40, v41, v42, v43, v44, v45, v46, undef, undef, undef, undef, undef, undef, undef, undef, undef, undef, undef, undef, undef, undef, undef, undef, undef, undef, undef, undef, undef, undef, undef, undef, undef, undef, undef, undef, undef, undef, undef, undef, undef, undef, undef, undef, undef, undef, undef, undef, undef, undef, undef, undef, undef, undef, undef, undef, undef, undef, undef, undef, undef, undef, undef, undef, undef, undef, undef, undef, undef, undef, undef, undef, undef, undef, undef, undef, undef, undef, undef, undef, undef, undef, undef, undef, undef, undef, undef, undef, undef, undef, undef, undef], []⟩ ∧
          Below wr.heap.size wr w' ∧ Got (L 0) v28 (.slice (some p0) H.length c) ∧ Got (L 1) v29 (.pointer (some p0)) ∧ Got (L 2) v30 (.pointer (some p0)) ∧ Got (L 3) v31 (.int .i64 s.ver) ∧ Got (L 4) v32 (.slice (some p0) H.length c) ∧ Got (L 5) v33 (.pointer (some p0)) ∧ Got (L 6) v34 (.pointer (some ⟨p0.block, p0.off + 1, none⟩)) ∧ Got (L 7) v35 (.int .i64 s.seq) ∧ Got (L 8) v36 (.slice (some p0) H.length c) ∧ Got (L 9) v37 (.pointer (some p0)) ∧ Got (L 10) v38 (.pointer (some ⟨p0.block, p0.off + 2, none⟩)) ∧ Got (L 11) v39 (.int .i64 s.nid) ∧ Got (L 12) v40 (.slice (some p0) H.length c) ∧ Got (L 13) v41 (.pointer (some p0)) ∧ Got (L 14) v42 (.pointer (some ⟨p0.block, p0.off + 3, none⟩)) ∧ Got (L 15) v43 (.slice AL s.l.length cL) ∧ (L 16 = true → w'.ownsRow wr.heap.size 34 12 v44 s.l.length (ents s.l)) ∧ Got (L 17) v45 (.agg #[.int .i64 1, .int .i64 s.ver, .int .i64 s.seq, .int .i64 s.nid, v44, .slice none 0 0]) ∧ (L 17 = true → L 16 = true) ∧ (L 18 = true → L 17 = true ∧ ∃ N, v46 = .slice (some ⟨N, 0, none⟩) 1 1 ∧ wr.heap.size ≤ N ∧ Blk w' N 38 #[.int .i64 1, .int .i64 s.ver, .int .i64 s.seq, .int .i64 s.nid, v44, .slice none 0 0]) ∧ Got (L 19) v6 v46 ∧ (L 19 = true → L 18 = true))
        ?_ ?_ ?_
      · exact ⟨_, _, _, _, _, _, _, _, _, _, _, _, _, _, _, _, _, _, _, _, rfl, (Below.refl _ _).drew, nofun, nofun, nofun, nofun, nofun, nofun, nofun, nofun, nofun, nofun, nofun, nofun, nofun, nofun, nofun, nofun, nofun, nofun, nofun, nofun, nofun, nofun⟩
      · refine ⟨?_, ?_, ?_, ?_, ?_, ?_, ?_, ?_, ?_, ?_, ?_, ?_, ?_, ?_, ?_, ?_, ?_, ?_, ?_, ?_, trivial⟩
        · rintro L a w' ⟨v28, v29, v30, v31, v32, v33, v34, v35, v36, v37, v38, v39, v40, v41, v42, v43, v44, v45, v46, v6, rfl, hb, g0, g1, g2, g3, g4, g5, g6, g7, g8, g9, g10, g11, g12, g13, g14, g15, g16, g17, g18, g19, g20, g21⟩ hl hd K hK
          dsimp only at hK ⊢
          go_simp
          exact hK _ _ ⟨_, _, _, _, _, _, _, _, _, _, _, _, _, _, _, _, _, _, _, _, rfl, hb, fun _ => rfl, g1, g2, g3, g4, g5, g6, g7, g8, g9, g10, g11, g12, g13, g14, g15, g16, g17, g18, g19, g20, g21⟩
        · rintro L a w' ⟨v28, v29, v30, v31, v32, v33, v34, v35, v36, v37, v38, v39, v40, v41, v42, v43, v44, v45, v46, v6, rfl, hb, g0, g1, g2, g3, g4, g5, g6, g7, g8, g9, g10, g11, g12, g13, g14, g15, g16, g17, g18, g19, g20, g21⟩ hl hd K hK
          simp [Region.binds] at hd
          dsimp only at hK ⊢
          have e0 := g0 (by simp [hd])
          subst e0
          go_simp
          exact hK _ _ ⟨_, _, _, _, _, _, _, _, _, _, _, _, _, _, _, _, _, _, _, _, rfl, hb, g0, fun _ => rfl, g2, g3, g4, g5, g6, g7, g8, g9, g10, g11, g12, g13, g14, g15, g16, g17, g18, g19, g20, g21⟩
        · rintro L a w' ⟨v28, v29, v30, v31, v32, v33, v34, v35, v36, v37, v38, v39, v40, v41, v42, v43, v44, v45, v46, v6, rfl, hb, g0, g1, g2, g3, g4, g5, g6, g7, g8, g9, g10, g11, g12, g13, g14, g15, g16, g17, g18, g19, g20, g21⟩ hl hd K hK
          simp [Region.binds] at hd
          dsimp only at hK ⊢
          have e1 := g1 (by simp [hd])
          subst e1
          go_simp
          exact hK _ _ ⟨_, _, _, _, _, _, _, _, _, _, _, _, _, _, _, _, _, _, _, _, rfl, hb, g0, g1, fun _ => rfl, g3, g4, g5, g6, g7, g8, g9, g10, g11, g12, g13, g14, g15, g16, g17, g18, g19, g20, g21⟩
        · rintro L a w' ⟨v28, v29, v30, v31, v32, v33, v34, v35, v36, v37, v38, v39, v40, v41, v42, v43, v44, v45, v46, v6, rfl, hb, g0, g1, g2, g3, g4, g5, g6, g7, g8, g9, g10, g11, g12, g13, g14, g15, g16, g17, g18, g19, g20, g21⟩ hl hd K hK
          simp [Region.binds] at hd
          dsimp only at hK ⊢
          have e2 := g2 (by simp [hd])
          subst e2
          have cc := (hb.cell (p := p0) hplt1).trans c0
          go_simp
          exact hK _ _ ⟨_, _, _, _, _, _, _, _, _, _, _, _, _, _, _, _, _, _, _, _, rfl, hb, g0, g1, g2, fun _ => rfl, g4, g5, g6, g7, g8, g9, g10, g11, g12, g13, g14, g15, g16, g17, g18, g19, g20, g21⟩
        · rintro L a w' ⟨v28, v29, v30, v31, v32, v33, v34, v35, v36, v37, v38, v39, v40, v41, v42, v43, v44, v45, v46, v6, rfl, hb, g0, g1, g2, g3, g4, g5, g6, g7, g8, g9, g10, g11, g12, g13, g14, g15, g16, g17, g18, g19, g20, g21⟩ hl hd K hK
          dsimp only at hK ⊢
          go_simp
          exact hK _ _ ⟨_, _, _, _, _, _, _, _, _, _, _, _, _, _, _, _, _, _, _, _, rfl, hb, g0, g1, g2, g3, fun _ => rfl, g5, g6, g7, g8, g9, g10, g11, g12, g13, g14, g15, g16, g17, g18, g19, g20, g21⟩
        · rintro L a w' ⟨v28, v29, v30, v31, v32, v33, v34, v35, v36, v37, v38, v39, v40, v41, v42, v43, v44, v45, v46, v6, rfl, hb, g0, g1, g2, g3, g4, g5, g6, g7, g8, g9, g10, g11, g12, g13, g14, g15, g16, g17, g18, g19, g20, g21⟩ hl hd K hK
          simp [Region.binds] at hd
          dsimp only at hK ⊢
          have e4 := g4 (by simp [hd])
          subst e4
          go_simp
          exact hK _ _ ⟨_, _, _, _, _, _, _, _, _, _, _, _, _, _, _, _, _, _, _, _, rfl, hb, g0, g1, g2, g3, g4, fun _ => rfl, g6, g7, g8, g9, g10, g11, g12, g13, g14, g15, g16, g17, g18, g19, g20, g21⟩
        · rintro L a w' ⟨v28, v29, v30, v31, v32, v33, v34, v35, v36, v37, v38, v39, v40, v41, v42, v43, v44, v45, v46, v6, rfl, hb, g0, g1, g2, g3, g4, g5, g6, g7, g8, g9, g10, g11, g12, g13, g14, g15, g16, g17, g18, g19, g20, g21⟩ hl hd K hK
          simp [Region.binds] at hd
          dsimp only at hK ⊢
          have e5 := g5 (by simp [hd])
          subst e5
          go_simp
          exact hK _ _ ⟨_, _, _, _, _, _, _, _, _, _, _, _, _, _, _, _, _, _, _, _, rfl, hb, g0, g1, g2, g3, g4, g5, fun _ => rfl, g7, g8, g9, g10, g11, g12, g13, g14, g15, g16, g17, g18, g19, g20, g21⟩
        · rintro L a w' ⟨v28, v29, v30, v31, v32, v33, v34, v35, v36, v37, v38, v39, v40, v41, v42, v43, v44, v45, v46, v6, rfl, hb, g0, g1, g2, g3, g4, g5, g6, g7, g8, g9, g10, g11, g12, g13, g14, g15, g16, g17, g18, g19, g20, g21⟩ hl hd K hK
          simp [Region.binds] at hd
          dsimp only at hK ⊢
          have e6 := g6 (by simp [hd])
          subst e6
          have cc := (hb.cell (p := { block := p0.block, off := p0.off + 1 }) hplt1).trans c1
          go_simp
          exact hK _ _ ⟨_, _, _, _, _, _, _, _, _, _, _, _, _, _, _, _, _, _, _, _, rfl, hb, g0, g1, g2, g3, g4, g5, g6, fun _ => rfl, g8, g9, g10, g11, g12, g13, g14, g15, g16, g17, g18, g19, g20, g21⟩
        · rintro L a w' ⟨v28, v29, v30, v31, v32, v33, v34, v35, v36, v37, v38, v39, v40, v41, v42, v43, v44, v45, v46, v6, rfl, hb, g0, g1, g2, g3, g4, g5, g6, g7, g8, g9, g10, g11, g12, g13, g14, g15, g16, g17, g18, g19, g20, g21⟩ hl hd K hK
          dsimp only at hK ⊢
          go_simp
          exact hK _ _ ⟨_, _, _, _, _, _, _, _, _, _, _, _, _, _, _, _, _, _, _, _, rfl, hb, g0, g1, g2, g3, g4, g5, g6, g7, fun _ => rfl, g9, g10, g11, g12, g13, g14, g15, g16, g17, g18, g19, g20, g21⟩
        · rintro L a w' ⟨v28, v29, v30, v31, v32, v33, v34, v35, v36, v37, v38, v39, v40, v41, v42, v43, v44, v45, v46, v6, rfl, hb, g0, g1, g2, g3, g4, g5, g6, g7, g8, g9, g10, g11, g12, g13, g14, g15, g16, g17, g18, g19, g20, g21⟩ hl hd K hK
          simp [Region.binds] at hd
          dsimp only at hK ⊢
          have e8 := g8 (by simp [hd])
          subst e8
          go_simp
          exact hK _ _ ⟨_, _, _, _, _, _, _, _, _, _, _, _, _, _, _, _, _, _, _, _, rfl, hb, g0, g1, g2, g3, g4, g5, g6, g7, g8, fun _ => rfl, g10, g11, g12, g13, g14, g15, g16, g17, g18, g19, g20, g21⟩
        · rintro L a w' ⟨v28, v29, v30, v31, v32, v33, v34, v35, v36, v37, v38, v39, v40, v41, v42, v43, v44, v45, v46, v6, rfl, hb, g0, g1, g2, g3, g4, g5, g6, g7, g8, g9, g10, g11, g12, g13, g14, g15, g16, g17, g18, g19, g20, g21⟩ hl hd K hK
          simp [Region.binds] at hd
          dsimp only at hK ⊢
          have e9 := g9 (by simp [hd])
          subst e9
          go_simp
          exact hK _ _ ⟨_, _, _, _, _, _, _, _, _, _, _, _, _, _, _, _, _, _, _, _, rfl, hb, g0, g1, g2, g3, g4, g5, g6, g7, g8, g9, fun _ => rfl, g11, g12, g13, g14, g15, g16, g17, g18, g19, g20, g21⟩
        · rintro L a w' ⟨v28, v29, v30, v31, v32, v33, v34, v35, v36, v37, v38, v39, v40, v41, v42, v43, v44, v45, v46, v6, rfl, hb, g0, g1, g2, g3, g4, g5, g6, g7, g8, g9, g10, g11, g12, g13, g14, g15, g16, g17, g18, g19, g20, g21⟩ hl hd K hK
          simp [Region.binds] at hd
          dsimp only at hK ⊢
          have e10 := g10 (by simp [hd])
          subst e10
          have cc := (hb.cell (p := { block := p0.block, off := p0.off + 2 }) hplt1).trans c2
          go_simp
          exact hK _ _ ⟨_, _, _, _, _, _, _, _, _, _, _, _, _, _, _, _, _, _, _, _, rfl, hb, g0, g1, g2, g3, g4, g5, g6, g7, g8, g9, g10, fun _ => rfl, g12, g13, g14, g15, g16, g17, g18, g19, g20, g21⟩
        · rintro L a w' ⟨v28, v29, v30, v31, v32, v33, v34, v35, v36, v37, v38, v39, v40, v41, v42, v43, v44, v45, v46, v6, rfl, hb, g0, g1, g2, g3, g4, g5, g6, g7, g8, g9, g10, g11, g12, g13, g14, g15, g16, g17, g18, g19, g20, g21⟩ hl hd K hK
          dsimp only at hK ⊢
          go_simp
          exact hK _ _ ⟨_, _, _, _, _, _, _, _, _, _, _, _, _, _, _, _, _, _, _, _, rfl, hb, g0, g1, g2, g3, g4, g5, g6, g7, g8, g9, g10, g11, fun _ => rfl, g13, g14, g15, g16, g17, g18, g19, g20, g21⟩
        · rintro L a w' ⟨v28, v29, v30, v31, v32, v33, v34, v35, v36, v37, v38, v39, v40, v41, v42, v43, v44, v45, v46, v6, rfl, hb, g0, g1, g2, g3, g4, g5, g6, g7, g8, g9, g10, g11, g12, g13, g14, g15, g16, g17, g18, g19, g20, g21⟩ hl hd K hK
          simp [Region.binds] at hd
          dsimp only at hK ⊢
          have e12 := g12 (by simp [hd])
          subst e12
          go_simp
          exact hK _ _ ⟨_, _, _, _, _, _, _, _, _, _, _, _, _, _, _, _, _, _, _, _, rfl, hb, g0, g1, g2, g3, g4, g5, g6, g7, g8, g9, g10, g11, g12, fun _ => rfl, g14, g15, g16, g17, g18, g19, g20, g21⟩
        · rintro L a w' ⟨v28, v29, v30, v31, v32, v33, v34, v35, v36, v37, v38, v39, v40, v41, v42, v43, v44, v45, v46, v6, rfl, hb, g0, g1, g2, g3, g4, g5, g6, g7, g8, g9, g10, g11, g12, g13, g14, g15, g16, g17, g18, g19, g20, g21⟩ hl hd K hK
          simp [Region.binds] at hd
          dsimp only at hK ⊢
          have e13 := g13 (by simp [hd])
          subst e13
          go_simp
          exact hK _ _ ⟨_, _, _, _, _, _, _, _, _, _, _, _, _, _, _, _, _, _, _, _, rfl, hb, g0, g1, g2, g3, g4, g5, g6, g7, g8, g9, g10, g11, g12, g13, fun _ => rfl, g15, g16, g17, g18, g19, g20, g21⟩
        · rintro L a w' ⟨v28, v29, v30, v31, v32, v33, v34, v35, v36, v37, v38, v39, v40, v41, v42, v43, v44, v45, v46, v6, rfl, hb, g0, g1, g2, g3, g4, g5, g6, g7, g8, g9, g10, g11, g12, g13, g14, g15, g16, g17, g18, g19, g20, g21⟩ hl hd K hK
          simp [Region.binds] at hd
          dsimp only at hK ⊢
          have e14 := g14 (by simp [hd])
          subst e14
          have cc := (hb.cell (p := { block := p0.block, off := p0.off + 3 }) hplt1).trans c3
          go_simp
          exact hK _ _ ⟨_, _, _, _, _, _, _, _, _, _, _, _, _, _, _, _, _, _, _, _, rfl, hb, g0, g1, g2, g3, g4, g5, g6, g7, g8, g9, g10, g11, g12, g13, g14, fun _ => rfl, g16, g17, g18, g19, g20, g21⟩
        · rintro L a w' ⟨v28, v29, v30, v31, v32, v33, v34, v35, v36, v37, v38, v39, v40, v41, v42, v43, v44, v45, v46, v6, rfl, hb, g0, g1, g2, g3, g4, g5, g6, g7, g8, g9, g10, g11, g12, g13, g14, g15, g16, g17, g18, g19, g20, g21⟩ hl hd K hK
          simp [Region.binds] at hd
          dsimp only at hK ⊢
          have e15 := g15 (by simp [hd])
          subst e15
          have h17 : L 17 = false := by
            cases h : L 17 with
            | false => rfl
            | true => have := g18 h; rw [hl] at this; cases this
          have h18 : L 18 = false := by
            cases h : L 18 with
            | false => rfl
            | true => have := (g19 h).1; rw [h17] at this; cases this
          have h19 : L 19 = false := by
            cases h : L 19 with
            | false => rfl
            | true => have := g21 h; rw [h18] at this; cases this
          refine wp_app (P := Try.prog) (n := 0) (xs := []) (m := s.l.length) (base := w'.heap.size) (.const (.slice none 0 0)) (.tmp 43) (World.ownsRow_nil _ _ _ _) (HSL.out.below hb) (Nat.le_refl _) under_entry info_entry rfl (by decide) (one_ents' s.l) (by omega) (by omega) rfl rfl rfl ?_
          intro v4 w4 ho4 hg4 _
          have hown4 : w4.ownsRow w'.heap.size 34 12 v4 s.l.length (ents s.l) := by simpa using ho4
          have hb4 : Below w'.heap.size w' w4 := ⟨hg4.os, hg4.tape, hg4.output, hg4.size, fun i hi => hg4.block i hi (by simp [Value.ownBlock])⟩
          exact hK _ _ ⟨_, _, _, _, _, _, _, _, _, _, _, _, _, _, _, _, _, _, _, _, rfl, bst hb hb4, g0, g1, g2, g3, g4, g5, g6, g7, g8, g9, g10, g11, g12, g13, g14, g15, fun _ => own_mono hown4 hb.size, fun h => absurd (show L 17 = true from h) (by rw [h17]; simp), fun _ => rfl, fun h => absurd (show L 18 = true from h) (by rw [h18]; simp), fun h => absurd (show L 19 = true from h) (by rw [h19]; simp), g21⟩
        · rintro L a w' ⟨v28, v29, v30, v31, v32, v33, v34, v35, v36, v37, v38, v39, v40, v41, v42, v43, v44, v45, v46, v6, rfl, hb, g0, g1, g2, g3, g4, g5, g6, g7, g8, g9, g10, g11, g12, g13, g14, g15, g16, g17, g18, g19, g20, g21⟩ hl hd K hK
          simp [Region.binds] at hd
          dsimp only at hK ⊢
          have e3 := g3 (by simp [hd])
          subst e3
          have e7 := g7 (by simp [hd])
          subst e7
          have e11 := g11 (by simp [hd])
          subst e11
          have h18 : L 18 = false := by
            cases h : L 18 with
            | false => rfl
            | true => have := (g19 h).1; rw [hl] at this; cases this
          obtain ⟨A4, c4, rfl, _, _⟩ := (Sl.of_own (g16 (by simp [hd]))).form
          go_simp
          exact hK _ _ ⟨_, _, _, _, _, _, _, _, _, _, _, _, _, _, _, _, _, _, _, _, rfl, hb, g0, g1, g2, g3, g4, g5, g6, g7, g8, g9, g10, g11, g12, g13, g14, g15, g16, fun _ => rfl, fun _ => (by show L 16 = true; simp [hd]), fun h => absurd (show L 18 = true from h) (by rw [h18]; simp), g20, g21⟩
        · rintro L a w' ⟨v28, v29, v30, v31, v32, v33, v34, v35, v36, v37, v38, v39, v40, v41, v42, v43, v44, v45, v46, v6, rfl, hb, g0, g1, g2, g3, g4, g5, g6, g7, g8, g9, g10, g11, g12, g13, g14, g15, g16, g17, g18, g19, g20, g21⟩ hl hd K hK
          simp [Region.binds] at hd
          dsimp only at hK ⊢
          have e17 := g17 (by simp [hd])
          subst e17
          have hd17 : L 17 = true := by simp [hd]
          obtain ⟨A4, c4, rfl, _, _⟩ := (Sl.of_own (g16 (g18 hd17))).form
          have h19 : L 19 = false := by
            cases h : L 19 with
            | false => rfl
            | true => have := g21 h; rw [hl] at this; cases this
          go_simp
          exact hK _ _ ⟨_, _, _, _, _, _, _, _, _, _, _, _, _, _, _, _, _, _, _, _, rfl, hb.alloc hb.size _, g0, g1, g2, g3, g4, g5, g6, g7, g8, g9, g10, g11, g12, g13, g14, g15, fun h => (g16 h).alloc _, g17, g18, fun _ => ⟨hd17, w'.heap.size, rfl, hb.size, Blk.new _ _ _⟩, fun h => absurd (show L 19 = true from h) (by rw [h19]; simp), fun _ => rfl⟩
        · rintro L a w' ⟨v28, v29, v30, v31, v32, v33, v34, v35, v36, v37, v38, v39, v40, v41, v42, v43, v44, v45, v46, v6, rfl, hb, g0, g1, g2, g3, g4, g5, g6, g7, g8, g9, g10, g11, g12, g13, g14, g15, g16, g17, g18, g19, g20, g21⟩ hl hd K hK
          simp [Region.binds] at hd
          dsimp only at hK ⊢
          have hd18 : L 18 = true := by simp [hd]
          go_simp
          exact hK _ _ ⟨_, _, _, _, _, _, _, _, _, _, _, _, _, _, _, _, _, _, _, _, rfl, hb, g0, g1, g2, g3, g4, g5, g6, g7, g8, g9, g10, g11, g12, g13, g14, g15, g16, g17, g18, g19, fun _ => rfl, fun _ => hd18⟩
      rintro a w3 ⟨v28, v29, v30, v31, v32, v33, v34, v35, v36, v37, v38, v39, v40, v41, v42, v43, v44, v45, v46, v6, rfl, hb, g0, g1, g2, g3, g4, g5, g6, g7, g8, g9, g10, g11, g12, g13, g14, g15, g16, g17, g18, g19, g20, g21⟩
      have e0 := g0 rfl
      subst e0
      have e1 := g1 rfl
      subst e1
      have e2 := g2 rfl
      subst e2
      have e3 := g3 rfl
      subst e3
      have e4 := g4 rfl
      subst e4
      have e5 := g5 rfl
      subst e5
      have e6 := g6 rfl
      subst e6
      have e7 := g7 rfl
      subst e7
      have e8 := g8 rfl
      subst e8
      have e9 := g9 rfl
      subst e9
      have e10 := g10 rfl
      subst e10
      have e11 := g11 rfl
      subst e11
      have e12 := g12 rfl
      subst e12
      have e13 := g13 rfl
      subst e13
      have e14 := g14 rfl
      subst e14
      have e15 := g15 rfl
      subst e15
      have e17 := g17 rfl
      subst e17
      have e20 := g20 rfl
      subst e20
      obtain ⟨_, N, e19, hN, bN⟩ := g19 rfl
      subst e19
      have OWN3 := Lib.hid (rc_one (s := baseR s) (va := v44) (vr := .slice none 0 0) bN (Nat.le_trans HBL.out.size hN) (own_mono (g16 rfl) HBL.out.size) (World.ownsRow_nil _ _ _ _))
      have B3 := Lib.hid (bst HBL.out hb)
      clear g0 g1 g2 g3 g4 g5 g6 g7 g8 g9 g10 g11 g12 g13 g14 g15 g16 g17 g18 g19 g20 g21 bN hN hb c0 c1 c2 c3 hplt1 hplt
      go_wp2
      go_loopw [6, 7] (fun vl i wr => ∃ (k : Nat) (acc : List Rcd), i = .int .i64 k ∧ 1 ≤ k ∧ k ≤ H.length ∧ Hid (ChkAt H k acc) ∧ OwnRc wr w.heap.size vl acc ∧ Below w.heap.size w wr) (fun _ i _ => H.length - (intOf i).toNat)
      case atStart => exact ⟨1, [baseR s], rfl, by omega, HL1.out, Lib.hid (ChkAt.first HOK.out HSE.out), OWN3.out, B3.out⟩
      case round =>
        obtain ⟨wo, rfl⟩ : ∃ wo : World, wo = wr := ⟨_, rfl⟩
        obtain ⟨kk, acc, rfl, hk1, hk2, hat, hown, hbel⟩ := hrel
        by_cases hlt2 : kk < H.length
        · obtain ⟨j, hj⟩ : ∃ j, kk = j + 1 := ⟨kk - 1, by omega⟩
          have HKJ := Lib.hid hj
          have hat := Lib.hid (show ChkAt H (j + 1) acc by rw [← hj]; exact hat.out)
          obtain ⟨ad1, sa, ua, p1, hA1, hae, hp1, hSA, hSla⟩ := (hs.below hbel).load rfl (show j < H.length by omega)
          cases hA1
          obtain ⟨ad2, sb, ub, p2, hA2, hbe, hp2, hSB, hSlb⟩ := (hs.below hbel).load rfl hlt2
          cases hA2
          obtain ⟨hpl1, c0, c1, c2, c3⟩ := hSA
          obtain ⟨hpl2, d0, d1, d2, d3⟩ := hSB
          obtain ⟨AB, cB, rfl, hB1, hB2⟩ := hSla.form
          obtain ⟨AC, cC, rfl, hC1, hC2⟩ := hSlb.form
          have HAE := Lib.hid hae
          have HBE := Lib.hid (show H[j + 1]? = some sb by rw [← hj]; exact hbe)
          have HOA := Lib.hid (all_ok HOK.out hae)
          have HOB := Lib.hid (all_ok HOK.out hbe)
          obtain ⟨hv1, hv2⟩ : 0 ≤ sa.ver ∧ sa.ver ≤ 2147483647 := ⟨(snapB_parts HOA.out).1.1, (snapB_parts HOA.out).1.2.1⟩
          have HRB := Lib.hid (show acc.length ≤ 2147483648 by rw [hat.out.len]; have := hat.out.bound HAE.out HOA.out; omega)
          have HLT := Lib.hid hlt2
          have HJ := Lib.hid (show j ≤ 9223372036854775807 by omega)
          have HSLA := Lib.hid hSla
          have HSLB := Lib.hid hSlb
          have HOW := Lib.hid hown
          have HBLO := Lib.hid hbel
          have hkj : (kk : Int) - 1 = j := by omega
          have hkd : decide ((kk : Int) < (H.length : Int)) = true := by simp; omega
          have hjp : (0 : Int) ≤ (kk : Int) := by omega
          have hjq : (kk : Int) < (H.length : Int) := by omega
          have hjl : (j : Int) < (H.length : Int) := by omega
          have hjl2 : j < H.length := by omega
          have hjb : (j : Int) ≤ 9223372036854775805 := by omega
          have hkb : (kk : Int) ≤ 9223372036854775806 := by omega
          clear hj
          clear hae hbe hSla hSlb hown hbel
          go_upto_region 13 with (fail)
          refine wp_region_inv (by kernel_rfl) (by kernel_rfl) (fun L a w' => ∃ v53 v54 v55 v56 v57 v58 v59 v60 v61 v8 v9 : Value, a = ⟨#[.slice (some p0) H.length c, undef, u2, u3, undef, u5, u6, .int .i64 kk, v8, v9, u10, undef, u12, undef, u14, .slice (some p0) H.length c, .int .i64 H.length, .bool false, .slice (some p0) H.length c, .int .i64 H.length, .int .i64 k, .bool false, u22, u23, u24, u25, u26, u27, .slice (some p0) H.length c, .pointer (some p0), .pointer (some p0), .int .i64 s.ver, .slice (some p0) H.length c, .pointer (some p0), .pointer (some ⟨p0.block, p0.off + 1, none⟩), .int .i64 s.seq, .slice (some p0) H.length c, .pointer (some p0), .pointer (some ⟨p0.block, p0.off + 2, none⟩), .int .i64 s.nid, .slice (some p0) H.length c, .pointer (some p0), .pointer (some ⟨p0.block, p0.off + 3, none⟩), .slice AL s.l.length cL, v44, .agg #[.int .i64 1, .int .i64 s.ver, .int .i64 s.seq, .int .i64 s.nid, v44, .slice none 0 0], .slice (some ⟨N, 0, none⟩) 1 1, .int .i64 kk, .slice (some p0) H.length c, .int .i64 H.length, .bool true, u51, u52, v53, v54, v55, v56, v57, v58, v59, v60, v61, u62, u63, u64, u65, u66, u67, u68, u69, u70, u71, u72, u73, u74, u75, u76, u77, u78, u79, u80, u81, u82, u83, u84, u85, u86, u87, u88, u89, u90, u91, u92, u93, u94, u95, u96, u97, u98, u99, u100, u101, u102, u103, u104, u105, u106, u107, u108, u109, u110, u111, u112, u113, u114, u115, u116, u117, u118, u119, u120, u121, u122, u123, u124, u125, u126, u127, u128, u129, undef], []⟩ ∧
              Below wo.heap.size wo w' ∧ Got (L 0) v53 (.slice (some p0) H.length c) ∧ Got (L 1) v54 (.int .i64 kk) ∧ Got (L 2) v55 (.int .i64 j) ∧ Got (L 3) v56 (.pointer (some p1)) ∧ Got (L 4) v57 (.agg #[.int .i64 sa.ver, .int .i64 sa.seq, .int .i64 sa.nid, .slice AB sa.l.length cB]) ∧ Got (L 5) v58 (.slice (some p0) H.length c) ∧ Got (L 6) v59 (.int .i64 kk) ∧ Got (L 7) v60 (.pointer (some p2)) ∧ Got (L 8) v61 (.agg #[.int .i64 sb.ver, .int .i64 sb.seq, .int .i64 sb.nid, .slice AC sb.l.length cC]) ∧ (L 9 = true → ∃ N, v8 = .pointer (some ⟨N, 0, none⟩) ∧ wo.heap.size ≤ N ∧ Blk w' N 24 (if L 11 = true then #[.int .i64 sa.ver, .int .i64 sa.seq, .int .i64 sa.nid, .slice AB sa.l.length cB] else #[.int .i64 0, .int .i64 0, .int .i64 0, .slice none 0 0])) ∧ (L 10 = true → ∃ N, v9 = .pointer (some ⟨N, 0, none⟩) ∧ wo.heap.size ≤ N ∧ Blk w' N 24 (if L 12 = true then #[.int .i64 sb.ver, .int .i64 sb.seq, .int .i64 sb.nid, .slice AC sb.l.length cC] else #[.int .i64 0, .int .i64 0, .int .i64 0, .slice none 0 0])) ∧ (L 9 = true → L 10 = true → v8 ≠ v9) ∧ (L 11 = true → L 9 = true) ∧ (L 12 = true → L 10 = true))
            ?_ ?_ ?_
          · exact ⟨_, _, _, _, _, _, _, _, _, _, _, rfl, (Below.refl _ _).drew, nofun, nofun, nofun, nofun, nofun, nofun, nofun, nofun, nofun, nofun, nofun, nofun, nofun, nofun⟩
          · refine ⟨?_, ?_, ?_, ?_, ?_, ?_, ?_, ?_, ?_, ?_, ?_, ?_, ?_, trivial⟩
            · rintro L a w' ⟨v53, v54, v55, v56, v57, v58, v59, v60, v61, v8, v9, rfl, hb, g0, g1, g2, g3, g4, g5, g6, g7, g8, g9, g10, g11, g12, g13⟩ hl hd K hK
              dsimp only at hK ⊢
              go_simp
              exact hK _ _ ⟨_, _, _, _, _, _, _, _, _, _, _, rfl, hb, fun _ => rfl, g1, g2, g3, g4, g5, g6, g7, g8, g9, g10, g11, g12, g13⟩
            · rintro L a w' ⟨v53, v54, v55, v56, v57, v58, v59, v60, v61, v8, v9, rfl, hb, g0, g1, g2, g3, g4, g5, g6, g7, g8, g9, g10, g11, g12, g13⟩ hl hd K hK
              dsimp only at hK ⊢
              go_simp
              exact hK _ _ ⟨_, _, _, _, _, _, _, _, _, _, _, rfl, hb, g0, fun _ => rfl, g2, g3, g4, g5, g6, g7, g8, g9, g10, g11, g12, g13⟩
            · rintro L a w' ⟨v53, v54, v55, v56, v57, v58, v59, v60, v61, v8, v9, rfl, hb, g0, g1, g2, g3, g4, g5, g6, g7, g8, g9, g10, g11, g12, g13⟩ hl hd K hK
              simp [Region.binds] at hd
              dsimp only at hK ⊢
              have e1 := g1 (by simp [hd])
              subst e1
              go_simp
              exact hK _ _ ⟨_, _, _, _, _, _, _, _, _, _, _, rfl, hb, g0, g1, fun _ => congrArg _ (wrap_s HJ.out), g3, g4, g5, g6, g7, g8, g9, g10, g11, g12, g13⟩
            · rintro L a w' ⟨v53, v54, v55, v56, v57, v58, v59, v60, v61, v8, v9, rfl, hb, g0, g1, g2, g3, g4, g5, g6, g7, g8, g9, g10, g11, g12, g13⟩ hl hd K hK
              simp [Region.binds] at hd
              dsimp only at hK ⊢
              have e0 := g0 (by simp [hd])
              subst e0
              have e2 := g2 (by simp [hd])
              subst e2
              go_simp
              exact hK _ _ ⟨_, _, _, _, _, _, _, _, _, _, _, rfl, hb, g0, g1, g2, fun _ => rfl, g4, g5, g6, g7, g8, g9, g10, g11, g12, g13⟩
            · rintro L a w' ⟨v53, v54, v55, v56, v57, v58, v59, v60, v61, v8, v9, rfl, hb, g0, g1, g2, g3, g4, g5, g6, g7, g8, g9, g10, g11, g12, g13⟩ hl hd K hK
              simp [Region.binds] at hd
              dsimp only at hK ⊢
              have e3 := g3 (by simp [hd])
              subst e3
              have cc0 := (hb.cell (p := p1) hpl1).trans c0
              have cc1 := (hb.cell (p := { block := p1.block, off := p1.off + 1 }) hpl1).trans c1
              have cc2 := (hb.cell (p := { block := p1.block, off := p1.off + 2 }) hpl1).trans c2
              have cc3 := (hb.cell (p := { block := p1.block, off := p1.off + 3 }) hpl1).trans c3
              go_simp
              exact hK _ _ ⟨_, _, _, _, _, _, _, _, _, _, _, rfl, hb, g0, g1, g2, g3, fun _ => rfl, g5, g6, g7, g8, g9, g10, g11, g12, g13⟩
            · rintro L a w' ⟨v53, v54, v55, v56, v57, v58, v59, v60, v61, v8, v9, rfl, hb, g0, g1, g2, g3, g4, g5, g6, g7, g8, g9, g10, g11, g12, g13⟩ hl hd K hK
              dsimp only at hK ⊢
              go_simp
              exact hK _ _ ⟨_, _, _, _, _, _, _, _, _, _, _, rfl, hb, g0, g1, g2, g3, g4, fun _ => rfl, g6, g7, g8, g9, g10, g11, g12, g13⟩
            · rintro L a w' ⟨v53, v54, v55, v56, v57, v58, v59, v60, v61, v8, v9, rfl, hb, g0, g1, g2, g3, g4, g5, g6, g7, g8, g9, g10, g11, g12, g13⟩ hl hd K hK
              dsimp only at hK ⊢
              go_simp
              exact hK _ _ ⟨_, _, _, _, _, _, _, _, _, _, _, rfl, hb, g0, g1, g2, g3, g4, g5, fun _ => rfl, g7, g8, g9, g10, g11, g12, g13⟩
            · rintro L a w' ⟨v53, v54, v55, v56, v57, v58, v59, v60, v61, v8, v9, rfl, hb, g0, g1, g2, g3, g4, g5, g6, g7, g8, g9, g10, g11, g12, g13⟩ hl hd K hK
              simp [Region.binds] at hd
              dsimp only at hK ⊢
              have e5 := g5 (by simp [hd])
              subst e5
              have e6 := g6 (by simp [hd])
              subst e6
              go_simp
              exact hK _ _ ⟨_, _, _, _, _, _, _, _, _, _, _, rfl, hb, g0, g1, g2, g3, g4, g5, g6, fun _ => rfl, g8, g9, g10, g11, g12, g13⟩
            · rintro L a w' ⟨v53, v54, v55, v56, v57, v58, v59, v60, v61, v8, v9, rfl, hb, g0, g1, g2, g3, g4, g5, g6, g7, g8, g9, g10, g11, g12, g13⟩ hl hd K hK
              simp [Region.binds] at hd
              dsimp only at hK ⊢
              have e7 := g7 (by simp [hd])
              subst e7
              have cc0 := (hb.cell (p := p2) hpl2).trans d0
              have cc1 := (hb.cell (p := { block := p2.block, off := p2.off + 1 }) hpl2).trans d1
              have cc2 := (hb.cell (p := { block := p2.block, off := p2.off + 2 }) hpl2).trans d2
              have cc3 := (hb.cell (p := { block := p2.block, off := p2.off + 3 }) hpl2).trans d3
              go_simp
              exact hK _ _ ⟨_, _, _, _, _, _, _, _, _, _, _, rfl, hb, g0, g1, g2, g3, g4, g5, g6, g7, fun _ => rfl, g9, g10, g11, g12, g13⟩
            · rintro L a w' ⟨v53, v54, v55, v56, v57, v58, v59, v60, v61, v8, v9, rfl, hb, g0, g1, g2, g3, g4, g5, g6, g7, g8, g9, g10, g11, g12, g13⟩ hl hd K hK
              dsimp only at hK ⊢
              have h11 : L 11 = false := by
                cases h : L 11 with
                | false => rfl
                | true => have := g12 h; rw [hl] at this; cases this
              go_simp
              exact hK _ _ ⟨_, _, _, _, _, _, _, _, _, _, _, rfl, hb.alloc hb.size _, g0, g1, g2, g3, g4, g5, g6, g7, g8, fun _ => ⟨w'.heap.size, rfl, hb.size, (by show Blk _ _ _ (if L 11 = true then _ else _); rw [if_neg (by rw [h11]; simp)]; exact Blk.new _ _ _)⟩, fun h => (by obtain ⟨N, e1, e2, e3⟩ := g10 h; exact ⟨N, e1, e2, e3.alloc _⟩), fun _ h => (by obtain ⟨N, e1, e2, e3⟩ := g10 h; have := e3.lt; rw [e1]; intro e; injection e with e; injection e with e; injection e with e; omega), fun h => absurd (show L 11 = true from h) (by rw [h11]; simp), g13⟩
            · rintro L a w' ⟨v53, v54, v55, v56, v57, v58, v59, v60, v61, v8, v9, rfl, hb, g0, g1, g2, g3, g4, g5, g6, g7, g8, g9, g10, g11, g12, g13⟩ hl hd K hK
              dsimp only at hK ⊢
              have h12 : L 12 = false := by
                cases h : L 12 with
                | false => rfl
                | true => have := g13 h; rw [hl] at this; cases this
              go_simp
              exact hK _ _ ⟨_, _, _, _, _, _, _, _, _, _, _, rfl, hb.alloc hb.size _, g0, g1, g2, g3, g4, g5, g6, g7, g8, fun h => (by obtain ⟨N, e1, e2, e3⟩ := g9 h; exact ⟨N, e1, e2, e3.alloc _⟩), fun _ => ⟨w'.heap.size, rfl, hb.size, (by show Blk _ _ _ (if L 12 = true then _ else _); rw [if_neg (by rw [h12]; simp)]; exact Blk.new _ _ _)⟩, fun h _ => (by obtain ⟨N, e1, e2, e3⟩ := g9 h; have := e3.lt; rw [e1]; intro e; injection e with e; injection e with e; injection e with e; omega), g12, fun h => absurd (show L 12 = true from h) (by rw [h12]; simp)⟩
            · rintro L a w' ⟨v53, v54, v55, v56, v57, v58, v59, v60, v61, v8, v9, rfl, hb, g0, g1, g2, g3, g4, g5, g6, g7, g8, g9, g10, g11, g12, g13⟩ hl hd K hK
              simp [Region.binds] at hd
              dsimp only at hK ⊢
              have e4 := g4 (by simp [hd])
              subst e4
              have hd9 : L 9 = true := by simp [hd]
              obtain ⟨N, e1, e2, e3⟩ := g9 hd9
              subst e1
              rw [if_neg (by rw [hl]; simp)] at e3
              have f0 := e3.frozen 0
              have f1 := e3.frozen 1
              have f2 := e3.frozen 2
              have f3 := e3.frozen 3
              have x0 := e3.cell 0
              have x1 := e3.cell 1
              have x2 := e3.cell 2
              have x3 := e3.cell 3
              simp only [List.getElem?_toArray, List.getElem?_cons_zero, List.getElem?_cons_succ] at x0 x1 x2 x3
              have hlt := e3.lt
              go_simp
              have kg := grown4 w' N (.int .i64 sa.ver) (.int .i64 sa.seq) (.int .i64 sa.nid) (.slice AB sa.l.length cB)
              have kb := blk4 (.int .i64 sa.ver) (.int .i64 sa.seq) (.int .i64 sa.nid) (.slice AB sa.l.length cB) e3
              exact hK _ _ ⟨_, _, _, _, _, _, _, _, _, _, _, rfl, below_row hb kg e2 hb.size, g0, g1, g2, g3, g4, g5, g6, g7, g8, fun _ => ⟨N, rfl, e2, kb⟩, fun h => (by obtain ⟨N2, q1, q2, q3⟩ := g10 h; exact ⟨N2, q1, q2, q3.row kg (fun e => g11 hd9 h (by rw [q1, e]))⟩), g11, fun _ => hd9, g13⟩
            · rintro L a w' ⟨v53, v54, v55, v56, v57, v58, v59, v60, v61, v8, v9, rfl, hb, g0, g1, g2, g3, g4, g5, g6, g7, g8, g9, g10, g11, g12, g13⟩ hl hd K hK
              simp [Region.binds] at hd
              dsimp only at hK ⊢
              have e8 := g8 (by simp [hd])
              subst e8
              have hd9 : L 10 = true := by simp [hd]
              obtain ⟨N, e1, e2, e3⟩ := g10 hd9
              subst e1
              rw [if_neg (by rw [hl]; simp)] at e3
              have f0 := e3.frozen 0
              have f1 := e3.frozen 1
              have f2 := e3.frozen 2
              have f3 := e3.frozen 3
              have x0 := e3.cell 0
              have x1 := e3.cell 1
              have x2 := e3.cell 2
              have x3 := e3.cell 3
              simp only [List.getElem?_toArray, List.getElem?_cons_zero, List.getElem?_cons_succ] at x0 x1 x2 x3
              have hlt := e3.lt
              go_simp
              have kg := grown4 w' N (.int .i64 sb.ver) (.int .i64 sb.seq) (.int .i64 sb.nid) (.slice AC sb.l.length cC)
              have kb := blk4 (.int .i64 sb.ver) (.int .i64 sb.seq) (.int .i64 sb.nid) (.slice AC sb.l.length cC) e3
              exact hK _ _ ⟨_, _, _, _, _, _, _, _, _, _, _, rfl, below_row hb kg e2 hb.size, g0, g1, g2, g3, g4, g5, g6, g7, g8, fun h => (by obtain ⟨N2, q1, q2, q3⟩ := g9 h; exact ⟨N2, q1, q2, q3.row kg (fun e => g11 h hd9 (by rw [q1, e]))⟩), fun _ => ⟨N, rfl, e2, kb⟩, g11, g12, fun _ => hd9⟩
          rintro a w2 ⟨v53, v54, v55, v56, v57, v58, v59, v60, v61, v8, v9, rfl, hb, g0, g1, g2, g3, g4, g5, g6, g7, g8, g9, g10, g11, g12, g13⟩
          have e0 := g0 rfl
          subst e0
          have e1 := g1 rfl
          subst e1
          have e2 := g2 rfl
          subst e2
          have e3 := g3 rfl
          subst e3
          have e4 := g4 rfl
          subst e4
          have e5 := g5 rfl
          subst e5
          have e6 := g6 rfl
          subst e6
          have e7 := g7 rfl
          subst e7
          have e8 := g8 rfl
          subst e8
          obtain ⟨N1, e1, hN1, bN1⟩ := g9 rfl
          subst e1
          obtain ⟨N2, e2, hN2, bN2⟩ := g10 rfl
          subst e2
          rw [if_pos rfl] at bN1 bN2
          have hne : N1 ≠ N2 := by intro e; subst e; exact g11 rfl rfl rfl
          have BA := Lib.hid bN1
          have BB := Lib.hid bN2
          have W2 := Lib.hid hb
          clear g0 g1 g2 g3 g4 g5 g6 g7 g8 g9 g10 g11 g12 g13 bN1 bN2 hb c0 c1 c2 c3 d0 d1 d2 d3 hpl1 hpl2
          have bb := BA.out
          have x0 := bb.cell 0
          have x1 := bb.cell 1
          have x2 := bb.cell 2
          have x3 := bb.cell 3
          simp only [List.getElem?_toArray, List.getElem?_cons_zero, List.getElem?_cons_succ] at x0 x1 x2 x3
          clear bb
          have bb := BB.out
          have y0 := bb.cell 0
          have y1 := bb.cell 1
          have y2 := bb.cell 2
          have y3 := bb.cell 3
          simp only [List.getElem?_toArray, List.getElem?_cons_zero, List.getElem?_cons_succ] at y0 y1 y2 y3
          clear bb
          by_cases hv : sb.ver = sa.ver + 1
          case neg =>
            have t1 : (sb.ver != sa.ver + 1) = true := by simpa using hv
            have HE := Lib.hid (hat.out.ver HAE.out HBE.out hv)
            have HBZ := Lib.hid (bst HBLO.out W2.out)
            clear hv
            go_wp2
            exact bodyPost_ret (v := .tuple #[.slice none 0 0, .int .i64 13]) (by simp [results, Try.results22, go_sem]) rfl ⟨_, by rw [HE.out], by rw [HE.out]; exact OwnRc.nil _ _, HBZ.out⟩
          case pos =>
            have t1 : (sb.ver != sa.ver + 1) = false := by simpa using hv
            have HV := Lib.hid hv
            clear hv
            by_cases hq : sb.seq < sa.seq
            · have hq1 : sb.seq < sa.seq := hq
              have HE := Lib.hid (hat.out.rng HAE.out HBE.out HV.out (.inl hq))
              have HBZ := Lib.hid (bst HBLO.out W2.out)
              go_wp2
              exact bodyPost_ret (v := .tuple #[.slice none 0 0, .int .i64 4]) (by simp [results, Try.results22, go_sem]) rfl ⟨_, by rw [HE.out], by rw [HE.out]; exact OwnRc.nil _ _, HBZ.out⟩
            · by_cases hn : sb.nid < sa.nid
              · have hn1 : sb.nid < sa.nid := hn
                have HE := Lib.hid (hat.out.rng HAE.out HBE.out HV.out (.inr hn))
                have HBZ := Lib.hid (bst HBLO.out W2.out)
                go_wp2
                exact bodyPost_ret (v := .tuple #[.slice none 0 0, .int .i64 4]) (by simp [results, Try.results22, go_sem]) rfl ⟨_, by rw [HE.out], by rw [HE.out]; exact OwnRc.nil _ _, HBZ.out⟩
              · have HAT := Lib.hid (hat.out.next HAE.out HBE.out HV.out (by omega))
                go_upto_region 19 with (fail)
                obtain ⟨w4, hw4⟩ : ∃ w4, w4 = w2.alloc (.cells #[.int .i64 2, .int .i64 sb.ver, .int .i64 sb.seq, .int .i64 sb.nid, .slice none 0 0, .slice none 0 0] 38) := ⟨_, rfl⟩
                obtain ⟨B, hB⟩ : ∃ B, w2.heap.size = B := ⟨_, rfl⟩
                have BR := Lib.hid (show Blk w4 B 38 #[.int .i64 2, .int .i64 sb.ver, .int .i64 sb.seq, .int .i64 sb.nid, .slice none 0 0, .slice none 0 0] by rw [hw4, ← hB]; exact Blk.new _ _ _)
                have hb4 : Below w2.heap.size w2 w4 := by rw [hw4]; exact abel _ _
                have W4 := Lib.hid (bst W2.out hb4)
                have BA4 := Lib.hid (BA.out.below hb4 BA.out.lt)
                have BB4 := Lib.hid (BB.out.below hb4 BB.out.lt)
                have HN1 := Lib.hid (show N1 < B by rw [← hB]; exact BA.out.lt)
                have HN2 := Lib.hid (show N2 < B by rw [← hB]; exact BB.out.lt)
                have HBW := Lib.hid (show wo.heap.size ≤ B by rw [← hB]; exact W2.out.size)
                have HB4 := Lib.hid (show w.heap.size ≤ w4.heap.size from Nat.le_trans HBLO.out.size W4.out.size)
                have MA := Lib.hid (show sa.l.length ≤ 1000000 by have := len_ok HOA.out; omega)
                have MB := Lib.hid (show sb.l.length ≤ 1000000 by have := len_ok HOB.out; omega)
                have mla := MA.out
                have mlb := MB.out
                rw [← hw4]
                simp only [hB]
                clear hw4 hB hb4 hq hn x0 x1 x2 x3 y0 y1 y2 y3
                have bb := BA4.out
                have x0 := bb.cell 0
                have x1 := bb.cell 1
                have x2 := bb.cell 2
                have x3 := bb.cell 3
                simp only [List.getElem?_toArray, List.getElem?_cons_zero, List.getElem?_cons_succ] at x0 x1 x2 x3
                clear bb
                go_wp2
                go_loopw [90] (fun i wr => ∃ (m : Nat) (vr : Value), i = .int .i64 m ∧ m ≤ sa.l.length ∧ Blk wr B 38 #[.int .i64 2, .int .i64 sb.ver, .int .i64 sb.seq, .int .i64 sb.nid, .slice none 0 0, vr] ∧ wr.ownsRow w4.heap.size 3 1 vr ((missE (sa.l.take m) sb.l).map Ent.id).length (ints ((missE (sa.l.take m) sb.l).map Ent.id)) ∧ Only B w4 wr) (fun i _ => sa.l.length - (intOf i).toNat)
                case atStart => exact ⟨0, .slice none 0 0, rfl, Nat.zero_le _, BR.out, World.ownsRow_nil _ _ _ _, Only.refl _ _⟩
                case round =>
                  obtain ⟨m, vr, rfl, hm, hR, hor, hon⟩ := hrel
                  have W5 := Lib.hid (below_row W4.out hon HBW.out W4.out.size)
                  by_cases hlm : m < sa.l.length
                  · skip
                    obtain ⟨adm, e, pe, hAm, he, hpe, hE⟩ := (HSLA.out.below W5.out).ent_load rfl hlm
                    cases hAm
                    obtain ⟨hplt3, c0, c1, c2, c3, c4, c5, c6, c7, c8, c9, c10, c11⟩ := hE
                    have HE := Lib.hid he
                    have HLM := Lib.hid hlm
                    have HRN := Lib.hid (rmiss_next (o := sb.l) he)
                    have HTL := Lib.hid (show (missE (sa.l.take m) sb.l).length ≤ 1000000 from Nat.le_trans (miss_len _ _) (Nat.le_trans (List.length_take_le _ _) (by have := MA.out; omega)))
                    clear he
                    go_upto_region 22 with (fail)
                    obtain ⟨w6, hw6⟩ : ∃ w6, w6 = wr.alloc (.cells #[.int .i64 e.id, .int .i64 e.rows, .int .i64 e.live, .bool e.lo.null, .int .i64 e.lo.n, .string e.lo.s, .int .i64 e.lo.seq, .bool e.hi.null, .int .i64 e.hi.n, .string e.hi.s, .int .i64 e.hi.seq, .int .i64 e.del] 34) := ⟨_, rfl⟩
                    have hb6 : Below wr.heap.size wr w6 := by rw [hw6]; exact abel _ _
                    obtain ⟨NE, hNE⟩ : ∃ NE, wr.heap.size = NE := ⟨_, rfl⟩
                    have BE := Lib.hid (show Blk w6 NE 34 #[.int .i64 e.id, .int .i64 e.rows, .int .i64 e.live, .bool e.lo.null, .int .i64 e.lo.n, .string e.lo.s, .int .i64 e.lo.seq, .bool e.hi.null, .int .i64 e.hi.n, .string e.hi.s, .int .i64 e.hi.seq, .int .i64 e.del] by rw [hw6, ← hNE]; exact Blk.new _ _ _)
                    have R6 := Lib.hid (hR.below hb6 hR.lt)
                    have OV := Lib.hid (own_below hor hb6)
                    have ON6 := Lib.hid (hon.trans (Only.of_below hb6))
                    have W6 := Lib.hid (bst W5.out hb6)
                    have HBO := Lib.hid ((BB4.out.grown ON6.out (by intro e; injection e; have := HN2.out; omega)))
                    have HC := Lib.hid (rhas_any e (.slice AC sb.l.length cC) sb.l w6 (HSLB.out.below W6.out) MB.out (ok_asc HOB.out))
                    obtain ⟨h, hh⟩ : ∃ h, hasE sb.l e = h := ⟨_, rfl⟩
                    rw [hh] at HC HRN
                    rw [← hw6]
                    simp only [hNE]
                    clear hh hw6 hNE hb6 hR hor hon c0 c1 c2 c3 c4 c5 c6 c7 c8 c9 c10 c11 hplt3
                    have bb := BE.out
                    have x0 := bb.cell 0
                    have x1 := bb.cell 1
                    have x2 := bb.cell 2
                    have x3 := bb.cell 3
                    have x4 := bb.cell 4
                    have x5 := bb.cell 5
                    have x6 := bb.cell 6
                    have x7 := bb.cell 7
                    have x8 := bb.cell 8
                    have x9 := bb.cell 9
                    have x10 := bb.cell 10
                    have x11 := bb.cell 11
                    simp only [List.getElem?_toArray, List.getElem?_cons_zero, List.getElem?_cons_succ] at x0 x1 x2 x3 x4 x5 x6 x7 x8 x9 x10 x11
                    clear bb
                    have bb := HBO.out
                    have y0 := bb.cell 0
                    have y1 := bb.cell 1
                    have y2 := bb.cell 2
                    have y3 := bb.cell 3
                    simp only [List.getElem?_toArray, List.getElem?_cons_zero, List.getElem?_cons_succ] at y0 y1 y2 y3
                    clear bb
                    go_wp2_with fail
                    refine HC.out.mono ?_
                    rintro _ w7 ⟨rfl, hb7⟩
                    have BE7 := Lib.hid (BE.out.below hb7 BE.out.lt)
                    have R7 := Lib.hid (R6.out.below hb7 R6.out.lt)
                    have OV7 := Lib.hid (own_below OV.out hb7)
                    have ON7 := Lib.hid (ON6.out.trans (Only.of_below hb7))
                    clear hb7 HC x0 x1 x2 x3 x4 x5 x6 x7 x8 x9 x10 x11 y0 y1 y2 y3
                    cases h with
                    | true =>
                      have HRN1 := Lib.hid (show ((missE (sa.l.take (m + 1)) sb.l).map Ent.id) = ((missE (sa.l.take m) sb.l).map Ent.id) from HRN.out)
                      go_wp2
                      go_roundw
                      case rel => exact ⟨m + 1, vr, by go_num, HLM.out, R7.out, by rw [HRN1.out]; exact OV7.out, ON7.out⟩
                      case measure => have := HLM.out; simp [intOf]; omega
                    | false =>
                      have HRN1 := Lib.hid (show ((missE (sa.l.take (m + 1)) sb.l).map Ent.id) = ((missE (sa.l.take m) sb.l).map Ent.id) ++ [e.id] from HRN.out)
                      obtain ⟨ids, hids⟩ : ∃ ids, (missE (sa.l.take m) sb.l).map Ent.id = ids := ⟨_, rfl⟩
                      have HTL2 := Lib.hid (show ids.length ≤ 1000000 by rw [← hids, List.length_map]; exact HTL.out)
                      rw [hids] at HRN1 OV7
                      obtain ⟨Q, hQ⟩ : ∃ Q, ids.length = Q := ⟨_, rfl⟩
                      have HQ := Lib.hid hQ
                      rw [hQ] at OV7 HTL2
                      have htl := HTL2.out
                      clear hids hQ
                      have bb := R7.out
                      have n0 := bb.cell 0
                      have n1 := bb.cell 1
                      have n2 := bb.cell 2
                      have n3 := bb.cell 3
                      have n4 := bb.cell 4
                      have n5 := bb.cell 5
                      simp only [List.getElem?_toArray, List.getElem?_cons_zero, List.getElem?_cons_succ] at n0 n1 n2 n3 n4 n5
                      clear bb
                      have bb := BE7.out
                      have x0 := bb.cell 0
                      have x1 := bb.cell 1
                      have x2 := bb.cell 2
                      have x3 := bb.cell 3
                      have x4 := bb.cell 4
                      have x5 := bb.cell 5
                      have x6 := bb.cell 6
                      have x7 := bb.cell 7
                      have x8 := bb.cell 8
                      have x9 := bb.cell 9
                      have x10 := bb.cell 10
                      have x11 := bb.cell 11
                      simp only [List.getElem?_toArray, List.getElem?_cons_zero, List.getElem?_cons_succ] at x0 x1 x2 x3 x4 x5 x6 x7 x8 x9 x10 x11
                      clear bb
                      have hsz := ON7.out.size
                      have ov := OV7.out
                      go_wp2_with (at_builtin; go_must (refine app1 _ _ ov (Below.refl w4.heap.size w7) (Nat.le_refl _) hsz under_i64 info_i64 rfl (by decide) rfl (by intro u hu; simp at hu; subst hu; rfl) (by omega) (by omega) rfl rfl rfl rfl ?_))
                      intro g' cap' w9 ho9 hb9 hg9 hor9
                      have R9 := Lib.hid (R7.out.grown hg9 (own_blk_ne OV7.out R7.out (by decide)))
                      have OV9 := Lib.hid (own_iR (l := ids) (y := e.id) HQ.out (by simpa using ho9))
                      have ON9 := Lib.hid (ON7.out.grown hg9 (fun b hb => .inl (OV7.out.lt b hb).1))
                      clear ho9 hb9 hg9 hor9 hsz ov htl n0 n1 n2 n3 n4 n5 x0 x1 x2 x3 x4 x5 x6 x7 x8 x9 x10 x11
                      have bb := R9.out
                      have n0 := bb.cell 0
                      have n1 := bb.cell 1
                      have n2 := bb.cell 2
                      have n3 := bb.cell 3
                      have n4 := bb.cell 4
                      have n5 := bb.cell 5
                      simp only [List.getElem?_toArray, List.getElem?_cons_zero, List.getElem?_cons_succ] at n0 n1 n2 n3 n4 n5
                      clear bb
                      have f5 := R9.out.frozen 5
                      have hlt9 := R9.out.lt
                      have kg := grownBy_set w9 ⟨B, 5, none⟩ (.slice (some ⟨g', 0, none⟩) (Q + 1) cap')
                      have RA := Lib.hid (show Blk (w9.setCell ⟨B, 5, none⟩ (.slice (some ⟨g', 0, none⟩) (Q + 1) cap')) B 38 #[.int .i64 2, .int .i64 sb.ver, .int .i64 sb.seq, .int .i64 sb.nid, .slice none 0 0, .slice (some ⟨g', 0, none⟩) (Q + 1) cap'] from R9.out.set_ 5 _)
                      have OVA := Lib.hid (own_row OV9.out kg (fun b hb e => own_blk_ne OV9.out R9.out (by decide) (by rw [hb, e])))
                      have ONA := Lib.hid (ON9.out.trans kg)
                      clear kg
                      go_wp2
                      go_roundw
                      case rel => exact ⟨m + 1, .slice (some ⟨g', 0, none⟩) (Q + 1) cap', by go_num, HLM.out, RA.out, by rw [HRN1.out]; exact OVA.out, ONA.out⟩
                      case measure => have := HLM.out; simp [intOf]; omega
                  · have hmM : m = sa.l.length := by omega
                    subst hmM
                    rw [List.take_of_length_le (Nat.le_refl _)] at hor
                    obtain ⟨wq, rfl⟩ : ∃ wq : World, wq = wr := ⟨_, rfl⟩
                    obtain ⟨AR, cR, rfl, hr1, hr2⟩ := (Sl.of_own hor).form
                    obtain ⟨MN, hMN⟩ : ∃ MN, ((missE sa.l sb.l).map Ent.id).length = MN := ⟨_, rfl⟩
                    have HMN := Lib.hid hMN
                    rw [hMN] at hR hor hr1
                    have RQ := Lib.hid hR
                    have OVQ := Lib.hid hor
                    have BAQ := Lib.hid (BA4.out.grown hon (by intro e; injection e; have := HN1.out; omega))
                    have BBQ := Lib.hid (BB4.out.grown hon (by intro e; injection e; have := HN2.out; omega))
                    have HSQ := Lib.hid hon.size
                    clear hR hor hon hm hlm hMN x0 x1 x2 x3
                    have bb := BBQ.out
                    have y0 := bb.cell 0
                    have y1 := bb.cell 1
                    have y2 := bb.cell 2
                    have y3 := bb.cell 3
                    simp only [List.getElem?_toArray, List.getElem?_cons_zero, List.getElem?_cons_succ] at y0 y1 y2 y3
                    clear bb
                    go_wp2
                    go_loopw [110] (fun i wr => ∃ (m : Nat) (va : Value), i = .int .i64 m ∧ m ≤ sb.l.length ∧ Blk wr B 38 #[.int .i64 2, .int .i64 sb.ver, .int .i64 sb.seq, .int .i64 sb.nid, va, .slice AR MN cR] ∧ wr.ownsRow wq.heap.size 34 12 va (missE (sb.l.take m) sa.l).length (ents (missE (sb.l.take m) sa.l)) ∧ Only B wq wr) (fun i _ => sb.l.length - (intOf i).toNat)
                    case atStart => exact ⟨0, .slice none 0 0, rfl, Nat.zero_le _, RQ.out, World.ownsRow_nil _ _ _ _, Only.refl _ _⟩
                    case round =>
                      obtain ⟨m, va, rfl, hm, hR, hor, hon⟩ := hrel
                      have W5b := Lib.hid (below_row W5.out hon HBW.out W5.out.size)
                      by_cases hlm : m < sb.l.length
                      · skip
                        have W5 := W5b
                        obtain ⟨adm, e, pe, hAm, he, hpe, hE⟩ := (HSLB.out.below W5.out).ent_load rfl hlm
                        cases hAm
                        obtain ⟨hplt3, c0, c1, c2, c3, c4, c5, c6, c7, c8, c9, c10, c11⟩ := hE
                        have HE := Lib.hid he
                        have HLM := Lib.hid hlm
                        have HRN := Lib.hid (miss_next (o := sa.l) he)
                        have HTL := Lib.hid (show (missE (sb.l.take m) sa.l).length ≤ 1000000 from Nat.le_trans (miss_len _ _) (Nat.le_trans (List.length_take_le _ _) (by have := MB.out; omega)))
                        clear he
                        go_upto_region 28 with (fail)
                        obtain ⟨w6, hw6⟩ : ∃ w6, w6 = wr.alloc (.cells #[.int .i64 e.id, .int .i64 e.rows, .int .i64 e.live, .bool e.lo.null, .int .i64 e.lo.n, .string e.lo.s, .int .i64 e.lo.seq, .bool e.hi.null, .int .i64 e.hi.n, .string e.hi.s, .int .i64 e.hi.seq, .int .i64 e.del] 34) := ⟨_, rfl⟩
                        have hb6 : Below wr.heap.size wr w6 := by rw [hw6]; exact abel _ _
                        obtain ⟨NE, hNE⟩ : ∃ NE, wr.heap.size = NE := ⟨_, rfl⟩
                        have BE := Lib.hid (show Blk w6 NE 34 #[.int .i64 e.id, .int .i64 e.rows, .int .i64 e.live, .bool e.lo.null, .int .i64 e.lo.n, .string e.lo.s, .int .i64 e.lo.seq, .bool e.hi.null, .int .i64 e.hi.n, .string e.hi.s, .int .i64 e.hi.seq, .int .i64 e.del] by rw [hw6, ← hNE]; exact Blk.new _ _ _)
                        have R6 := Lib.hid (hR.below hb6 hR.lt)
                        have OV := Lib.hid (own_below hor hb6)
                        have ON6 := Lib.hid (hon.trans (Only.of_below hb6))
                        have W6 := Lib.hid (bst W5.out hb6)
                        have HBO := Lib.hid ((BAQ.out.grown ON6.out (by intro e; injection e; have := HN1.out; omega)))
                        have HC := Lib.hid (rhas_any e (.slice AB sa.l.length cB) sa.l w6 (HSLA.out.below W6.out) MA.out (ok_asc HOA.out))
                        obtain ⟨h, hh⟩ : ∃ h, hasE sa.l e = h := ⟨_, rfl⟩
                        rw [hh] at HC HRN
                        rw [← hw6]
                        simp only [hNE]
                        clear hh hw6 hNE hb6 hR hor hon c0 c1 c2 c3 c4 c5 c6 c7 c8 c9 c10 c11 hplt3
                        have bb := BE.out
                        have x0 := bb.cell 0
                        have x1 := bb.cell 1
                        have x2 := bb.cell 2
                        have x3 := bb.cell 3
                        have x4 := bb.cell 4
                        have x5 := bb.cell 5
                        have x6 := bb.cell 6
                        have x7 := bb.cell 7
                        have x8 := bb.cell 8
                        have x9 := bb.cell 9
                        have x10 := bb.cell 10
                        have x11 := bb.cell 11
                        simp only [List.getElem?_toArray, List.getElem?_cons_zero, List.getElem?_cons_succ] at x0 x1 x2 x3 x4 x5 x6 x7 x8 x9 x10 x11
                        clear bb
                        have bb := HBO.out
                        have y0 := bb.cell 0
                        have y1 := bb.cell 1
                        have y2 := bb.cell 2
                        have y3 := bb.cell 3
                        simp only [List.getElem?_toArray, List.getElem?_cons_zero, List.getElem?_cons_succ] at y0 y1 y2 y3
                        clear bb
                        go_wp2_with fail
                        refine HC.out.mono ?_
                        rintro _ w7 ⟨rfl, hb7⟩
                        have BE7 := Lib.hid (BE.out.below hb7 BE.out.lt)
                        have R7 := Lib.hid (R6.out.below hb7 R6.out.lt)
                        have OV7 := Lib.hid (own_below OV.out hb7)
                        have ON7 := Lib.hid (ON6.out.trans (Only.of_below hb7))
                        clear hb7 HC x0 x1 x2 x3 x4 x5 x6 x7 x8 x9 x10 x11 y0 y1 y2 y3
                        cases h with
                        | true =>
                          have HRN1 := Lib.hid (show missE (sb.l.take (m + 1)) sa.l = missE (sb.l.take m) sa.l from HRN.out)
                          go_wp2
                          go_roundw
                          case rel => exact ⟨m + 1, va, by go_num, HLM.out, R7.out, by rw [HRN1.out]; exact OV7.out, ON7.out⟩
                          case measure => have := HLM.out; simp [intOf]; omega
                        | false =>
                          have HRN1 := Lib.hid (show missE (sb.l.take (m + 1)) sa.l = missE (sb.l.take m) sa.l ++ [e] from HRN.out)
                          obtain ⟨es, hes⟩ : ∃ es, missE (sb.l.take m) sa.l = es := ⟨_, rfl⟩
                          rw [hes] at HRN1 OV7 HTL
                          obtain ⟨Q, hQ⟩ : ∃ Q, es.length = Q := ⟨_, rfl⟩
                          have HQ := Lib.hid hQ
                          rw [hQ] at OV7 HTL
                          have htl := HTL.out
                          clear hes hQ
                          have bb := R7.out
                          have n0 := bb.cell 0
                          have n1 := bb.cell 1
                          have n2 := bb.cell 2
                          have n3 := bb.cell 3
                          have n4 := bb.cell 4
                          have n5 := bb.cell 5
                          simp only [List.getElem?_toArray, List.getElem?_cons_zero, List.getElem?_cons_succ] at n0 n1 n2 n3 n4 n5
                          clear bb
                          have bb := BE7.out
                          have x0 := bb.cell 0
                          have x1 := bb.cell 1
                          have x2 := bb.cell 2
                          have x3 := bb.cell 3
                          have x4 := bb.cell 4
                          have x5 := bb.cell 5
                          have x6 := bb.cell 6
                          have x7 := bb.cell 7
                          have x8 := bb.cell 8
                          have x9 := bb.cell 9
                          have x10 := bb.cell 10
                          have x11 := bb.cell 11
                          simp only [List.getElem?_toArray, List.getElem?_cons_zero, List.getElem?_cons_succ] at x0 x1 x2 x3 x4 x5 x6 x7 x8 x9 x10 x11
                          clear bb
                          have hsz := ON7.out.size
                          have ov := OV7.out
                          go_wp2_with (at_builtin; go_must (refine app1 _ _ ov (Below.refl wq.heap.size w7) (Nat.le_refl _) hsz under_entry info_entry rfl (by decide) rfl (one12 _ _ _ _ _ _ _ _ _ _ _ _) (by omega) (by omega) rfl rfl rfl rfl ?_))
                          intro g' cap' w9 ho9 hb9 hg9 hor9
                          have R9 := Lib.hid (R7.out.grown hg9 (own_blk_ne OV7.out R7.out (by decide)))
                          have OV9 := Lib.hid (own_ents (l := es) (e := e) rfl (by rw [HQ.out]; exact ho9))
                          have ON9 := Lib.hid (ON7.out.grown hg9 (fun b hb => .inl (OV7.out.lt b hb).1))
                          clear ho9 hb9 hg9 hor9 hsz ov htl n0 n1 n2 n3 n4 n5 x0 x1 x2 x3 x4 x5 x6 x7 x8 x9 x10 x11
                          have bb := R9.out
                          have n0 := bb.cell 0
                          have n1 := bb.cell 1
                          have n2 := bb.cell 2
                          have n3 := bb.cell 3
                          have n4 := bb.cell 4
                          have n5 := bb.cell 5
                          simp only [List.getElem?_toArray, List.getElem?_cons_zero, List.getElem?_cons_succ] at n0 n1 n2 n3 n4 n5
                          clear bb
                          have f4 := R9.out.frozen 4
                          have hlt9 := R9.out.lt
                          have kg := grownBy_set w9 ⟨B, 4, none⟩ (.slice (some ⟨g', 0, none⟩) (Q + 1) cap')
                          have RA := Lib.hid (show Blk (w9.setCell ⟨B, 4, none⟩ (.slice (some ⟨g', 0, none⟩) (Q + 1) cap')) B 38 #[.int .i64 2, .int .i64 sb.ver, .int .i64 sb.seq, .int .i64 sb.nid, .slice (some ⟨g', 0, none⟩) (Q + 1) cap', .slice AR MN cR] from R9.out.set_ 4 _)
                          have OVA := Lib.hid (own_row OV9.out kg (fun b hb e => own_blk_ne OV9.out R9.out (by decide) (by rw [hb, e])))
                          have ONA := Lib.hid (ON9.out.trans kg)
                          clear kg
                          go_wp2
                          go_roundw
                          case rel => exact ⟨m + 1, .slice (some ⟨g', 0, none⟩) (Q + 1) cap', by go_num, HLM.out, RA.out, by rw [HRN1.out]; have := OVA.out; rw [List.length_append, HQ.out] at this ⊢; exact this, ONA.out⟩
                          case measure => have := HLM.out; simp [intOf]; omega
                      · have hmM : m = sb.l.length := by omega
                        subst hmM
                        rw [List.take_of_length_le (Nat.le_refl _)] at hor
                        obtain ⟨AV, cV, rfl, hv1', hv2'⟩ := (Sl.of_own hor).form
                        have RZ := Lib.hid hR
                        have OAZ := Lib.hid hor
                        have OVZ := Lib.hid (own_row OVQ.out hon (fun b hb e => own_blk_ne OVQ.out RQ.out (by decide) (by rw [hb, e])))
                        have OWN := HOW
                        have BEL := HBLO
                        clear hR hor hon hm hlm y0 y1 y2 y3
                        obtain ⟨us, hu1, hu2, hu3⟩ := OWN.out.below W5b.out
                        obtain ⟨R, hR⟩ : ∃ R, acc.length = R := ⟨_, rfl⟩
                        rw [hR] at hu2
                        have HL := Lib.hid hR
                        have HU := Lib.hid (⟨hu1, hu3⟩ : _ ∧ _)
                        have HBW2 := Lib.hid (bst BEL.out W5b.out)
                        have hsz := HBW2.out.size
                        have hRb : R ≤ 2147483648 := by rw [← hR]; exact HRB.out
                        clear hu1 hu3 hR
                        have bb := RZ.out
                        have n0 := bb.cell 0
                        have n1 := bb.cell 1
                        have n2 := bb.cell 2
                        have n3 := bb.cell 3
                        have n4 := bb.cell 4
                        have n5 := bb.cell 5
                        simp only [List.getElem?_toArray, List.getElem?_cons_zero, List.getElem?_cons_succ] at n0 n1 n2 n3 n4 n5
                        clear bb
                        go_wp2_with (at_builtin; go_must (refine app1 _ _ hu2 (Below.refl w.heap.size wr) (Nat.le_refl _) hsz under_rec info_rec rfl (by decide) rfl (one6 _ _ _ _ _ _ _ _ _ _) (by omega) (by omega) rfl rfl rfl rfl ?_))
                        intro g' cap' w9 ho9 hb9 hg9 hor9
                        have O9 := Lib.hid (rc_snoc (h := acc) (s := diffR sa sb) (va := .slice AV (missE sb.l sa.l).length cV) (vr := .slice AR MN cR) HU.out.1 (by rw [HL.out]; exact hu2) HU.out.2 (own_mono OAZ.out (Nat.le_trans HB4.out HSQ.out)) (by show World.ownsRow _ _ _ _ _ ((missE sa.l sb.l).map Ent.id).length _; rw [HMN.out]; exact own_mono OVZ.out HB4.out) (by rw [HL.out]; exact ho9) hg9)
                        have B9 := Lib.hid (HBW2.out.trans hb9)
                        clear ho9 hb9 hg9 hor9 hu2 hsz hRb
                        clear n0 n1 n2 n3 n4 n5
                        go_wp2
                        go_roundw
                        case rel => exact ⟨kk + 1, acc ++ [diffR sa sb], by go_num, by omega, by have := HLT.out; omega, (by rw [HKJ.out]; exact HAT), O9.out, B9.out⟩
                        case measure => have := HLT.out; simp [intOf]; omega
        · have HF := Lib.hid (hat.out.fin (by omega) HL1.out hk2)
          obtain ⟨Al, cl, rfl, _, _⟩ := hown.form
          have OWN := Lib.hid hown
          have BEL := Lib.hid hbel
          clear hown hbel
          go_wp2
          exact bodyPost_ret (v := .tuple #[.slice Al acc.length cl, .int .i64 0]) (by simp [results, Try.results22, go_sem]) rfl ⟨_, by rw [HF.out], by rw [HF.out]; exact OWN.out, BEL.out⟩
end Go.Proofs.Ytoikgjhekemjdaa
