/-
  The walk of PredtextSpaces.
-/
import Derived.Test.YtjnamjkdjcndiaaGreatDoorM20
import Derived.Test.YtjnamjkdjcndiaaGreatDoorM21
import Derived.Test.YtjnamjkdjcndiaaGreatDoorRFmt
import Derived.Test.YtjnamjkdjcndiaaGreatDoorM4
namespace Go.Proofs.YtjnamjkdjcndiaaGreatDoor
open Go.RowKit Go.Sort

theorem gen_ty2 {l : List Col} (h : GenS l.length l) : ∀ c ∈ l, 1 ≤ c.ty ∧ c.ty ≤ 5 := by
  intro c hc
  obtain ⟨i, hi⟩ := List.mem_iff_getElem?.1 hc
  exact (h i c hi).ty
theorem gen_nm2 {l : List Col} (h : GenS l.length l) : ∀ c ∈ l, c.nm.size ≤ 1000 := fun c hc => by have := gen_small h c hc; omega
theorem GenP.bd2 {ys : List Col} {l : List Nd} (h : GenP ys l) (hl : ys.length ≤ 4) (hn : ∀ c ∈ ys, c.nm.size ≤ 1000) : PBd ys l :=
  ⟨by omega, by have := h.len; omega, fun c hc => by have := hn c hc; omega, fun x hx => by obtain ⟨i, hi⟩ := List.mem_iff_getElem?.1 hx; exact (h.ok i x hi).rv, fun x hx => by obtain ⟨i, hi⟩ := List.mem_iff_getElem?.1 hx; exact (h.ok i x hi).rl⟩
theorem one_byte (T : ByteArray) (j : Nat) (h : j < T.size) : (T.extract j (j + 1)).data.toList = [T[j]] := by
  rw [ext_list, show j + 1 - j = 1 by omega]
  have := get_data T j h
  rw [drop_is this]; rfl
set_option maxRecDepth 100000 in
set_option maxHeartbeats 8000000 in
theorem predtextSpaces_walk (xv lv : Value) (xs ls : List Int) (every : Int) (w : World) (hE : Env w)
    (hx : Sl w 1 xv xs.length (ints xs)) (hxl : xs.length ≤ 9223372036854775807) (hxr : ∀ x ∈ xs, -9223372036854775808 ≤ x ∧ x ≤ 9223372036854775807)
    (hl : Sl w 1 lv ls.length (ints ls)) (hll : ls.length ≤ 9223372036854775807) (hlr : ∀ x ∈ ls, -9223372036854775808 ≤ x ∧ x ≤ 9223372036854775807) :
    Calls Tryz.prog 7 #[xv, lv, .int .i64 every] w fun e w' => e = .returned (.bool true) ∧ Below w.heap.size w w' := by
  obtain ⟨AX, cX, rfl, _, _⟩ := hx.form
  obtain ⟨AL, cL, rfl, _, _⟩ := hl.form
  have HKS := Lib.hid (kschema_any _ xs w hx hxl hxr)
  have HL := Lib.hid (⟨hl, hll, hlr⟩ : _ ∧ _ ∧ _)
  have HE := Lib.hid hE
  clear hx hxl hxr hl hll hlr hE
  go_enter Tryz.func7, Tryz.ntmps7
  go_wp2_with fail
  refine HKS.out.mono ?_
  rintro _ w1 ⟨yv, y, yk, rfl, hy1, hy4, hg, hk0, hk1, hys, hb1⟩
  obtain ⟨AY, cY, rfl, _, _⟩ := hys.form
  obtain ⟨W2, hW2⟩ : ∃ W, W = w1.alloc (.cells #[.slice AY y.length cY, .int .i64 yk] 28) := ⟨_, rfl⟩
  have ha2 : Below w1.heap.size w1 W2 := by rw [hW2]; exact below_new _ _
  have HB2 := Lib.hid (bst hb1 ha2)
  have BY2 := Lib.hid (show Blk W2 w1.heap.size 28 #[.slice AY y.length cY, .int .i64 yk] by rw [hW2]; exact Blk.new _ _ _)
  have HYS := Lib.hid (hys.below ha2)
  have HG := Lib.hid hg
  have HV := Lib.hid (gen_valid hy1 hy4 hg hk0 hk1)
  obtain ⟨N, hN⟩ : ∃ N, w1.heap.size = N := ⟨_, rfl⟩
  go_upto_region 2 with (fail)
  rw [← hW2]
  try simp only [hN]
  rw [hN] at BY2
  clear hW2 hN hb1 ha2 hys hg hk0 hk1 HKS
  refine wp_region_inv (by kernel_rfl) (by kernel_rfl) (fun L a w' => ∃ u23 u24 u25 u26 u27 u22 u28 u29 u8 u9 : Value, a = ⟨#[.slice AX xs.length cX, .slice AL ls.length cL, .int .i64 every, undef, undef, undef, .bool false, .pointer (some ⟨N, 0, none⟩), u8, u9, undef, undef, undef, undef, undef, undef, undef, undef, undef, undef, .slice AX xs.length cX, .agg #[.slice AY y.length cY, .int .i64 yk], u22, u23, u24, u25, u26, u27, u28, u29, undef, undef, undef, undef, undef, undef, undef, undef, undef, undef, undef, undef, undef, undef, undef, undef, undef, undef, undef, undef, undef, undef, undef, undef, undef, undef, undef, undef, undef, undef, undef, undef, undef, undef, undef, undef, undef, undef, undef, undef, undef, undef, undef, undef, undef, undef, undef, undef, undef, undef, undef, undef, undef, undef, undef, undef, undef, undef, undef, undef, undef, undef, undef, undef, undef, undef, undef, undef, undef, undef, undef, undef, undef, undef, undef, undef, undef, undef, undef, undef], []⟩ ∧
      Below W2.heap.size W2 w' ∧ Got (L 0) u23 (.agg #[.slice AY y.length cY, .int .i64 yk]) ∧ Got (L 1) u24 (.agg #[.slice AY y.length cY, .int .i64 yk]) ∧ Got (L 2) u25 (.slice AL ls.length cL) ∧ (L 3 = true → ∃ pl, SlNd w' u26 pl ∧ GenP y pl) ∧ (L 4 = true → ∃ pl, GenP y pl ∧ u27 = .tuple #[.string ⟨(fmtP y yk pl).1.toArray⟩, .int .i64 (fmtP y yk pl).2] ∧ (L 5 = true → u22 = .tuple #[.string ⟨(fmtP y yk pl).1.toArray⟩, .int .i64 (fmtP y yk pl).2]) ∧ (L 6 = true → u28 = .string ⟨(fmtP y yk pl).1.toArray⟩) ∧ (L 7 = true → u29 = .int .i64 (fmtP y yk pl).2) ∧ (L 8 = true → u8 = .string ⟨(fmtP y yk pl).1.toArray⟩) ∧ (L 9 = true → u9 = .int .i64 (fmtP y yk pl).2)) ∧ (L 5 = true → L 4 = true) ∧ (L 6 = true → L 5 = true) ∧ (L 7 = true → L 5 = true) ∧ (L 8 = true → L 6 = true) ∧ (L 9 = true → L 7 = true))
    ?_ ?_ ?_
  · exact ⟨_, _, _, _, _, _, _, _, _, _, rfl, (Below.refl _ _).drew, nofun, nofun, nofun, nofun, nofun, nofun, nofun, nofun, nofun, nofun⟩
  · refine ⟨?_, ?_, ?_, ?_, ?_, ?_, ?_, ?_, ?_, ?_, trivial⟩
    · intro L a w' hI hl hd K hK
      refine hI.elim fun u23 hI => hI.elim fun u24 hI => hI.elim fun u25 hI => hI.elim fun u26 hI => hI.elim fun u27 hI => hI.elim fun u22 hI => hI.elim fun u28 hI => hI.elim fun u29 hI => hI.elim fun u8 hI => hI.elim fun u9 hI => ?_
      have ha := hI.1; subst ha; have hb := hI.2.1; have g0 := hI.2.2.1; have g1 := hI.2.2.2.1; have g2 := (rr4 hI).1; have g3 := (rr4 hI).2.1; have g4 := (rr4 hI).2.2.1; have g5 := (rr4 hI).2.2.2.1; have g6 := (rr4 (rr4 hI)).1; have g7 := (rr4 (rr4 hI)).2.1; have g8 := (rr4 (rr4 hI)).2.2.1; have g9 := (rr4 (rr4 hI)).2.2.2; clear hI
      dsimp only at hK ⊢
      have bb := BY2.out.below hb BY2.out.lt
      have s0 := bb.cell 0
      have s1 := bb.cell 1
      simp only [List.getElem?_toArray, List.getElem?_cons_zero, List.getElem?_cons_succ] at s0 s1
      go_simp
      exact hK _ _ ⟨_, _, _, _, _, _, _, _, _, _, rfl, hb, fun _ => rfl, g1, g2, g3, g4, g5, g6, g7, g8, g9⟩
    · intro L a w' hI hl hd K hK
      refine hI.elim fun u23 hI => hI.elim fun u24 hI => hI.elim fun u25 hI => hI.elim fun u26 hI => hI.elim fun u27 hI => hI.elim fun u22 hI => hI.elim fun u28 hI => hI.elim fun u29 hI => hI.elim fun u8 hI => hI.elim fun u9 hI => ?_
      have ha := hI.1; subst ha; have hb := hI.2.1; have g0 := hI.2.2.1; have g1 := hI.2.2.2.1; have g2 := (rr4 hI).1; have g3 := (rr4 hI).2.1; have g4 := (rr4 hI).2.2.1; have g5 := (rr4 hI).2.2.2.1; have g6 := (rr4 (rr4 hI)).1; have g7 := (rr4 (rr4 hI)).2.1; have g8 := (rr4 (rr4 hI)).2.2.1; have g9 := (rr4 (rr4 hI)).2.2.2; clear hI
      dsimp only at hK ⊢
      have bb := BY2.out.below hb BY2.out.lt
      have s0 := bb.cell 0
      have s1 := bb.cell 1
      simp only [List.getElem?_toArray, List.getElem?_cons_zero, List.getElem?_cons_succ] at s0 s1
      go_simp
      exact hK _ _ ⟨_, _, _, _, _, _, _, _, _, _, rfl, hb, g0, fun _ => rfl, g2, g3, g4, g5, g6, g7, g8, g9⟩
    · intro L a w' hI hl hd K hK
      refine hI.elim fun u23 hI => hI.elim fun u24 hI => hI.elim fun u25 hI => hI.elim fun u26 hI => hI.elim fun u27 hI => hI.elim fun u22 hI => hI.elim fun u28 hI => hI.elim fun u29 hI => hI.elim fun u8 hI => hI.elim fun u9 hI => ?_
      have ha := hI.1; subst ha; have hb := hI.2.1; have g0 := hI.2.2.1; have g1 := hI.2.2.2.1; have g2 := (rr4 hI).1; have g3 := (rr4 hI).2.1; have g4 := (rr4 hI).2.2.1; have g5 := (rr4 hI).2.2.2.1; have g6 := (rr4 (rr4 hI)).1; have g7 := (rr4 (rr4 hI)).2.1; have g8 := (rr4 (rr4 hI)).2.2.1; have g9 := (rr4 (rr4 hI)).2.2.2; clear hI
      dsimp only at hK ⊢
      go_simp
      exact hK _ _ ⟨_, _, _, _, _, _, _, _, _, _, rfl, hb, g0, g1, fun _ => rfl, g3, g4, g5, g6, g7, g8, g9⟩
    · intro L a w' hI hl hd K hK
      refine hI.elim fun u23 hI => hI.elim fun u24 hI => hI.elim fun u25 hI => hI.elim fun u26 hI => hI.elim fun u27 hI => hI.elim fun u22 hI => hI.elim fun u28 hI => hI.elim fun u29 hI => hI.elim fun u8 hI => hI.elim fun u9 hI => ?_
      have ha := hI.1; subst ha; have hb := hI.2.1; have g0 := hI.2.2.1; have g1 := hI.2.2.2.1; have g2 := (rr4 hI).1; have g3 := (rr4 hI).2.1; have g4 := (rr4 hI).2.2.1; have g5 := (rr4 hI).2.2.2.1; have g6 := (rr4 (rr4 hI)).1; have g7 := (rr4 (rr4 hI)).2.1; have g8 := (rr4 (rr4 hI)).2.2.1; have g9 := (rr4 (rr4 hI)).2.2.2; clear hI
      simp [Region.binds] at hd
      dsimp only at hK ⊢
      have e1 := g1 (by simp [hd])
      subst e1
      have e2 := g2 (by simp [hd])
      subst e2
      go_wp2_with fail
      with_reducible refine (kpred_any _ _ yk y ls w' (HYS.out.below hb) (by omega) (by omega) (gen_ty2 HG.out) (HL.out.1.below (bst HB2.out hb)) HL.out.2.1 HL.out.2.2).mono ?_
      rintro _ w4 ⟨pv4, pl4, rfl, hgp4, hsp4, hb4⟩
      exact hK _ _ ⟨_, _, _, _, _, _, _, _, _, _, rfl, bst hb hb4, g0, g1, g2, fun _ => ⟨pl4, hsp4, hgp4⟩, g4, g5, g6, g7, g8, g9⟩
    · intro L a w' hI hl hd K hK
      refine hI.elim fun u23 hI => hI.elim fun u24 hI => hI.elim fun u25 hI => hI.elim fun u26 hI => hI.elim fun u27 hI => hI.elim fun u22 hI => hI.elim fun u28 hI => hI.elim fun u29 hI => hI.elim fun u8 hI => hI.elim fun u9 hI => ?_
      have ha := hI.1; subst ha; have hb := hI.2.1; have g0 := hI.2.2.1; have g1 := hI.2.2.2.1; have g2 := (rr4 hI).1; have g3 := (rr4 hI).2.1; have g4 := (rr4 hI).2.2.1; have g5 := (rr4 hI).2.2.2.1; have g6 := (rr4 (rr4 hI)).1; have g7 := (rr4 (rr4 hI)).2.1; have g8 := (rr4 (rr4 hI)).2.2.1; have g9 := (rr4 (rr4 hI)).2.2.2; clear hI
      simp [Region.binds] at hd
      dsimp only at hK ⊢
      have e0 := g0 (by simp [hd])
      subst e0
      have hl9 := hl
      obtain ⟨pl, hsp, hgp⟩ := g3 (by simp [hd])
      obtain ⟨A22, c22, e22, _, _⟩ := hsp.form
      subst e22
      have h5 : L 5 = false := by
        cases h : L 5 with
        | false => rfl
        | true => have := g5 h; rw [hl9] at this; cases this
      have h6 : L 6 = false := by
        cases h : L 6 with
        | false => rfl
        | true => have := g5 (g6 h); rw [hl9] at this; cases this
      have h7 : L 7 = false := by
        cases h : L 7 with
        | false => rfl
        | true => have := g5 (g7 h); rw [hl9] at this; cases this
      have h8 : L 8 = false := by
        cases h : L 8 with
        | false => rfl
        | true => have := g5 (g6 (g8 h)); rw [hl9] at this; cases this
      have h9 : L 9 = false := by
        cases h : L 9 with
        | false => rfl
        | true => have := g5 (g7 (g9 h)); rw [hl9] at this; cases this
      go_wp2_with fail
      refine (rfmt_any _ _ yk y pl w' ⟨(HE.out.below (bst HB2.out hb)).1, HYS.out.below hb, hsp⟩ (hgp.bd2 hy4 (gen_nm2 HG.out))).mono ?_
      rintro _ w4 ⟨rfl, hb4⟩
      exact hK _ _ ⟨_, _, _, _, _, _, _, _, _, _, rfl, bst hb hb4, g0, g1, g2, fun _ => ⟨pl, hsp.below hb4, hgp⟩, fun _ => ⟨pl, hgp, rfl, (fun h => absurd (show L 5 = true from h) (by rw [h5]; simp)), (fun h => absurd (show L 6 = true from h) (by rw [h6]; simp)), (fun h => absurd (show L 7 = true from h) (by rw [h7]; simp)), (fun h => absurd (show L 8 = true from h) (by rw [h8]; simp)), (fun h => absurd (show L 9 = true from h) (by rw [h9]; simp))⟩, fun _ => rfl, g6, g7, g8, g9⟩
    · intro L a w' hI hl hd K hK
      refine hI.elim fun u23 hI => hI.elim fun u24 hI => hI.elim fun u25 hI => hI.elim fun u26 hI => hI.elim fun u27 hI => hI.elim fun u22 hI => hI.elim fun u28 hI => hI.elim fun u29 hI => hI.elim fun u8 hI => hI.elim fun u9 hI => ?_
      have ha := hI.1; subst ha; have hb := hI.2.1; have g0 := hI.2.2.1; have g1 := hI.2.2.2.1; have g2 := (rr4 hI).1; have g3 := (rr4 hI).2.1; have g4 := (rr4 hI).2.2.1; have g5 := (rr4 hI).2.2.2.1; have g6 := (rr4 (rr4 hI)).1; have g7 := (rr4 (rr4 hI)).2.1; have g8 := (rr4 (rr4 hI)).2.2.1; have g9 := (rr4 (rr4 hI)).2.2.2; clear hI
      simp [Region.binds] at hd
      dsimp only at hK ⊢
      have h4 : L 4 = true := by simp [hd]
      obtain ⟨pl, hgp, rfl, q5, q6, q7, q8, q9⟩ := g4 h4
      have Q5 := Lib.hid q5
      have Q6 := Lib.hid q6
      have Q7 := Lib.hid q7
      have Q8 := Lib.hid q8
      have Q9 := Lib.hid q9
      clear q5 q6 q7 q8 q9
      go_simp
      exact hK _ _ ⟨_, _, _, _, _, _, _, _, _, _, rfl, hb, g0, g1, g2, g3, fun _ => ⟨pl, hgp, rfl, fun _ => rfl, Q6.out, Q7.out, Q8.out, Q9.out⟩, fun _ => h4, fun _ => rfl, fun _ => rfl, g8, g9⟩
    · intro L a w' hI hl hd K hK
      refine hI.elim fun u23 hI => hI.elim fun u24 hI => hI.elim fun u25 hI => hI.elim fun u26 hI => hI.elim fun u27 hI => hI.elim fun u22 hI => hI.elim fun u28 hI => hI.elim fun u29 hI => hI.elim fun u8 hI => hI.elim fun u9 hI => ?_
      have ha := hI.1; subst ha; have hb := hI.2.1; have g0 := hI.2.2.1; have g1 := hI.2.2.2.1; have g2 := (rr4 hI).1; have g3 := (rr4 hI).2.1; have g4 := (rr4 hI).2.2.1; have g5 := (rr4 hI).2.2.2.1; have g6 := (rr4 (rr4 hI)).1; have g7 := (rr4 (rr4 hI)).2.1; have g8 := (rr4 (rr4 hI)).2.2.1; have g9 := (rr4 (rr4 hI)).2.2.2; clear hI
      simp [Region.binds] at hd
      dsimp only at hK ⊢
      have h5 : L 5 = true := by simp [hd]
      have h4 : L 4 = true := g5 h5
      obtain ⟨pl, hgp, rfl, q5, q6, q7, q8, q9⟩ := g4 h4
      have Q5 := Lib.hid q5
      have Q6 := Lib.hid q6
      have Q7 := Lib.hid q7
      have Q8 := Lib.hid q8
      have Q9 := Lib.hid q9
      clear q5 q6 q7 q8 q9
      have e22 := Q5.out h5
      subst e22
      go_simp
      exact hK _ _ ⟨_, _, _, _, _, _, _, _, _, _, rfl, hb, g0, g1, g2, g3, fun _ => ⟨pl, hgp, rfl, fun _ => rfl, fun _ => rfl, Q7.out, Q8.out, Q9.out⟩, g5, fun _ => h5, g7, fun _ => rfl, g9⟩
    · intro L a w' hI hl hd K hK
      refine hI.elim fun u23 hI => hI.elim fun u24 hI => hI.elim fun u25 hI => hI.elim fun u26 hI => hI.elim fun u27 hI => hI.elim fun u22 hI => hI.elim fun u28 hI => hI.elim fun u29 hI => hI.elim fun u8 hI => hI.elim fun u9 hI => ?_
      have ha := hI.1; subst ha; have hb := hI.2.1; have g0 := hI.2.2.1; have g1 := hI.2.2.2.1; have g2 := (rr4 hI).1; have g3 := (rr4 hI).2.1; have g4 := (rr4 hI).2.2.1; have g5 := (rr4 hI).2.2.2.1; have g6 := (rr4 (rr4 hI)).1; have g7 := (rr4 (rr4 hI)).2.1; have g8 := (rr4 (rr4 hI)).2.2.1; have g9 := (rr4 (rr4 hI)).2.2.2; clear hI
      simp [Region.binds] at hd
      dsimp only at hK ⊢
      have h5 : L 5 = true := by simp [hd]
      have h4 : L 4 = true := g5 h5
      obtain ⟨pl, hgp, rfl, q5, q6, q7, q8, q9⟩ := g4 h4
      have Q5 := Lib.hid q5
      have Q6 := Lib.hid q6
      have Q7 := Lib.hid q7
      have Q8 := Lib.hid q8
      have Q9 := Lib.hid q9
      clear q5 q6 q7 q8 q9
      have e22 := Q5.out h5
      subst e22
      go_simp
      exact hK _ _ ⟨_, _, _, _, _, _, _, _, _, _, rfl, hb, g0, g1, g2, g3, fun _ => ⟨pl, hgp, rfl, fun _ => rfl, Q6.out, fun _ => rfl, Q8.out, Q9.out⟩, g5, g6, fun _ => h5, g8, fun _ => rfl⟩
    · intro L a w' hI hl hd K hK
      refine hI.elim fun u23 hI => hI.elim fun u24 hI => hI.elim fun u25 hI => hI.elim fun u26 hI => hI.elim fun u27 hI => hI.elim fun u22 hI => hI.elim fun u28 hI => hI.elim fun u29 hI => hI.elim fun u8 hI => hI.elim fun u9 hI => ?_
      have ha := hI.1; subst ha; have hb := hI.2.1; have g0 := hI.2.2.1; have g1 := hI.2.2.2.1; have g2 := (rr4 hI).1; have g3 := (rr4 hI).2.1; have g4 := (rr4 hI).2.2.1; have g5 := (rr4 hI).2.2.2.1; have g6 := (rr4 (rr4 hI)).1; have g7 := (rr4 (rr4 hI)).2.1; have g8 := (rr4 (rr4 hI)).2.2.1; have g9 := (rr4 (rr4 hI)).2.2.2; clear hI
      simp [Region.binds] at hd
      dsimp only at hK ⊢
      have h6 : L 6 = true := by simp [hd]
      have h5 : L 5 = true := g6 h6
      have h4 : L 4 = true := g5 h5
      obtain ⟨pl, hgp, rfl, q5, q6, q7, q8, q9⟩ := g4 h4
      have Q5 := Lib.hid q5
      have Q6 := Lib.hid q6
      have Q7 := Lib.hid q7
      have Q8 := Lib.hid q8
      have Q9 := Lib.hid q9
      clear q5 q6 q7 q8 q9
      have e22 := Q5.out h5
      subst e22
      have e28 := Q6.out h6
      subst e28
      go_simp
      exact hK _ _ ⟨_, _, _, _, _, _, _, _, _, _, rfl, hb, g0, g1, g2, g3, fun _ => ⟨pl, hgp, rfl, fun _ => rfl, fun _ => rfl, Q7.out, fun _ => rfl, Q9.out⟩, g5, g6, g7, fun _ => h6, g9⟩
    · intro L a w' hI hl hd K hK
      refine hI.elim fun u23 hI => hI.elim fun u24 hI => hI.elim fun u25 hI => hI.elim fun u26 hI => hI.elim fun u27 hI => hI.elim fun u22 hI => hI.elim fun u28 hI => hI.elim fun u29 hI => hI.elim fun u8 hI => hI.elim fun u9 hI => ?_
      have ha := hI.1; subst ha; have hb := hI.2.1; have g0 := hI.2.2.1; have g1 := hI.2.2.2.1; have g2 := (rr4 hI).1; have g3 := (rr4 hI).2.1; have g4 := (rr4 hI).2.2.1; have g5 := (rr4 hI).2.2.2.1; have g6 := (rr4 (rr4 hI)).1; have g7 := (rr4 (rr4 hI)).2.1; have g8 := (rr4 (rr4 hI)).2.2.1; have g9 := (rr4 (rr4 hI)).2.2.2; clear hI
      simp [Region.binds] at hd
      dsimp only at hK ⊢
      have h7 : L 7 = true := by simp [hd]
      have h5 : L 5 = true := g7 h7
      have h4 : L 4 = true := g5 h5
      obtain ⟨pl, hgp, rfl, q5, q6, q7, q8, q9⟩ := g4 h4
      have Q5 := Lib.hid q5
      have Q6 := Lib.hid q6
      have Q7 := Lib.hid q7
      have Q8 := Lib.hid q8
      have Q9 := Lib.hid q9
      clear q5 q6 q7 q8 q9
      have e22 := Q5.out h5
      subst e22
      have e29 := Q7.out h7
      subst e29
      go_simp
      exact hK _ _ ⟨_, _, _, _, _, _, _, _, _, _, rfl, hb, g0, g1, g2, g3, fun _ => ⟨pl, hgp, rfl, fun _ => rfl, Q6.out, fun _ => rfl, Q8.out, fun _ => rfl⟩, g5, g6, g7, g8, fun _ => h7⟩
  intro a w9 hI
  refine hI.elim fun u23 hI => hI.elim fun u24 hI => hI.elim fun u25 hI => hI.elim fun u26 hI => hI.elim fun u27 hI => hI.elim fun u22 hI => hI.elim fun u28 hI => hI.elim fun u29 hI => hI.elim fun u8 hI => hI.elim fun u9 hI => ?_
  have ha := hI.1; subst ha; have hb := hI.2.1; have g0 := hI.2.2.1; have g1 := hI.2.2.2.1; have g2 := (rr4 hI).1; have g3 := (rr4 hI).2.1; have g4 := (rr4 hI).2.2.1; have g5 := (rr4 hI).2.2.2.1; have g6 := (rr4 (rr4 hI)).1; have g7 := (rr4 (rr4 hI)).2.1; have g8 := (rr4 (rr4 hI)).2.2.1; have g9 := (rr4 (rr4 hI)).2.2.2; clear hI
  obtain ⟨pl, hgp, _, _, _, _, e8, _⟩ := g4 rfl
  have e8 := e8 rfl
  subst e8
  obtain ⟨T, hT⟩ : ∃ T : ByteArray, (⟨(fmtP y yk pl).1.toArray⟩ : ByteArray) = T := ⟨_, rfl⟩
  have HT := Lib.hid (show T.data.toList = (fmtP y yk pl).1 by rw [← hT])
  have HB9 := Lib.hid (bst HB2.out hb)
  have BY9 := Lib.hid (BY2.out.below hb BY2.out.lt)
  have HY9 := Lib.hid (HYS.out.below hb)
  have HGD := Lib.hid (hgp.good HV.out)
  rw [hT]
  have p1 := pick_lo every 5 (by omega)
  have p2 := pick_hi every 5 (by omega)
  have HPK := Lib.hid (fun X => pick_any every 5 X (by omega) (by omega))
  obtain ⟨k, hk⟩ : ∃ k : Nat, pick every 5 = k := ⟨(pick every 5).toNat, by omega⟩
  rw [hk] at p1 p2 HPK
  obtain ⟨K, hK⟩ : ∃ K : Nat, k + 1 = K := ⟨_, rfl⟩
  have hK1 : 1 ≤ K := by omega
  have hK5 : K ≤ 5 := by omega
  have wk : IntKind.i64.wrap (1 + (k : Int)) = (K : Int) := by rw [show 1 + (k : Int) = (K : Int) by omega]; exact IntWalk.i64_in _ (by omega)
  have wk2 : IntKind.i64.wrap ((k : Int) + 1) = (K : Int) := by rw [show (k : Int) + 1 = (K : Int) by omega]; exact IntWalk.i64_in _ (by omega)
  obtain ⟨R0, hR0⟩ : ∃ R, parP y yk (fmtP y yk pl).1 = R := ⟨_, rfl⟩
  obtain ⟨Q0, hQ0⟩ : ∃ R, parP y yk (spcL K 0 (fmtP y yk pl).1) = R := ⟨_, rfl⟩
  obtain ⟨s1, s2, s3, s4⟩ := sp_law HGD.out HV.out K hR0 hQ0
  have hTs : T.size ≤ 65536 := by rw [← size_data, HT.out]; exact s1
  have HS2 := Lib.hid s2
  have HS3 := Lib.hid s3
  have HS4 := Lib.hid s4
  have HR0 := Lib.hid hR0
  have HQ0 := Lib.hid hQ0
  clear g0 g1 g2 g3 g4 g5 g6 g7 g8 g9 hb hgp hT hk p1 p2 s1 s2 s3 s4 hR0 hQ0 BY2 HYS HB2
  go_wp2_with fail
  refine (HPK.out _).mono ?_
  rintro _ _ ⟨rfl, rfl⟩
  go_wp2_with fail
  clear wk wk2 HPK hK
  go_loopw [11, 12] (fun u i wr => ∃ (j : Nat) (U : ByteArray), j ≤ T.size ∧ i = .int .i64 (j : Int) ∧ u = .string U ∧ Hid (U.data.toList = spcL K 0 (T.data.toList.take j)) ∧ U.size ≤ 3 * j ∧ Below w9.heap.size w9 wr) (fun _ i _ => T.size - (intOf i).toNat)
  case atStart => exact ⟨0, { data := #[] }, by omega, rfl, rfl, Lib.hid rfl, by decide, Below.refl _ _⟩
  case round =>
    obtain ⟨j, U, hj, rfl, rfl, hU, hUs, hbel⟩ := hrel
    have HU := Lib.hid hU.out
    have HBL := Lib.hid hbel
    clear hU hbel
    by_cases hlt : j < T.size
    · have qj : decide (j < T.size) = true := decide_eq_true hlt
      have pj : (j < T.size) = True := eq_true hlt
      have wj : IntKind.i64.wrap ((j : Int) + 1) = (j : Int) + 1 := IntWalk.i64_in _ (by omega)
      have hj1 : (j : Int) ≤ (j : Int) + 1 := by omega
      have hj2 : (j : Int) + 1 ≤ (T.size : Int) := by omega
      obtain ⟨C, hC⟩ : ∃ C, T.extract j (j + 1) = C := ⟨_, rfl⟩
      have hCl : C.data.toList = [T[j]] := by rw [← hC]; exact one_byte T j hlt
      have hCs : C.size = 1 := by rw [← size_data, hCl]; rfl
      have hCt : C.toList = [T[j]] := by rw [Go.ByteArray.toList_eq, hCl]
      have HTK := Lib.hid (show spcL K 0 (T.data.toList.take (j + 1)) = spcL K 0 (T.data.toList.take j) ++ spcB K j T[j] by
        rw [List.take_add_one, get_data T j hlt]
        show spcL K 0 (_ ++ [T[j]]) = _
        rw [spc_snoc, Nat.zero_add, List.length_take, size_data, Nat.min_eq_left (by omega)])
      go_upto_region 10 with (fail)
      try simp only [hC]
      have HC := Lib.hid hCl
      clear hC hCl
      have m1 : ¬9223372036854775807 < U.size + C.size := by omega
      have m2 : ¬9223372036854775807 < C.size + 2 := by omega
      have m3 : ¬9223372036854775807 < U.size + (C.size + 2) := by omega
      have m4 : ¬9223372036854775807 < U.size + 2 := by omega
      by_cases h32 : T[j] = 32
      · have qa : (C.toList == [32]) = true := by rw [hCt, h32]; rfl
        have HN := Lib.hid (show (U ++ (C ++ { data := #[32, 32] })).data.toList = spcL K 0 (T.data.toList.take (j + 1)) by
          rw [HTK.out, ← HU.out, ByteArray.data_append, ByteArray.data_append, Array.toList_append, Array.toList_append, HC.out, h32]; unfold spcB; rw [if_pos (.inl rfl)]; rfl)
        clear h32 hCt HTK
        go_wp2
        go_roundw
        case rel => exact ⟨j + 1, _, by omega, by rw [show ((j + 1 : Nat) : Int) = (j : Int) + 1 by omega], rfl, HN, by simp only [ByteArray.size_append]; have : ByteArray.size { data := #[32, 32] } = 2 := rfl; omega, HBL.out⟩
        case measure => simp [intOf]; omega
      · have qa : (C.toList == [32]) = false := by rw [hCt]; simpa using h32
        by_cases h40 : T[j] = 40
        · have qb : (C.toList == [40]) = true := by rw [hCt, h40]; rfl
          by_cases hm : j % K = 0
          · have qm : (Int.tmod (j : Int) (K : Int) == 0) = true := by rw [beq_iff_eq, ← Int.ofNat_tmod, hm]; rfl
            have qm2 : ((j : Int) % (K : Int) == 0) = true := by rw [beq_iff_eq, ← Int.natCast_emod, hm]; rfl
            have qm3 : IntKind.i64.wrap (Int.tmod (j : Int) (K : Int)) = 0 := by rw [show Int.tmod (j : Int) (K : Int) = 0 from beq_iff_eq.1 qm]; rfl
            have HN := Lib.hid (show (U ++ (C ++ { data := #[32, 32] })).data.toList = spcL K 0 (T.data.toList.take (j + 1)) by
              rw [HTK.out, ← HU.out, ByteArray.data_append, ByteArray.data_append, Array.toList_append, Array.toList_append, HC.out, h40]; unfold spcB; rw [if_pos (.inr ⟨rfl, hm⟩)]; rfl)
            clear h40 hCt HTK hm h32
            go_wp2
            go_roundw
            case rel => exact ⟨j + 1, _, by omega, by rw [show ((j + 1 : Nat) : Int) = (j : Int) + 1 by omega], rfl, HN, by simp only [ByteArray.size_append]; have : ByteArray.size { data := #[32, 32] } = 2 := rfl; omega, HBL.out⟩
            case measure => simp [intOf]; omega
          · have hm2 : (((j % K : Nat) : Int)) ≠ 0 := by omega
            have qm : (Int.tmod (j : Int) (K : Int) == 0) = false := by rw [beq_eq_false_iff_ne, ← Int.ofNat_tmod]; exact hm2
            have qm2 : ((j : Int) % (K : Int) == 0) = false := by rw [beq_eq_false_iff_ne, ← Int.natCast_emod]; exact hm2
            have qc : (C.toList == [41]) = false := by rw [hCt, h40]; rfl
            have HN := Lib.hid (show (U ++ C).data.toList = spcL K 0 (T.data.toList.take (j + 1)) by
              rw [HTK.out, ← HU.out, ByteArray.data_append, Array.toList_append, HC.out, h40]; unfold spcB; rw [if_neg (by rintro (h | h); exact absurd h (by decide); exact hm h.2), if_neg (by decide)])
            clear h40 hCt HTK hm hm2 h32
            go_wp2
            go_roundw
            case rel => exact ⟨j + 1, _, by omega, by rw [show ((j + 1 : Nat) : Int) = (j : Int) + 1 by omega], rfl, HN, by simp only [ByteArray.size_append]; omega, HBL.out⟩
            case measure => simp [intOf]; omega
        · have qb : (C.toList == [40]) = false := by rw [hCt]; simpa using h40
          by_cases h41 : T[j] = 41
          · have qc : (C.toList == [41]) = true := by rw [hCt, h41]; rfl
            have HN := Lib.hid (show (U ++ { data := #[32, 41] }).data.toList = spcL K 0 (T.data.toList.take (j + 1)) by
              rw [HTK.out, ← HU.out, ByteArray.data_append, Array.toList_append, h41]; unfold spcB; rw [if_neg (by rintro (h | h); exact absurd h (by decide); exact absurd h.1 (by decide)), if_pos rfl])
            clear h40 h41 hCt HTK h32
            go_wp2
            go_roundw
            case rel => exact ⟨j + 1, _, by omega, by rw [show ((j + 1 : Nat) : Int) = (j : Int) + 1 by omega], rfl, HN, by simp only [ByteArray.size_append]; have : ByteArray.size { data := #[32, 41] } = 2 := rfl; omega, HBL.out⟩
            case measure => simp [intOf]; omega
          · have qc : (C.toList == [41]) = false := by rw [hCt]; simpa using h41
            have HN := Lib.hid (show (U ++ C).data.toList = spcL K 0 (T.data.toList.take (j + 1)) by
              rw [HTK.out, ← HU.out, ByteArray.data_append, Array.toList_append, HC.out]; unfold spcB; rw [if_neg (by rintro (h | h); exact h32 h; exact h40 h.1), if_neg h41])
            clear h40 h41 hCt HTK h32
            go_wp2
            go_roundw
            case rel => exact ⟨j + 1, _, by omega, by rw [show ((j + 1 : Nat) : Int) = (j : Int) + 1 by omega], rfl, HN, by simp only [ByteArray.size_append]; omega, HBL.out⟩
            case measure => simp [intOf]; omega
    · obtain rfl : j = T.size := by omega
      have hUT : U.data.toList = spcL K 0 T.data.toList := by rw [HU.out, List.take_of_length_le (by rw [size_data]; omega)]
      have hwr : Below w9.heap.size w9 wr := HBL.out
      have HBr := Lib.hid (bst HB9.out hwr)
      have BYr := Lib.hid (BY9.out.below hwr BY9.out.lt)
      have HYr := Lib.hid (HY9.out.below hwr)
      have hnm : ∀ c ∈ y, c.nm.size ≤ 9223372036854775807 := fun c hc => by have := gen_nm2 HG.out c hc; omega
      have HP1 := Lib.hid (show Calls Tryz.prog 8 #[.agg #[.slice AY y.length cY, .int .i64 yk], .string T] wr (RetPar wr R0) by
        have h := pparse_any _ yk y T wr (HE.out.below HBr.out) HYr.out (by omega) hnm (by omega)
        rw [HT.out, HR0.out] at h; exact h)
      have HP2 := Lib.hid (fun (X : World) (hX : Below wr.heap.size wr X) => show Calls Tryz.prog 8 #[.agg #[.slice AY y.length cY, .int .i64 yk], .string U] X (RetPar X Q0) by
        have h := pparse_any _ yk y U X (HE.out.below (bst HBr.out hX)) (HYr.out.below hX) (by omega) hnm (by omega)
        rw [hUT, HT.out, HQ0.out] at h; exact h)
      clear hUT hwr HU HBL BY9 HY9 HB9
      have bb := BYr.out
      have s0 := bb.cell 0
      have s1 := bb.cell 1
      simp only [List.getElem?_toArray, List.getElem?_cons_zero, List.getElem?_cons_succ] at s0 s1
      clear bb
      go_wp2_with fail
      refine HP1.out.mono ?_
      rintro _ z1 ⟨n1, rfl, ho1, hz1⟩
      obtain ⟨A1, c1, rfl, _, _⟩ := ho1.form
      have HO1 := Lib.hid ho1
      have HZ1 := Lib.hid hz1
      have BYz := Lib.hid (BYr.out.below hz1 BYr.out.lt)
      clear ho1 hz1 s0 s1 HP1
      have bb := BYz.out
      have s0 := bb.cell 0
      have s1 := bb.cell 1
      simp only [List.getElem?_toArray, List.getElem?_cons_zero, List.getElem?_cons_succ] at s0 s1
      clear bb
      go_wp2_with fail
      refine (HP2.out z1 HZ1.out).mono ?_
      rintro _ z2 ⟨n2, rfl, ho2, hz2⟩
      obtain ⟨A2, c2, rfl, _, _⟩ := ho2.form
      have HO2 := Lib.hid ho2
      have HO1b := Lib.hid (HO1.out.sl.below hz2)
      have HZ2 := Lib.hid (bst HZ1.out hz2)
      clear ho2 hz2 s0 s1 HP2 HO1
      obtain ⟨r1, at1, e1⟩ := R0
      obtain ⟨r2, at2, e2⟩ := Q0
      have h2 : e2 = e1 ∨ e2 = 7 := HS2.out
      have h3 : e2 = 0 → r1 = r2 := HS3.out
      have h4 : e1 = 0 ∨ e1 = 7 := HS4.out
      have hAW := Lib.hid (awake22_any z2 (HE.out.below (bst HBr.out HZ2.out)).1)
      dsimp only at HO1b HO2 ⊢
      clear HS2 HS3 HS4 HR0 HQ0
      go_wp2_with fail
      refine hAW.out.mono ?_
      rintro _ z3 ⟨rfl, hz3⟩
      have HZ3 := Lib.hid (bst HZ2.out hz3)
      have HS1 := Lib.hid (HO1b.out.below hz3)
      have HS2 := Lib.hid (HO2.out.sl.below hz3)
      clear hz3 hAW HO1b HO2
      by_cases he2 : e2 = 0
      · subst he2
        have h3 := h3 rfl
        subst h3
        have he1 : e1 = 0 := by omega
        subst he1
        have HSM := Lib.hid (samend_eq _ _ r1 z3 HS1.out HS2.out)
        clear h2 h4
        go_wp2_with fail
        refine HSM.out.mono ?_
        rintro _ z4 ⟨rfl, hz4⟩
        have HZ4 := Lib.hid (bst HBr.out (bst HZ3.out hz4))
        clear hz4 HSM
        go_wp2
        go_ret
        exact ⟨rfl, HZ4.out⟩
      · have h7 : e2 = 7 := by omega
        subst h7
        have HZ4 := Lib.hid (bst HBr.out HZ3.out)
        rcases h4 with rfl | rfl
        · clear h2 h3 he2
          go_wp2
          go_ret
          exact ⟨rfl, HZ4.out⟩
        · clear h2 h3 he2
          go_wp2
          go_ret
          exact ⟨rfl, HZ4.out⟩
end Go.Proofs.YtjnamjkdjcndiaaGreatDoor
