/-
  The walk of PredtextFormats.
-/
import Derived.Test.YtjnamjkdjcndiaaDoorKPred
namespace Go.Proofs.YtjnamjkdjcndiaaDoor
open Go.RowKit Go.Sort
theorem gen_ty {l : List Col} (h : GenS l.length l) : ∀ c ∈ l, 1 ≤ c.ty ∧ c.ty ≤ 5 := by
  intro c hc
  obtain ⟨i, hi⟩ := List.mem_iff_getElem?.1 hc
  exact (h i c hi).ty
theorem gen_nm {l : List Col} (h : GenS l.length l) : ∀ c ∈ l, c.nm.size ≤ 1000 := by
  intro c hc
  obtain ⟨i, hi⟩ := List.mem_iff_getElem?.1 hc
  rw [(h i c hi).nm]
  show (1 : Nat) ≤ 1000
  decide
theorem pbd_to {cs ys : List Col} {p : List Nd} (h : PBd cs p) (hl : ys.length ≤ 4) (hn : ∀ c ∈ ys, c.nm.size ≤ 1000) : PBd ys p := ⟨by omega, h.pl, fun c hc => by have := hn c hc; omega, h.rv, h.rl⟩
theorem GenP.bd {ys : List Col} {l : List Nd} (h : GenP ys l) (hl : ys.length ≤ 4) (hn : ∀ c ∈ ys, c.nm.size ≤ 1000) : PBd ys l :=
  ⟨by omega, by have := h.len; omega, fun c hc => by have := hn c hc; omega, fun x hx => by obtain ⟨i, hi⟩ := List.mem_iff_getElem?.1 hx; exact (h.ok i x hi).rv, fun x hx => by obtain ⟨i, hi⟩ := List.mem_iff_getElem?.1 hx; exact (h.ok i x hi).rl⟩
set_option maxRecDepth 100000 in
set_option maxHeartbeats 8000000 in
theorem predtextFormats_walk (sv pv xv lv : Value) (key : Int) (cs : List Col) (p : List Nd) (xs ls : List Int) (w : World) (ht : Tab w) (hs : Sl w 4 sv cs.length (cols cs)) (hp : SlNd w pv p) (hd : PBd cs p)
    (hx : Sl w 1 xv xs.length (ints xs)) (hxl : xs.length ≤ 9223372036854775807) (hxr : ∀ x ∈ xs, -9223372036854775808 ≤ x ∧ x ≤ 9223372036854775807)
    (hl : Sl w 1 lv ls.length (ints ls)) (hll : ls.length ≤ 9223372036854775807) (hlr : ∀ x ∈ ls, -9223372036854775808 ≤ x ∧ x ≤ 9223372036854775807) :
    Calls Tryd.prog 3 #[.agg #[sv, .int .i64 key], pv, xv, lv] w fun e w' => e = .returned (.bool true) ∧ Below w.heap.size w w' := by
  obtain ⟨AS, cS, rfl, _, _⟩ := hs.form
  obtain ⟨AP, cP, rfl, _, _⟩ := hp.form
  obtain ⟨AX, cX, rfl, _, _⟩ := hx.form
  obtain ⟨AL, cL, rfl, _, _⟩ := hl.form
  obtain ⟨W, hW⟩ : ∃ W, W = w.alloc (.cells #[.slice AS cs.length cS, .int .i64 key] 24) := ⟨_, rfl⟩
  have hb0 : Below w.heap.size w W := by rw [hW]; exact below_new _ _
  have BSW := Lib.hid (show Blk W w.heap.size 24 #[.slice AS cs.length cS, .int .i64 key] by rw [hW]; exact Blk.new _ _ _)
  have HKS := Lib.hid (kschema_any _ xs W (hx.below hb0) hxl hxr)
  have HL := Lib.hid (⟨hl, hll, hlr⟩ : _ ∧ _ ∧ _)
  have HB0 := Lib.hid hb0
  have HT := Lib.hid ht
  have HS := Lib.hid hs
  have HP := Lib.hid hp
  have HD := Lib.hid hd
  clear hx hxl hxr hl hll hlr hb0 ht hs hp hd
  go_enter Tryd.func3, Tryd.ntmps3
  go_wp2_with fail
  rw [← hW]
  clear hW
  refine HKS.out.mono ?_
  rintro _ w1 ⟨yv, y, yk, rfl, hy1, hy4, hg, hk0, hk1, hys, hb1⟩
  obtain ⟨AY, cY, rfl, _, _⟩ := hys.form
  obtain ⟨W2, hW2⟩ : ∃ W, W = w1.alloc (.cells #[.slice AY y.length cY, .int .i64 yk] 24) := ⟨_, rfl⟩
  have ha2 : Below w1.heap.size w1 W2 := by rw [hW2]; exact below_new _ _
  have HB2 := Lib.hid (bst HB0.out (bst hb1 ha2))
  have BS2 := Lib.hid ((BSW.out.below hb1 BSW.out.lt).below ha2 (by have := BSW.out.lt; have := hb1.size; omega))
  have BY2 := Lib.hid (show Blk W2 w1.heap.size 24 #[.slice AY y.length cY, .int .i64 yk] by rw [hW2]; exact Blk.new _ _ _)
  have HYS := Lib.hid (hys.below ha2)
  have HG := Lib.hid hg
  have HKY := Lib.hid (⟨hk0, hk1⟩ : _ ∧ _)
  obtain ⟨N, hN⟩ : ∃ N, w1.heap.size = N := ⟨_, rfl⟩
  go_upto_region 2 with (fail)
  rw [← hW2]
  try simp only [hN]
  rw [hN] at BY2
  clear hW2 hN hb1 ha2 hys hg hk0 hk1 HKS
  refine wp_region_inv (by kernel_rfl) (by kernel_rfl) (fun L a w' => ∃ u8 u12 u13 u14 u15 u16 u17 u18 u19 u20 u21 u22 u23 u24 u25 u26 u27 u28 u29 : Value, a = ⟨#[.agg #[.slice AS cs.length cS, .int .i64 key], .slice AP p.length cP, .slice AX xs.length cX, .slice AL ls.length cL, .pointer (some ⟨w.heap.size, 0, none⟩), undef, undef, undef, u8, .pointer (some ⟨N, 0, none⟩), .slice AX xs.length cX, .agg #[.slice AY y.length cY, .int .i64 yk], u12, u13, u14, u15, u16, u17, u18, u19, u20, u21, u22, u23, u24, u25, u26, u27, u28, u29], []⟩ ∧
      Below W2.heap.size W2 w' ∧ Got (L 0) u12 (.bool true) ∧ Got (L 1) u13 (.bool true) ∧ Got (L 2) u14 (.agg #[.slice AS cs.length cS, .int .i64 key]) ∧ Got (L 3) u15 (.slice AP p.length cP) ∧ Got (L 4) u16 (.bool true) ∧ Got (L 5) u17 (.bool true) ∧ Got (L 6) u18 (.bool true) ∧ Got (L 7) u19 (.agg #[.slice AY y.length cY, .int .i64 yk]) ∧ Got (L 8) u20 (.agg #[.slice AY y.length cY, .int .i64 yk]) ∧ Got (L 9) u21 (.slice AL ls.length cL) ∧ (L 10 = true → ∃ pl, SlNd w' u22 pl ∧ GenP y pl) ∧ Got (L 11) u23 (.bool true) ∧ Got (L 12) u24 (.bool true) ∧ Got (L 13) u25 (.bool true) ∧ Got (L 14) u26 (.agg #[.slice AY y.length cY, .int .i64 yk]) ∧ Got (L 15) u27 (.slice AP p.length cP) ∧ Got (L 16) u28 (.bool true) ∧ Got (L 17) u29 (.bool true) ∧ Got (L 18) u8 (.bool true))
    ?_ ?_ ?_
  · exact ⟨_, _, _, _, _, _, _, _, _, _, _, _, _, _, _, _, _, _, _, rfl, (Below.refl _ _).drew, nofun, nofun, nofun, nofun, nofun, nofun, nofun, nofun, nofun, nofun, nofun, nofun, nofun, nofun, nofun, nofun, nofun, nofun, nofun⟩
  · refine ⟨?_, ?_, ?_, ?_, ?_, ?_, ?_, ?_, ?_, ?_, ?_, ?_, ?_, ?_, ?_, ?_, ?_, ?_, ?_, trivial⟩
    · intro L a w' hI hl hd K hK
      refine hI.elim fun u8 hI => hI.elim fun u12 hI => hI.elim fun u13 hI => hI.elim fun u14 hI => hI.elim fun u15 hI => hI.elim fun u16 hI => hI.elim fun u17 hI => hI.elim fun u18 hI => hI.elim fun u19 hI => hI.elim fun u20 hI => hI.elim fun u21 hI => hI.elim fun u22 hI => hI.elim fun u23 hI => hI.elim fun u24 hI => hI.elim fun u25 hI => hI.elim fun u26 hI => hI.elim fun u27 hI => hI.elim fun u28 hI => hI.elim fun u29 hI => ?_
      have ha := hI.1
      subst ha
      have hb := hI.2.1
      have g0 := hI.2.2.1
      have g1 := hI.2.2.2.1
      have g2 := hI.2.2.2.2.1
      have g3 := hI.2.2.2.2.2.1
      have g4 := hI.2.2.2.2.2.2.1
      have g5 := hI.2.2.2.2.2.2.2.1
      have g6 := hI.2.2.2.2.2.2.2.2.1
      have g7 := hI.2.2.2.2.2.2.2.2.2.1
      have g8 := hI.2.2.2.2.2.2.2.2.2.2.1
      have g9 := hI.2.2.2.2.2.2.2.2.2.2.2.1
      have g10 := hI.2.2.2.2.2.2.2.2.2.2.2.2.1
      have g11 := hI.2.2.2.2.2.2.2.2.2.2.2.2.2.1
      have g12 := hI.2.2.2.2.2.2.2.2.2.2.2.2.2.2.1
      have g13 := hI.2.2.2.2.2.2.2.2.2.2.2.2.2.2.2.1
      have g14 := hI.2.2.2.2.2.2.2.2.2.2.2.2.2.2.2.2.1
      have g15 := hI.2.2.2.2.2.2.2.2.2.2.2.2.2.2.2.2.2.1
      have g16 := hI.2.2.2.2.2.2.2.2.2.2.2.2.2.2.2.2.2.2.1
      have g17 := hI.2.2.2.2.2.2.2.2.2.2.2.2.2.2.2.2.2.2.2.1
      have g18 := hI.2.2.2.2.2.2.2.2.2.2.2.2.2.2.2.2.2.2.2.2
      clear hI
      dsimp only at hK ⊢
      go_wp2_with fail
      with_reducible refine (awake22_any w' (HT.out.below (bst HB2.out hb))).mono ?_
      rintro _ w4 ⟨rfl, hb4⟩
      exact hK _ _ ⟨_, _, _, _, _, _, _, _, _, _, _, _, _, _, _, _, _, _, _, rfl, bst hb hb4, fun _ => rfl, g1, g2, g3, g4, g5, g6, g7, g8, g9, fun h => (g10 h).elim fun pl h => ⟨pl, h.1.below hb4, h.2⟩, g11, g12, g13, g14, g15, g16, g17, g18⟩
    · intro L a w' hI hl hd K hK
      refine hI.elim fun u8 hI => hI.elim fun u12 hI => hI.elim fun u13 hI => hI.elim fun u14 hI => hI.elim fun u15 hI => hI.elim fun u16 hI => hI.elim fun u17 hI => hI.elim fun u18 hI => hI.elim fun u19 hI => hI.elim fun u20 hI => hI.elim fun u21 hI => hI.elim fun u22 hI => hI.elim fun u23 hI => hI.elim fun u24 hI => hI.elim fun u25 hI => hI.elim fun u26 hI => hI.elim fun u27 hI => hI.elim fun u28 hI => hI.elim fun u29 hI => ?_
      have ha := hI.1
      subst ha
      have hb := hI.2.1
      have g0 := hI.2.2.1
      have g1 := hI.2.2.2.1
      have g2 := hI.2.2.2.2.1
      have g3 := hI.2.2.2.2.2.1
      have g4 := hI.2.2.2.2.2.2.1
      have g5 := hI.2.2.2.2.2.2.2.1
      have g6 := hI.2.2.2.2.2.2.2.2.1
      have g7 := hI.2.2.2.2.2.2.2.2.2.1
      have g8 := hI.2.2.2.2.2.2.2.2.2.2.1
      have g9 := hI.2.2.2.2.2.2.2.2.2.2.2.1
      have g10 := hI.2.2.2.2.2.2.2.2.2.2.2.2.1
      have g11 := hI.2.2.2.2.2.2.2.2.2.2.2.2.2.1
      have g12 := hI.2.2.2.2.2.2.2.2.2.2.2.2.2.2.1
      have g13 := hI.2.2.2.2.2.2.2.2.2.2.2.2.2.2.2.1
      have g14 := hI.2.2.2.2.2.2.2.2.2.2.2.2.2.2.2.2.1
      have g15 := hI.2.2.2.2.2.2.2.2.2.2.2.2.2.2.2.2.2.1
      have g16 := hI.2.2.2.2.2.2.2.2.2.2.2.2.2.2.2.2.2.2.1
      have g17 := hI.2.2.2.2.2.2.2.2.2.2.2.2.2.2.2.2.2.2.2.1
      have g18 := hI.2.2.2.2.2.2.2.2.2.2.2.2.2.2.2.2.2.2.2.2
      clear hI
      simp [Region.binds] at hd
      dsimp only at hK ⊢
      have e0 := g0 (by simp [hd])
      subst e0
      go_simp
      exact hK _ _ ⟨_, _, _, _, _, _, _, _, _, _, _, _, _, _, _, _, _, _, _, rfl, hb, g0, fun _ => rfl, g2, g3, g4, g5, g6, g7, g8, g9, g10, g11, g12, g13, g14, g15, g16, g17, g18⟩
    · intro L a w' hI hl hd K hK
      refine hI.elim fun u8 hI => hI.elim fun u12 hI => hI.elim fun u13 hI => hI.elim fun u14 hI => hI.elim fun u15 hI => hI.elim fun u16 hI => hI.elim fun u17 hI => hI.elim fun u18 hI => hI.elim fun u19 hI => hI.elim fun u20 hI => hI.elim fun u21 hI => hI.elim fun u22 hI => hI.elim fun u23 hI => hI.elim fun u24 hI => hI.elim fun u25 hI => hI.elim fun u26 hI => hI.elim fun u27 hI => hI.elim fun u28 hI => hI.elim fun u29 hI => ?_
      have ha := hI.1
      subst ha
      have hb := hI.2.1
      have g0 := hI.2.2.1
      have g1 := hI.2.2.2.1
      have g2 := hI.2.2.2.2.1
      have g3 := hI.2.2.2.2.2.1
      have g4 := hI.2.2.2.2.2.2.1
      have g5 := hI.2.2.2.2.2.2.2.1
      have g6 := hI.2.2.2.2.2.2.2.2.1
      have g7 := hI.2.2.2.2.2.2.2.2.2.1
      have g8 := hI.2.2.2.2.2.2.2.2.2.2.1
      have g9 := hI.2.2.2.2.2.2.2.2.2.2.2.1
      have g10 := hI.2.2.2.2.2.2.2.2.2.2.2.2.1
      have g11 := hI.2.2.2.2.2.2.2.2.2.2.2.2.2.1
      have g12 := hI.2.2.2.2.2.2.2.2.2.2.2.2.2.2.1
      have g13 := hI.2.2.2.2.2.2.2.2.2.2.2.2.2.2.2.1
      have g14 := hI.2.2.2.2.2.2.2.2.2.2.2.2.2.2.2.2.1
      have g15 := hI.2.2.2.2.2.2.2.2.2.2.2.2.2.2.2.2.2.1
      have g16 := hI.2.2.2.2.2.2.2.2.2.2.2.2.2.2.2.2.2.2.1
      have g17 := hI.2.2.2.2.2.2.2.2.2.2.2.2.2.2.2.2.2.2.2.1
      have g18 := hI.2.2.2.2.2.2.2.2.2.2.2.2.2.2.2.2.2.2.2.2
      clear hI
      simp [Region.binds] at hd
      dsimp only at hK ⊢
      have e1 := g1 (by simp [hd])
      subst e1
      have bb := BS2.out.below hb BS2.out.lt
      have s0 := bb.cell 0
      have s1 := bb.cell 1
      simp only [List.getElem?_toArray, List.getElem?_cons_zero, List.getElem?_cons_succ] at s0 s1
      go_simp
      exact hK _ _ ⟨_, _, _, _, _, _, _, _, _, _, _, _, _, _, _, _, _, _, _, rfl, hb, g0, g1, fun _ => rfl, g3, g4, g5, g6, g7, g8, g9, g10, g11, g12, g13, g14, g15, g16, g17, g18⟩
    · intro L a w' hI hl hd K hK
      refine hI.elim fun u8 hI => hI.elim fun u12 hI => hI.elim fun u13 hI => hI.elim fun u14 hI => hI.elim fun u15 hI => hI.elim fun u16 hI => hI.elim fun u17 hI => hI.elim fun u18 hI => hI.elim fun u19 hI => hI.elim fun u20 hI => hI.elim fun u21 hI => hI.elim fun u22 hI => hI.elim fun u23 hI => hI.elim fun u24 hI => hI.elim fun u25 hI => hI.elim fun u26 hI => hI.elim fun u27 hI => hI.elim fun u28 hI => hI.elim fun u29 hI => ?_
      have ha := hI.1
      subst ha
      have hb := hI.2.1
      have g0 := hI.2.2.1
      have g1 := hI.2.2.2.1
      have g2 := hI.2.2.2.2.1
      have g3 := hI.2.2.2.2.2.1
      have g4 := hI.2.2.2.2.2.2.1
      have g5 := hI.2.2.2.2.2.2.2.1
      have g6 := hI.2.2.2.2.2.2.2.2.1
      have g7 := hI.2.2.2.2.2.2.2.2.2.1
      have g8 := hI.2.2.2.2.2.2.2.2.2.2.1
      have g9 := hI.2.2.2.2.2.2.2.2.2.2.2.1
      have g10 := hI.2.2.2.2.2.2.2.2.2.2.2.2.1
      have g11 := hI.2.2.2.2.2.2.2.2.2.2.2.2.2.1
      have g12 := hI.2.2.2.2.2.2.2.2.2.2.2.2.2.2.1
      have g13 := hI.2.2.2.2.2.2.2.2.2.2.2.2.2.2.2.1
      have g14 := hI.2.2.2.2.2.2.2.2.2.2.2.2.2.2.2.2.1
      have g15 := hI.2.2.2.2.2.2.2.2.2.2.2.2.2.2.2.2.2.1
      have g16 := hI.2.2.2.2.2.2.2.2.2.2.2.2.2.2.2.2.2.2.1
      have g17 := hI.2.2.2.2.2.2.2.2.2.2.2.2.2.2.2.2.2.2.2.1
      have g18 := hI.2.2.2.2.2.2.2.2.2.2.2.2.2.2.2.2.2.2.2.2
      clear hI
      simp [Region.binds] at hd
      dsimp only at hK ⊢
      have e1 := g1 (by simp [hd])
      subst e1
      go_simp
      exact hK _ _ ⟨_, _, _, _, _, _, _, _, _, _, _, _, _, _, _, _, _, _, _, rfl, hb, g0, g1, g2, fun _ => rfl, g4, g5, g6, g7, g8, g9, g10, g11, g12, g13, g14, g15, g16, g17, g18⟩
    · intro L a w' hI hl hd K hK
      refine hI.elim fun u8 hI => hI.elim fun u12 hI => hI.elim fun u13 hI => hI.elim fun u14 hI => hI.elim fun u15 hI => hI.elim fun u16 hI => hI.elim fun u17 hI => hI.elim fun u18 hI => hI.elim fun u19 hI => hI.elim fun u20 hI => hI.elim fun u21 hI => hI.elim fun u22 hI => hI.elim fun u23 hI => hI.elim fun u24 hI => hI.elim fun u25 hI => hI.elim fun u26 hI => hI.elim fun u27 hI => hI.elim fun u28 hI => hI.elim fun u29 hI => ?_
      have ha := hI.1
      subst ha
      have hb := hI.2.1
      have g0 := hI.2.2.1
      have g1 := hI.2.2.2.1
      have g2 := hI.2.2.2.2.1
      have g3 := hI.2.2.2.2.2.1
      have g4 := hI.2.2.2.2.2.2.1
      have g5 := hI.2.2.2.2.2.2.2.1
      have g6 := hI.2.2.2.2.2.2.2.2.1
      have g7 := hI.2.2.2.2.2.2.2.2.2.1
      have g8 := hI.2.2.2.2.2.2.2.2.2.2.1
      have g9 := hI.2.2.2.2.2.2.2.2.2.2.2.1
      have g10 := hI.2.2.2.2.2.2.2.2.2.2.2.2.1
      have g11 := hI.2.2.2.2.2.2.2.2.2.2.2.2.2.1
      have g12 := hI.2.2.2.2.2.2.2.2.2.2.2.2.2.2.1
      have g13 := hI.2.2.2.2.2.2.2.2.2.2.2.2.2.2.2.1
      have g14 := hI.2.2.2.2.2.2.2.2.2.2.2.2.2.2.2.2.1
      have g15 := hI.2.2.2.2.2.2.2.2.2.2.2.2.2.2.2.2.2.1
      have g16 := hI.2.2.2.2.2.2.2.2.2.2.2.2.2.2.2.2.2.2.1
      have g17 := hI.2.2.2.2.2.2.2.2.2.2.2.2.2.2.2.2.2.2.2.1
      have g18 := hI.2.2.2.2.2.2.2.2.2.2.2.2.2.2.2.2.2.2.2.2
      clear hI
      simp [Region.binds] at hd
      dsimp only at hK ⊢
      have e1 := g1 (by simp [hd])
      subst e1
      have e2 := g2 (by simp [hd])
      subst e2
      have e3 := g3 (by simp [hd])
      subst e3
      go_wp2_with fail
      with_reducible refine (formats22_any _ _ key cs p w' ⟨HT.out.below (bst HB2.out hb), HS.out.below (bst HB2.out hb), HP.out.below (bst HB2.out hb)⟩ HD.out).mono ?_
      rintro _ w4 ⟨rfl, hb4⟩
      exact hK _ _ ⟨_, _, _, _, _, _, _, _, _, _, _, _, _, _, _, _, _, _, _, rfl, bst hb hb4, g0, g1, g2, g3, fun _ => rfl, g5, g6, g7, g8, g9, fun h => (g10 h).elim fun pl h => ⟨pl, h.1.below hb4, h.2⟩, g11, g12, g13, g14, g15, g16, g17, g18⟩
    · intro L a w' hI hl hd K hK
      refine hI.elim fun u8 hI => hI.elim fun u12 hI => hI.elim fun u13 hI => hI.elim fun u14 hI => hI.elim fun u15 hI => hI.elim fun u16 hI => hI.elim fun u17 hI => hI.elim fun u18 hI => hI.elim fun u19 hI => hI.elim fun u20 hI => hI.elim fun u21 hI => hI.elim fun u22 hI => hI.elim fun u23 hI => hI.elim fun u24 hI => hI.elim fun u25 hI => hI.elim fun u26 hI => hI.elim fun u27 hI => hI.elim fun u28 hI => hI.elim fun u29 hI => ?_
      have ha := hI.1
      subst ha
      have hb := hI.2.1
      have g0 := hI.2.2.1
      have g1 := hI.2.2.2.1
      have g2 := hI.2.2.2.2.1
      have g3 := hI.2.2.2.2.2.1
      have g4 := hI.2.2.2.2.2.2.1
      have g5 := hI.2.2.2.2.2.2.2.1
      have g6 := hI.2.2.2.2.2.2.2.2.1
      have g7 := hI.2.2.2.2.2.2.2.2.2.1
      have g8 := hI.2.2.2.2.2.2.2.2.2.2.1
      have g9 := hI.2.2.2.2.2.2.2.2.2.2.2.1
      have g10 := hI.2.2.2.2.2.2.2.2.2.2.2.2.1
      have g11 := hI.2.2.2.2.2.2.2.2.2.2.2.2.2.1
      have g12 := hI.2.2.2.2.2.2.2.2.2.2.2.2.2.2.1
      have g13 := hI.2.2.2.2.2.2.2.2.2.2.2.2.2.2.2.1
      have g14 := hI.2.2.2.2.2.2.2.2.2.2.2.2.2.2.2.2.1
      have g15 := hI.2.2.2.2.2.2.2.2.2.2.2.2.2.2.2.2.2.1
      have g16 := hI.2.2.2.2.2.2.2.2.2.2.2.2.2.2.2.2.2.2.1
      have g17 := hI.2.2.2.2.2.2.2.2.2.2.2.2.2.2.2.2.2.2.2.1
      have g18 := hI.2.2.2.2.2.2.2.2.2.2.2.2.2.2.2.2.2.2.2.2
      clear hI
      simp [Region.binds] at hd
      dsimp only at hK ⊢
      have e1 := g1 (by simp [hd])
      subst e1
      have e4 := g4 (by simp [hd])
      subst e4
      go_simp
      exact hK _ _ ⟨_, _, _, _, _, _, _, _, _, _, _, _, _, _, _, _, _, _, _, rfl, hb, g0, g1, g2, g3, g4, fun _ => rfl, g6, g7, g8, g9, g10, g11, g12, g13, g14, g15, g16, g17, g18⟩
    · intro L a w' hI hl hd K hK
      refine hI.elim fun u8 hI => hI.elim fun u12 hI => hI.elim fun u13 hI => hI.elim fun u14 hI => hI.elim fun u15 hI => hI.elim fun u16 hI => hI.elim fun u17 hI => hI.elim fun u18 hI => hI.elim fun u19 hI => hI.elim fun u20 hI => hI.elim fun u21 hI => hI.elim fun u22 hI => hI.elim fun u23 hI => hI.elim fun u24 hI => hI.elim fun u25 hI => hI.elim fun u26 hI => hI.elim fun u27 hI => hI.elim fun u28 hI => hI.elim fun u29 hI => ?_
      have ha := hI.1
      subst ha
      have hb := hI.2.1
      have g0 := hI.2.2.1
      have g1 := hI.2.2.2.1
      have g2 := hI.2.2.2.2.1
      have g3 := hI.2.2.2.2.2.1
      have g4 := hI.2.2.2.2.2.2.1
      have g5 := hI.2.2.2.2.2.2.2.1
      have g6 := hI.2.2.2.2.2.2.2.2.1
      have g7 := hI.2.2.2.2.2.2.2.2.2.1
      have g8 := hI.2.2.2.2.2.2.2.2.2.2.1
      have g9 := hI.2.2.2.2.2.2.2.2.2.2.2.1
      have g10 := hI.2.2.2.2.2.2.2.2.2.2.2.2.1
      have g11 := hI.2.2.2.2.2.2.2.2.2.2.2.2.2.1
      have g12 := hI.2.2.2.2.2.2.2.2.2.2.2.2.2.2.1
      have g13 := hI.2.2.2.2.2.2.2.2.2.2.2.2.2.2.2.1
      have g14 := hI.2.2.2.2.2.2.2.2.2.2.2.2.2.2.2.2.1
      have g15 := hI.2.2.2.2.2.2.2.2.2.2.2.2.2.2.2.2.2.1
      have g16 := hI.2.2.2.2.2.2.2.2.2.2.2.2.2.2.2.2.2.2.1
      have g17 := hI.2.2.2.2.2.2.2.2.2.2.2.2.2.2.2.2.2.2.2.1
      have g18 := hI.2.2.2.2.2.2.2.2.2.2.2.2.2.2.2.2.2.2.2.2
      clear hI
      simp [Region.binds] at hd
      dsimp only at hK ⊢
      have e5 := g5 (by simp [hd])
      subst e5
      go_simp
      exact hK _ _ ⟨_, _, _, _, _, _, _, _, _, _, _, _, _, _, _, _, _, _, _, rfl, hb, g0, g1, g2, g3, g4, g5, fun _ => rfl, g7, g8, g9, g10, g11, g12, g13, g14, g15, g16, g17, g18⟩
    · intro L a w' hI hl hd K hK
      refine hI.elim fun u8 hI => hI.elim fun u12 hI => hI.elim fun u13 hI => hI.elim fun u14 hI => hI.elim fun u15 hI => hI.elim fun u16 hI => hI.elim fun u17 hI => hI.elim fun u18 hI => hI.elim fun u19 hI => hI.elim fun u20 hI => hI.elim fun u21 hI => hI.elim fun u22 hI => hI.elim fun u23 hI => hI.elim fun u24 hI => hI.elim fun u25 hI => hI.elim fun u26 hI => hI.elim fun u27 hI => hI.elim fun u28 hI => hI.elim fun u29 hI => ?_
      have ha := hI.1
      subst ha
      have hb := hI.2.1
      have g0 := hI.2.2.1
      have g1 := hI.2.2.2.1
      have g2 := hI.2.2.2.2.1
      have g3 := hI.2.2.2.2.2.1
      have g4 := hI.2.2.2.2.2.2.1
      have g5 := hI.2.2.2.2.2.2.2.1
      have g6 := hI.2.2.2.2.2.2.2.2.1
      have g7 := hI.2.2.2.2.2.2.2.2.2.1
      have g8 := hI.2.2.2.2.2.2.2.2.2.2.1
      have g9 := hI.2.2.2.2.2.2.2.2.2.2.2.1
      have g10 := hI.2.2.2.2.2.2.2.2.2.2.2.2.1
      have g11 := hI.2.2.2.2.2.2.2.2.2.2.2.2.2.1
      have g12 := hI.2.2.2.2.2.2.2.2.2.2.2.2.2.2.1
      have g13 := hI.2.2.2.2.2.2.2.2.2.2.2.2.2.2.2.1
      have g14 := hI.2.2.2.2.2.2.2.2.2.2.2.2.2.2.2.2.1
      have g15 := hI.2.2.2.2.2.2.2.2.2.2.2.2.2.2.2.2.2.1
      have g16 := hI.2.2.2.2.2.2.2.2.2.2.2.2.2.2.2.2.2.2.1
      have g17 := hI.2.2.2.2.2.2.2.2.2.2.2.2.2.2.2.2.2.2.2.1
      have g18 := hI.2.2.2.2.2.2.2.2.2.2.2.2.2.2.2.2.2.2.2.2
      clear hI
      simp [Region.binds] at hd
      dsimp only at hK ⊢
      have e6 := g6 (by simp [hd])
      subst e6
      have bb := BY2.out.below hb BY2.out.lt
      have s0 := bb.cell 0
      have s1 := bb.cell 1
      simp only [List.getElem?_toArray, List.getElem?_cons_zero, List.getElem?_cons_succ] at s0 s1
      go_simp
      exact hK _ _ ⟨_, _, _, _, _, _, _, _, _, _, _, _, _, _, _, _, _, _, _, rfl, hb, g0, g1, g2, g3, g4, g5, g6, fun _ => rfl, g8, g9, g10, g11, g12, g13, g14, g15, g16, g17, g18⟩
    · intro L a w' hI hl hd K hK
      refine hI.elim fun u8 hI => hI.elim fun u12 hI => hI.elim fun u13 hI => hI.elim fun u14 hI => hI.elim fun u15 hI => hI.elim fun u16 hI => hI.elim fun u17 hI => hI.elim fun u18 hI => hI.elim fun u19 hI => hI.elim fun u20 hI => hI.elim fun u21 hI => hI.elim fun u22 hI => hI.elim fun u23 hI => hI.elim fun u24 hI => hI.elim fun u25 hI => hI.elim fun u26 hI => hI.elim fun u27 hI => hI.elim fun u28 hI => hI.elim fun u29 hI => ?_
      have ha := hI.1
      subst ha
      have hb := hI.2.1
      have g0 := hI.2.2.1
      have g1 := hI.2.2.2.1
      have g2 := hI.2.2.2.2.1
      have g3 := hI.2.2.2.2.2.1
      have g4 := hI.2.2.2.2.2.2.1
      have g5 := hI.2.2.2.2.2.2.2.1
      have g6 := hI.2.2.2.2.2.2.2.2.1
      have g7 := hI.2.2.2.2.2.2.2.2.2.1
      have g8 := hI.2.2.2.2.2.2.2.2.2.2.1
      have g9 := hI.2.2.2.2.2.2.2.2.2.2.2.1
      have g10 := hI.2.2.2.2.2.2.2.2.2.2.2.2.1
      have g11 := hI.2.2.2.2.2.2.2.2.2.2.2.2.2.1
      have g12 := hI.2.2.2.2.2.2.2.2.2.2.2.2.2.2.1
      have g13 := hI.2.2.2.2.2.2.2.2.2.2.2.2.2.2.2.1
      have g14 := hI.2.2.2.2.2.2.2.2.2.2.2.2.2.2.2.2.1
      have g15 := hI.2.2.2.2.2.2.2.2.2.2.2.2.2.2.2.2.2.1
      have g16 := hI.2.2.2.2.2.2.2.2.2.2.2.2.2.2.2.2.2.2.1
      have g17 := hI.2.2.2.2.2.2.2.2.2.2.2.2.2.2.2.2.2.2.2.1
      have g18 := hI.2.2.2.2.2.2.2.2.2.2.2.2.2.2.2.2.2.2.2.2
      clear hI
      simp [Region.binds] at hd
      dsimp only at hK ⊢
      have e6 := g6 (by simp [hd])
      subst e6
      have bb := BY2.out.below hb BY2.out.lt
      have s0 := bb.cell 0
      have s1 := bb.cell 1
      simp only [List.getElem?_toArray, List.getElem?_cons_zero, List.getElem?_cons_succ] at s0 s1
      go_simp
      exact hK _ _ ⟨_, _, _, _, _, _, _, _, _, _, _, _, _, _, _, _, _, _, _, rfl, hb, g0, g1, g2, g3, g4, g5, g6, g7, fun _ => rfl, g9, g10, g11, g12, g13, g14, g15, g16, g17, g18⟩
    · intro L a w' hI hl hd K hK
      refine hI.elim fun u8 hI => hI.elim fun u12 hI => hI.elim fun u13 hI => hI.elim fun u14 hI => hI.elim fun u15 hI => hI.elim fun u16 hI => hI.elim fun u17 hI => hI.elim fun u18 hI => hI.elim fun u19 hI => hI.elim fun u20 hI => hI.elim fun u21 hI => hI.elim fun u22 hI => hI.elim fun u23 hI => hI.elim fun u24 hI => hI.elim fun u25 hI => hI.elim fun u26 hI => hI.elim fun u27 hI => hI.elim fun u28 hI => hI.elim fun u29 hI => ?_
      have ha := hI.1
      subst ha
      have hb := hI.2.1
      have g0 := hI.2.2.1
      have g1 := hI.2.2.2.1
      have g2 := hI.2.2.2.2.1
      have g3 := hI.2.2.2.2.2.1
      have g4 := hI.2.2.2.2.2.2.1
      have g5 := hI.2.2.2.2.2.2.2.1
      have g6 := hI.2.2.2.2.2.2.2.2.1
      have g7 := hI.2.2.2.2.2.2.2.2.2.1
      have g8 := hI.2.2.2.2.2.2.2.2.2.2.1
      have g9 := hI.2.2.2.2.2.2.2.2.2.2.2.1
      have g10 := hI.2.2.2.2.2.2.2.2.2.2.2.2.1
      have g11 := hI.2.2.2.2.2.2.2.2.2.2.2.2.2.1
      have g12 := hI.2.2.2.2.2.2.2.2.2.2.2.2.2.2.1
      have g13 := hI.2.2.2.2.2.2.2.2.2.2.2.2.2.2.2.1
      have g14 := hI.2.2.2.2.2.2.2.2.2.2.2.2.2.2.2.2.1
      have g15 := hI.2.2.2.2.2.2.2.2.2.2.2.2.2.2.2.2.2.1
      have g16 := hI.2.2.2.2.2.2.2.2.2.2.2.2.2.2.2.2.2.2.1
      have g17 := hI.2.2.2.2.2.2.2.2.2.2.2.2.2.2.2.2.2.2.2.1
      have g18 := hI.2.2.2.2.2.2.2.2.2.2.2.2.2.2.2.2.2.2.2.2
      clear hI
      simp [Region.binds] at hd
      dsimp only at hK ⊢
      have e6 := g6 (by simp [hd])
      subst e6
      go_simp
      exact hK _ _ ⟨_, _, _, _, _, _, _, _, _, _, _, _, _, _, _, _, _, _, _, rfl, hb, g0, g1, g2, g3, g4, g5, g6, g7, g8, fun _ => rfl, g10, g11, g12, g13, g14, g15, g16, g17, g18⟩
    · intro L a w' hI hl hd K hK
      refine hI.elim fun u8 hI => hI.elim fun u12 hI => hI.elim fun u13 hI => hI.elim fun u14 hI => hI.elim fun u15 hI => hI.elim fun u16 hI => hI.elim fun u17 hI => hI.elim fun u18 hI => hI.elim fun u19 hI => hI.elim fun u20 hI => hI.elim fun u21 hI => hI.elim fun u22 hI => hI.elim fun u23 hI => hI.elim fun u24 hI => hI.elim fun u25 hI => hI.elim fun u26 hI => hI.elim fun u27 hI => hI.elim fun u28 hI => hI.elim fun u29 hI => ?_
      have ha := hI.1
      subst ha
      have hb := hI.2.1
      have g0 := hI.2.2.1
      have g1 := hI.2.2.2.1
      have g2 := hI.2.2.2.2.1
      have g3 := hI.2.2.2.2.2.1
      have g4 := hI.2.2.2.2.2.2.1
      have g5 := hI.2.2.2.2.2.2.2.1
      have g6 := hI.2.2.2.2.2.2.2.2.1
      have g7 := hI.2.2.2.2.2.2.2.2.2.1
      have g8 := hI.2.2.2.2.2.2.2.2.2.2.1
      have g9 := hI.2.2.2.2.2.2.2.2.2.2.2.1
      have g10 := hI.2.2.2.2.2.2.2.2.2.2.2.2.1
      have g11 := hI.2.2.2.2.2.2.2.2.2.2.2.2.2.1
      have g12 := hI.2.2.2.2.2.2.2.2.2.2.2.2.2.2.1
      have g13 := hI.2.2.2.2.2.2.2.2.2.2.2.2.2.2.2.1
      have g14 := hI.2.2.2.2.2.2.2.2.2.2.2.2.2.2.2.2.1
      have g15 := hI.2.2.2.2.2.2.2.2.2.2.2.2.2.2.2.2.2.1
      have g16 := hI.2.2.2.2.2.2.2.2.2.2.2.2.2.2.2.2.2.2.1
      have g17 := hI.2.2.2.2.2.2.2.2.2.2.2.2.2.2.2.2.2.2.2.1
      have g18 := hI.2.2.2.2.2.2.2.2.2.2.2.2.2.2.2.2.2.2.2.2
      clear hI
      simp [Region.binds] at hd
      dsimp only at hK ⊢
      have e6 := g6 (by simp [hd])
      subst e6
      have e8 := g8 (by simp [hd])
      subst e8
      have e9 := g9 (by simp [hd])
      subst e9
      go_wp2_with fail
      with_reducible refine (kpred_any _ _ yk y ls w' (HYS.out.below hb) (by omega) (by omega) (gen_ty HG.out) (HL.out.1.below (bst HB2.out hb)) HL.out.2.1 HL.out.2.2).mono ?_
      rintro _ w4 ⟨pv4, pl4, rfl, hp4, hs4, hb4⟩
      exact hK _ _ ⟨_, _, _, _, _, _, _, _, _, _, _, _, _, _, _, _, _, _, _, rfl, bst hb hb4, g0, g1, g2, g3, g4, g5, g6, g7, g8, g9, fun _ => ⟨pl4, hs4, hp4⟩, g11, g12, g13, g14, g15, g16, g17, g18⟩
    · intro L a w' hI hl hd K hK
      refine hI.elim fun u8 hI => hI.elim fun u12 hI => hI.elim fun u13 hI => hI.elim fun u14 hI => hI.elim fun u15 hI => hI.elim fun u16 hI => hI.elim fun u17 hI => hI.elim fun u18 hI => hI.elim fun u19 hI => hI.elim fun u20 hI => hI.elim fun u21 hI => hI.elim fun u22 hI => hI.elim fun u23 hI => hI.elim fun u24 hI => hI.elim fun u25 hI => hI.elim fun u26 hI => hI.elim fun u27 hI => hI.elim fun u28 hI => hI.elim fun u29 hI => ?_
      have ha := hI.1
      subst ha
      have hb := hI.2.1
      have g0 := hI.2.2.1
      have g1 := hI.2.2.2.1
      have g2 := hI.2.2.2.2.1
      have g3 := hI.2.2.2.2.2.1
      have g4 := hI.2.2.2.2.2.2.1
      have g5 := hI.2.2.2.2.2.2.2.1
      have g6 := hI.2.2.2.2.2.2.2.2.1
      have g7 := hI.2.2.2.2.2.2.2.2.2.1
      have g8 := hI.2.2.2.2.2.2.2.2.2.2.1
      have g9 := hI.2.2.2.2.2.2.2.2.2.2.2.1
      have g10 := hI.2.2.2.2.2.2.2.2.2.2.2.2.1
      have g11 := hI.2.2.2.2.2.2.2.2.2.2.2.2.2.1
      have g12 := hI.2.2.2.2.2.2.2.2.2.2.2.2.2.2.1
      have g13 := hI.2.2.2.2.2.2.2.2.2.2.2.2.2.2.2.1
      have g14 := hI.2.2.2.2.2.2.2.2.2.2.2.2.2.2.2.2.1
      have g15 := hI.2.2.2.2.2.2.2.2.2.2.2.2.2.2.2.2.2.1
      have g16 := hI.2.2.2.2.2.2.2.2.2.2.2.2.2.2.2.2.2.2.1
      have g17 := hI.2.2.2.2.2.2.2.2.2.2.2.2.2.2.2.2.2.2.2.1
      have g18 := hI.2.2.2.2.2.2.2.2.2.2.2.2.2.2.2.2.2.2.2.2
      clear hI
      simp [Region.binds] at hd
      dsimp only at hK ⊢
      have e6 := g6 (by simp [hd])
      subst e6
      have e7 := g7 (by simp [hd])
      subst e7
      obtain ⟨pl, hsp, hgp⟩ := g10 (by simp [hd])
      obtain ⟨A22, c22, e22, _, _⟩ := hsp.form
      subst e22
      go_wp2_with fail
      with_reducible refine (formats22_any _ _ yk y pl w' ⟨HT.out.below (bst HB2.out hb), HYS.out.below hb, hsp⟩ (hgp.bd hy4 (gen_nm HG.out))).mono ?_
      rintro _ w4 ⟨rfl, hb4⟩
      exact hK _ _ ⟨_, _, _, _, _, _, _, _, _, _, _, _, _, _, _, _, _, _, _, rfl, bst hb hb4, g0, g1, g2, g3, g4, g5, g6, g7, g8, g9, fun h => ⟨pl, hsp.below hb4, hgp⟩, fun _ => rfl, g12, g13, g14, g15, g16, g17, g18⟩
    · intro L a w' hI hl hd K hK
      refine hI.elim fun u8 hI => hI.elim fun u12 hI => hI.elim fun u13 hI => hI.elim fun u14 hI => hI.elim fun u15 hI => hI.elim fun u16 hI => hI.elim fun u17 hI => hI.elim fun u18 hI => hI.elim fun u19 hI => hI.elim fun u20 hI => hI.elim fun u21 hI => hI.elim fun u22 hI => hI.elim fun u23 hI => hI.elim fun u24 hI => hI.elim fun u25 hI => hI.elim fun u26 hI => hI.elim fun u27 hI => hI.elim fun u28 hI => hI.elim fun u29 hI => ?_
      have ha := hI.1
      subst ha
      have hb := hI.2.1
      have g0 := hI.2.2.1
      have g1 := hI.2.2.2.1
      have g2 := hI.2.2.2.2.1
      have g3 := hI.2.2.2.2.2.1
      have g4 := hI.2.2.2.2.2.2.1
      have g5 := hI.2.2.2.2.2.2.2.1
      have g6 := hI.2.2.2.2.2.2.2.2.1
      have g7 := hI.2.2.2.2.2.2.2.2.2.1
      have g8 := hI.2.2.2.2.2.2.2.2.2.2.1
      have g9 := hI.2.2.2.2.2.2.2.2.2.2.2.1
      have g10 := hI.2.2.2.2.2.2.2.2.2.2.2.2.1
      have g11 := hI.2.2.2.2.2.2.2.2.2.2.2.2.2.1
      have g12 := hI.2.2.2.2.2.2.2.2.2.2.2.2.2.2.1
      have g13 := hI.2.2.2.2.2.2.2.2.2.2.2.2.2.2.2.1
      have g14 := hI.2.2.2.2.2.2.2.2.2.2.2.2.2.2.2.2.1
      have g15 := hI.2.2.2.2.2.2.2.2.2.2.2.2.2.2.2.2.2.1
      have g16 := hI.2.2.2.2.2.2.2.2.2.2.2.2.2.2.2.2.2.2.1
      have g17 := hI.2.2.2.2.2.2.2.2.2.2.2.2.2.2.2.2.2.2.2.1
      have g18 := hI.2.2.2.2.2.2.2.2.2.2.2.2.2.2.2.2.2.2.2.2
      clear hI
      simp [Region.binds] at hd
      dsimp only at hK ⊢
      have e6 := g6 (by simp [hd])
      subst e6
      have e11 := g11 (by simp [hd])
      subst e11
      go_simp
      exact hK _ _ ⟨_, _, _, _, _, _, _, _, _, _, _, _, _, _, _, _, _, _, _, rfl, hb, g0, g1, g2, g3, g4, g5, g6, g7, g8, g9, g10, g11, fun _ => rfl, g13, g14, g15, g16, g17, g18⟩
    · intro L a w' hI hl hd K hK
      refine hI.elim fun u8 hI => hI.elim fun u12 hI => hI.elim fun u13 hI => hI.elim fun u14 hI => hI.elim fun u15 hI => hI.elim fun u16 hI => hI.elim fun u17 hI => hI.elim fun u18 hI => hI.elim fun u19 hI => hI.elim fun u20 hI => hI.elim fun u21 hI => hI.elim fun u22 hI => hI.elim fun u23 hI => hI.elim fun u24 hI => hI.elim fun u25 hI => hI.elim fun u26 hI => hI.elim fun u27 hI => hI.elim fun u28 hI => hI.elim fun u29 hI => ?_
      have ha := hI.1
      subst ha
      have hb := hI.2.1
      have g0 := hI.2.2.1
      have g1 := hI.2.2.2.1
      have g2 := hI.2.2.2.2.1
      have g3 := hI.2.2.2.2.2.1
      have g4 := hI.2.2.2.2.2.2.1
      have g5 := hI.2.2.2.2.2.2.2.1
      have g6 := hI.2.2.2.2.2.2.2.2.1
      have g7 := hI.2.2.2.2.2.2.2.2.2.1
      have g8 := hI.2.2.2.2.2.2.2.2.2.2.1
      have g9 := hI.2.2.2.2.2.2.2.2.2.2.2.1
      have g10 := hI.2.2.2.2.2.2.2.2.2.2.2.2.1
      have g11 := hI.2.2.2.2.2.2.2.2.2.2.2.2.2.1
      have g12 := hI.2.2.2.2.2.2.2.2.2.2.2.2.2.2.1
      have g13 := hI.2.2.2.2.2.2.2.2.2.2.2.2.2.2.2.1
      have g14 := hI.2.2.2.2.2.2.2.2.2.2.2.2.2.2.2.2.1
      have g15 := hI.2.2.2.2.2.2.2.2.2.2.2.2.2.2.2.2.2.1
      have g16 := hI.2.2.2.2.2.2.2.2.2.2.2.2.2.2.2.2.2.2.1
      have g17 := hI.2.2.2.2.2.2.2.2.2.2.2.2.2.2.2.2.2.2.2.1
      have g18 := hI.2.2.2.2.2.2.2.2.2.2.2.2.2.2.2.2.2.2.2.2
      clear hI
      simp [Region.binds] at hd
      dsimp only at hK ⊢
      have e12 := g12 (by simp [hd])
      subst e12
      go_simp
      exact hK _ _ ⟨_, _, _, _, _, _, _, _, _, _, _, _, _, _, _, _, _, _, _, rfl, hb, g0, g1, g2, g3, g4, g5, g6, g7, g8, g9, g10, g11, g12, fun _ => rfl, g14, g15, g16, g17, g18⟩
    · intro L a w' hI hl hd K hK
      refine hI.elim fun u8 hI => hI.elim fun u12 hI => hI.elim fun u13 hI => hI.elim fun u14 hI => hI.elim fun u15 hI => hI.elim fun u16 hI => hI.elim fun u17 hI => hI.elim fun u18 hI => hI.elim fun u19 hI => hI.elim fun u20 hI => hI.elim fun u21 hI => hI.elim fun u22 hI => hI.elim fun u23 hI => hI.elim fun u24 hI => hI.elim fun u25 hI => hI.elim fun u26 hI => hI.elim fun u27 hI => hI.elim fun u28 hI => hI.elim fun u29 hI => ?_
      have ha := hI.1
      subst ha
      have hb := hI.2.1
      have g0 := hI.2.2.1
      have g1 := hI.2.2.2.1
      have g2 := hI.2.2.2.2.1
      have g3 := hI.2.2.2.2.2.1
      have g4 := hI.2.2.2.2.2.2.1
      have g5 := hI.2.2.2.2.2.2.2.1
      have g6 := hI.2.2.2.2.2.2.2.2.1
      have g7 := hI.2.2.2.2.2.2.2.2.2.1
      have g8 := hI.2.2.2.2.2.2.2.2.2.2.1
      have g9 := hI.2.2.2.2.2.2.2.2.2.2.2.1
      have g10 := hI.2.2.2.2.2.2.2.2.2.2.2.2.1
      have g11 := hI.2.2.2.2.2.2.2.2.2.2.2.2.2.1
      have g12 := hI.2.2.2.2.2.2.2.2.2.2.2.2.2.2.1
      have g13 := hI.2.2.2.2.2.2.2.2.2.2.2.2.2.2.2.1
      have g14 := hI.2.2.2.2.2.2.2.2.2.2.2.2.2.2.2.2.1
      have g15 := hI.2.2.2.2.2.2.2.2.2.2.2.2.2.2.2.2.2.1
      have g16 := hI.2.2.2.2.2.2.2.2.2.2.2.2.2.2.2.2.2.2.1
      have g17 := hI.2.2.2.2.2.2.2.2.2.2.2.2.2.2.2.2.2.2.2.1
      have g18 := hI.2.2.2.2.2.2.2.2.2.2.2.2.2.2.2.2.2.2.2.2
      clear hI
      simp [Region.binds] at hd
      dsimp only at hK ⊢
      have e13 := g13 (by simp [hd])
      subst e13
      have bb := BY2.out.below hb BY2.out.lt
      have s0 := bb.cell 0
      have s1 := bb.cell 1
      simp only [List.getElem?_toArray, List.getElem?_cons_zero, List.getElem?_cons_succ] at s0 s1
      go_simp
      exact hK _ _ ⟨_, _, _, _, _, _, _, _, _, _, _, _, _, _, _, _, _, _, _, rfl, hb, g0, g1, g2, g3, g4, g5, g6, g7, g8, g9, g10, g11, g12, g13, fun _ => rfl, g15, g16, g17, g18⟩
    · intro L a w' hI hl hd K hK
      refine hI.elim fun u8 hI => hI.elim fun u12 hI => hI.elim fun u13 hI => hI.elim fun u14 hI => hI.elim fun u15 hI => hI.elim fun u16 hI => hI.elim fun u17 hI => hI.elim fun u18 hI => hI.elim fun u19 hI => hI.elim fun u20 hI => hI.elim fun u21 hI => hI.elim fun u22 hI => hI.elim fun u23 hI => hI.elim fun u24 hI => hI.elim fun u25 hI => hI.elim fun u26 hI => hI.elim fun u27 hI => hI.elim fun u28 hI => hI.elim fun u29 hI => ?_
      have ha := hI.1
      subst ha
      have hb := hI.2.1
      have g0 := hI.2.2.1
      have g1 := hI.2.2.2.1
      have g2 := hI.2.2.2.2.1
      have g3 := hI.2.2.2.2.2.1
      have g4 := hI.2.2.2.2.2.2.1
      have g5 := hI.2.2.2.2.2.2.2.1
      have g6 := hI.2.2.2.2.2.2.2.2.1
      have g7 := hI.2.2.2.2.2.2.2.2.2.1
      have g8 := hI.2.2.2.2.2.2.2.2.2.2.1
      have g9 := hI.2.2.2.2.2.2.2.2.2.2.2.1
      have g10 := hI.2.2.2.2.2.2.2.2.2.2.2.2.1
      have g11 := hI.2.2.2.2.2.2.2.2.2.2.2.2.2.1
      have g12 := hI.2.2.2.2.2.2.2.2.2.2.2.2.2.2.1
      have g13 := hI.2.2.2.2.2.2.2.2.2.2.2.2.2.2.2.1
      have g14 := hI.2.2.2.2.2.2.2.2.2.2.2.2.2.2.2.2.1
      have g15 := hI.2.2.2.2.2.2.2.2.2.2.2.2.2.2.2.2.2.1
      have g16 := hI.2.2.2.2.2.2.2.2.2.2.2.2.2.2.2.2.2.2.1
      have g17 := hI.2.2.2.2.2.2.2.2.2.2.2.2.2.2.2.2.2.2.2.1
      have g18 := hI.2.2.2.2.2.2.2.2.2.2.2.2.2.2.2.2.2.2.2.2
      clear hI
      simp [Region.binds] at hd
      dsimp only at hK ⊢
      have e13 := g13 (by simp [hd])
      subst e13
      go_simp
      exact hK _ _ ⟨_, _, _, _, _, _, _, _, _, _, _, _, _, _, _, _, _, _, _, rfl, hb, g0, g1, g2, g3, g4, g5, g6, g7, g8, g9, g10, g11, g12, g13, g14, fun _ => rfl, g16, g17, g18⟩
    · intro L a w' hI hl hd K hK
      refine hI.elim fun u8 hI => hI.elim fun u12 hI => hI.elim fun u13 hI => hI.elim fun u14 hI => hI.elim fun u15 hI => hI.elim fun u16 hI => hI.elim fun u17 hI => hI.elim fun u18 hI => hI.elim fun u19 hI => hI.elim fun u20 hI => hI.elim fun u21 hI => hI.elim fun u22 hI => hI.elim fun u23 hI => hI.elim fun u24 hI => hI.elim fun u25 hI => hI.elim fun u26 hI => hI.elim fun u27 hI => hI.elim fun u28 hI => hI.elim fun u29 hI => ?_
      have ha := hI.1
      subst ha
      have hb := hI.2.1
      have g0 := hI.2.2.1
      have g1 := hI.2.2.2.1
      have g2 := hI.2.2.2.2.1
      have g3 := hI.2.2.2.2.2.1
      have g4 := hI.2.2.2.2.2.2.1
      have g5 := hI.2.2.2.2.2.2.2.1
      have g6 := hI.2.2.2.2.2.2.2.2.1
      have g7 := hI.2.2.2.2.2.2.2.2.2.1
      have g8 := hI.2.2.2.2.2.2.2.2.2.2.1
      have g9 := hI.2.2.2.2.2.2.2.2.2.2.2.1
      have g10 := hI.2.2.2.2.2.2.2.2.2.2.2.2.1
      have g11 := hI.2.2.2.2.2.2.2.2.2.2.2.2.2.1
      have g12 := hI.2.2.2.2.2.2.2.2.2.2.2.2.2.2.1
      have g13 := hI.2.2.2.2.2.2.2.2.2.2.2.2.2.2.2.1
      have g14 := hI.2.2.2.2.2.2.2.2.2.2.2.2.2.2.2.2.1
      have g15 := hI.2.2.2.2.2.2.2.2.2.2.2.2.2.2.2.2.2.1
      have g16 := hI.2.2.2.2.2.2.2.2.2.2.2.2.2.2.2.2.2.2.1
      have g17 := hI.2.2.2.2.2.2.2.2.2.2.2.2.2.2.2.2.2.2.2.1
      have g18 := hI.2.2.2.2.2.2.2.2.2.2.2.2.2.2.2.2.2.2.2.2
      clear hI
      simp [Region.binds] at hd
      dsimp only at hK ⊢
      have e13 := g13 (by simp [hd])
      subst e13
      have e14 := g14 (by simp [hd])
      subst e14
      have e15 := g15 (by simp [hd])
      subst e15
      go_wp2_with fail
      with_reducible refine (formats22_any _ _ yk y p w' ⟨HT.out.below (bst HB2.out hb), HYS.out.below hb, HP.out.below (bst HB2.out hb)⟩ (pbd_to HD.out hy4 (gen_nm HG.out))).mono ?_
      rintro _ w4 ⟨rfl, hb4⟩
      exact hK _ _ ⟨_, _, _, _, _, _, _, _, _, _, _, _, _, _, _, _, _, _, _, rfl, bst hb hb4, g0, g1, g2, g3, g4, g5, g6, g7, g8, g9, fun h => (g10 h).elim fun pl h => ⟨pl, h.1.below hb4, h.2⟩, g11, g12, g13, g14, g15, fun _ => rfl, g17, g18⟩
    · intro L a w' hI hl hd K hK
      refine hI.elim fun u8 hI => hI.elim fun u12 hI => hI.elim fun u13 hI => hI.elim fun u14 hI => hI.elim fun u15 hI => hI.elim fun u16 hI => hI.elim fun u17 hI => hI.elim fun u18 hI => hI.elim fun u19 hI => hI.elim fun u20 hI => hI.elim fun u21 hI => hI.elim fun u22 hI => hI.elim fun u23 hI => hI.elim fun u24 hI => hI.elim fun u25 hI => hI.elim fun u26 hI => hI.elim fun u27 hI => hI.elim fun u28 hI => hI.elim fun u29 hI => ?_
      have ha := hI.1
      subst ha
      have hb := hI.2.1
      have g0 := hI.2.2.1
      have g1 := hI.2.2.2.1
      have g2 := hI.2.2.2.2.1
      have g3 := hI.2.2.2.2.2.1
      have g4 := hI.2.2.2.2.2.2.1
      have g5 := hI.2.2.2.2.2.2.2.1
      have g6 := hI.2.2.2.2.2.2.2.2.1
      have g7 := hI.2.2.2.2.2.2.2.2.2.1
      have g8 := hI.2.2.2.2.2.2.2.2.2.2.1
      have g9 := hI.2.2.2.2.2.2.2.2.2.2.2.1
      have g10 := hI.2.2.2.2.2.2.2.2.2.2.2.2.1
      have g11 := hI.2.2.2.2.2.2.2.2.2.2.2.2.2.1
      have g12 := hI.2.2.2.2.2.2.2.2.2.2.2.2.2.2.1
      have g13 := hI.2.2.2.2.2.2.2.2.2.2.2.2.2.2.2.1
      have g14 := hI.2.2.2.2.2.2.2.2.2.2.2.2.2.2.2.2.1
      have g15 := hI.2.2.2.2.2.2.2.2.2.2.2.2.2.2.2.2.2.1
      have g16 := hI.2.2.2.2.2.2.2.2.2.2.2.2.2.2.2.2.2.2.1
      have g17 := hI.2.2.2.2.2.2.2.2.2.2.2.2.2.2.2.2.2.2.2.1
      have g18 := hI.2.2.2.2.2.2.2.2.2.2.2.2.2.2.2.2.2.2.2.2
      clear hI
      simp [Region.binds] at hd
      dsimp only at hK ⊢
      have e13 := g13 (by simp [hd])
      subst e13
      have e16 := g16 (by simp [hd])
      subst e16
      go_simp
      exact hK _ _ ⟨_, _, _, _, _, _, _, _, _, _, _, _, _, _, _, _, _, _, _, rfl, hb, g0, g1, g2, g3, g4, g5, g6, g7, g8, g9, g10, g11, g12, g13, g14, g15, g16, fun _ => rfl, g18⟩
    · intro L a w' hI hl hd K hK
      refine hI.elim fun u8 hI => hI.elim fun u12 hI => hI.elim fun u13 hI => hI.elim fun u14 hI => hI.elim fun u15 hI => hI.elim fun u16 hI => hI.elim fun u17 hI => hI.elim fun u18 hI => hI.elim fun u19 hI => hI.elim fun u20 hI => hI.elim fun u21 hI => hI.elim fun u22 hI => hI.elim fun u23 hI => hI.elim fun u24 hI => hI.elim fun u25 hI => hI.elim fun u26 hI => hI.elim fun u27 hI => hI.elim fun u28 hI => hI.elim fun u29 hI => ?_
      have ha := hI.1
      subst ha
      have hb := hI.2.1
      have g0 := hI.2.2.1
      have g1 := hI.2.2.2.1
      have g2 := hI.2.2.2.2.1
      have g3 := hI.2.2.2.2.2.1
      have g4 := hI.2.2.2.2.2.2.1
      have g5 := hI.2.2.2.2.2.2.2.1
      have g6 := hI.2.2.2.2.2.2.2.2.1
      have g7 := hI.2.2.2.2.2.2.2.2.2.1
      have g8 := hI.2.2.2.2.2.2.2.2.2.2.1
      have g9 := hI.2.2.2.2.2.2.2.2.2.2.2.1
      have g10 := hI.2.2.2.2.2.2.2.2.2.2.2.2.1
      have g11 := hI.2.2.2.2.2.2.2.2.2.2.2.2.2.1
      have g12 := hI.2.2.2.2.2.2.2.2.2.2.2.2.2.2.1
      have g13 := hI.2.2.2.2.2.2.2.2.2.2.2.2.2.2.2.1
      have g14 := hI.2.2.2.2.2.2.2.2.2.2.2.2.2.2.2.2.1
      have g15 := hI.2.2.2.2.2.2.2.2.2.2.2.2.2.2.2.2.2.1
      have g16 := hI.2.2.2.2.2.2.2.2.2.2.2.2.2.2.2.2.2.2.1
      have g17 := hI.2.2.2.2.2.2.2.2.2.2.2.2.2.2.2.2.2.2.2.1
      have g18 := hI.2.2.2.2.2.2.2.2.2.2.2.2.2.2.2.2.2.2.2.2
      clear hI
      simp [Region.binds] at hd
      dsimp only at hK ⊢
      have e17 := g17 (by simp [hd])
      subst e17
      go_simp
      exact hK _ _ ⟨_, _, _, _, _, _, _, _, _, _, _, _, _, _, _, _, _, _, _, rfl, hb, g0, g1, g2, g3, g4, g5, g6, g7, g8, g9, g10, g11, g12, g13, g14, g15, g16, g17, fun _ => rfl⟩
  intro a w9 hI
  refine hI.elim fun u8 hI => hI.elim fun u12 hI => hI.elim fun u13 hI => hI.elim fun u14 hI => hI.elim fun u15 hI => hI.elim fun u16 hI => hI.elim fun u17 hI => hI.elim fun u18 hI => hI.elim fun u19 hI => hI.elim fun u20 hI => hI.elim fun u21 hI => hI.elim fun u22 hI => hI.elim fun u23 hI => hI.elim fun u24 hI => hI.elim fun u25 hI => hI.elim fun u26 hI => hI.elim fun u27 hI => hI.elim fun u28 hI => hI.elim fun u29 hI => ?_
  have ha := hI.1
  subst ha
  have hb := hI.2.1
  have g0 := hI.2.2.1
  have g1 := hI.2.2.2.1
  have g2 := hI.2.2.2.2.1
  have g3 := hI.2.2.2.2.2.1
  have g4 := hI.2.2.2.2.2.2.1
  have g5 := hI.2.2.2.2.2.2.2.1
  have g6 := hI.2.2.2.2.2.2.2.2.1
  have g7 := hI.2.2.2.2.2.2.2.2.2.1
  have g8 := hI.2.2.2.2.2.2.2.2.2.2.1
  have g9 := hI.2.2.2.2.2.2.2.2.2.2.2.1
  have g10 := hI.2.2.2.2.2.2.2.2.2.2.2.2.1
  have g11 := hI.2.2.2.2.2.2.2.2.2.2.2.2.2.1
  have g12 := hI.2.2.2.2.2.2.2.2.2.2.2.2.2.2.1
  have g13 := hI.2.2.2.2.2.2.2.2.2.2.2.2.2.2.2.1
  have g14 := hI.2.2.2.2.2.2.2.2.2.2.2.2.2.2.2.2.1
  have g15 := hI.2.2.2.2.2.2.2.2.2.2.2.2.2.2.2.2.2.1
  have g16 := hI.2.2.2.2.2.2.2.2.2.2.2.2.2.2.2.2.2.2.1
  have g17 := hI.2.2.2.2.2.2.2.2.2.2.2.2.2.2.2.2.2.2.2.1
  have g18 := hI.2.2.2.2.2.2.2.2.2.2.2.2.2.2.2.2.2.2.2.2
  clear hI
  have e0 := g0 rfl
  subst e0
  have e1 := g1 rfl
  subst e1
  have e2 := g2 rfl
  subst e2
  have e3 := g3 rfl
  subst e3
  have e4 := g4 rfl
  subst e4
  have e5 := g5 rfl
  subst e5
  have e6 := g6 rfl
  subst e6
  have e7 := g7 rfl
  subst e7
  have e8 := g8 rfl
  subst e8
  have e9 := g9 rfl
  subst e9
  have e11 := g11 rfl
  subst e11
  have e12 := g12 rfl
  subst e12
  have e13 := g13 rfl
  subst e13
  have e14 := g14 rfl
  subst e14
  have e15 := g15 rfl
  subst e15
  have e16 := g16 rfl
  subst e16
  have e17 := g17 rfl
  subst e17
  have e18 := g18 rfl
  subst e18
  obtain ⟨pl, hsp, _⟩ := g10 rfl
  obtain ⟨A22, c22, e22, _, _⟩ := hsp.form
  subst e22
  have HB9 := Lib.hid (bst HB2.out hb)
  clear hb hsp g10
  go_wp2
  go_ret
  exact ⟨rfl, HB9.out⟩
end Go.Proofs.YtjnamjkdjcndiaaDoor
