/-
  keep.SameSnapshots, keep.SameRecord, keep.SameRecords at equal lists.
-/
import Derived.Test.YtoikgjhekemjdaaRcL
import Derived.Test.YtoikgjhekemjdaaSame
import Derived.Test.YtoikgjhekemjdaaSameSn
import Derived.Test.YtoikgjhekemjdaaInv2
namespace Go.Proofs.Ytoikgjhekemjdaa
open Go.RowKit Go.Sort
theorem SlSn.max {w : World} {v : Value} {h : List Snp} (hs : SlSn w v h) : h.length ≤ 9223372036854775807 := by
  obtain ⟨A, c, _, h1, h2⟩ := hs.form
  unfold maxLen at h2; omega
theorem SlRc.max {w : World} {v : Value} {h : List Rcd} (hs : SlRc w v h) : h.length ≤ 9223372036854775807 := by
  obtain ⟨A, c, _, h1, h2⟩ := hs.form
  unfold maxLen at h2; omega
theorem Sl.max {w : World} {sz n : Nat} {v : Value} {cs : List Value} (hs : Sl w sz v n cs) : n ≤ 9223372036854775807 := by
  obtain ⟨A, c, _, h1, h2⟩ := hs.form
  unfold maxLen at h2; omega
set_option maxRecDepth 100000 in
set_option maxHeartbeats 8000000 in
theorem sameRec_any (r : Rcd) (va va' vr vr' : Value) (w : World) (h1 : Sl w 12 va r.add.length (ents r.add)) (h2 : Sl w 12 va' r.add.length (ents r.add)) (h3 : Sl w 1 vr r.rem.length (ints r.rem)) (h4 : Sl w 1 vr' r.rem.length (ints r.rem)) :
    Calls Try.prog 57 #[.agg #[.int .i64 r.kind, .int .i64 r.ver, .int .i64 r.seq, .int .i64 r.nid, va, vr], .agg #[.int .i64 r.kind, .int .i64 r.ver, .int .i64 r.seq, .int .i64 r.nid, va', vr']] w (RetBe w true) := by
  obtain ⟨A, c, rfl, _, _⟩ := h1.form
  obtain ⟨A', c', rfl, _, _⟩ := h2.form
  obtain ⟨R, d, rfl, _, _⟩ := h3.form
  obtain ⟨R', d', rfl, _, _⟩ := h4.form
  obtain ⟨W, hW⟩ : ∃ W, W = (w.alloc (.cells #[.int .i64 r.kind, .int .i64 r.ver, .int .i64 r.seq, .int .i64 r.nid, .slice A r.add.length c, .slice R r.rem.length d] 38)).alloc (.cells #[.int .i64 r.kind, .int .i64 r.ver, .int .i64 r.seq, .int .i64 r.nid, (.slice A' r.add.length c'), (.slice R' r.rem.length d')] 38) := ⟨_, rfl⟩
  have hb : Below w.heap.size w W := by rw [hW]; exact abel2 _ _ _
  have b0 : Blk W w.heap.size 38 #[.int .i64 r.kind, .int .i64 r.ver, .int .i64 r.seq, .int .i64 r.nid, .slice A r.add.length c, .slice R r.rem.length d] := by rw [hW]; exact (Blk.new _ _ _).alloc _
  have b1 : Blk W (w.heap.size + 1) 38 #[.int .i64 r.kind, .int .i64 r.ver, .int .i64 r.seq, .int .i64 r.nid, (.slice A' r.add.length c'), (.slice R' r.rem.length d')] := by
    have := Blk.new (w.alloc (.cells #[.int .i64 r.kind, .int .i64 r.ver, .int .i64 r.seq, .int .i64 r.nid, .slice A r.add.length c, .slice R r.rem.length d] 38)) 38 #[.int .i64 r.kind, .int .i64 r.ver, .int .i64 r.seq, .int .i64 r.nid, (.slice A' r.add.length c'), (.slice R' r.rem.length d')]
    rw [hW]; simpa using this
  have HE := Lib.hid (sameE_any (.slice A r.add.length c) (.slice A' r.add.length c') r.add r.add W (h1.below hb) (h2.below hb) h1.max)
  rw [sameEnts_refl] at HE
  have HI := Lib.hid (fun (m : Nat) => same_any (.slice R r.rem.length d) (.slice R' r.rem.length d') r.rem r.rem (W.drewN m) ((h3.below hb).drewN m) ((h4.below hb).drewN m))
  rw [show same r.rem r.rem = true from (same_yes rfl).symm] at HI
  have bb := b0
  have c0 := bb.cell 0
  have c1 := bb.cell 1
  have c2 := bb.cell 2
  have c3 := bb.cell 3
  have c4 := bb.cell 4
  have c5 := bb.cell 5
  simp only [List.getElem?_toArray, List.getElem?_cons_zero, List.getElem?_cons_succ] at c0 c1 c2 c3 c4 c5
  clear bb
  have bb := b1
  have d0 := bb.cell 0
  have d1 := bb.cell 1
  have d2 := bb.cell 2
  have d3 := bb.cell 3
  have d4 := bb.cell 4
  have d5 := bb.cell 5
  simp only [List.getElem?_toArray, List.getElem?_cons_zero, List.getElem?_cons_succ] at d0 d1 d2 d3 d4 d5
  clear bb
  have HB := Lib.hid hb
  clear hb b0 b1 h1 h2 h3 h4
  go_enter Try.func57, Try.ntmps57
  go_upto_region 1 with (fail)
  rw [← hW]
  clear hW
  go_wp2_with fail
  refine HE.out.mono ?_
  rintro _ w2 ⟨rfl, m, rfl⟩
  go_wp2_with fail
  refine (HI.out m).mono ?_
  rintro _ w3 ⟨rfl, m2, rfl⟩
  go_wp2
  go_ret
  exact RetBe.mk_ (rfl) (below_drewN HB.out _)
set_option maxRecDepth 100000 in
set_option maxHeartbeats 8000000 in
theorem sameSns_any (v v' : Value) (h : List Snp) (w : World) (hs : SlSn w v h) (hs' : SlSn w v' h) :
    Calls Try.prog 27 #[v, v'] w (RetBe w true) := by
  obtain ⟨A, c, rfl, hc1, hc2⟩ := hs.form
  obtain ⟨A', c', rfl, hd1, hd2⟩ := hs'.form
  unfold maxLen at hc2 hd2
  have hbb : ((h.length : Int) != h.length) = false := by simp
  go_enter Try.func27, Try.ntmps27
  go_wp2
  go_loopw [13] (fun i wr => ∃ k : Nat, i = .int .i64 k ∧ k ≤ h.length ∧ Below w.heap.size w wr) (fun i _ => h.length - (intOf i).toNat)
  case atStart => exact ⟨0, rfl, by omega, Below.refl _ _⟩
  case round =>
    obtain ⟨k, rfl, hk, hbel⟩ := hrel
    by_cases hlt : k < h.length
    · obtain ⟨ad, s, u, p1, rfl, hs1, hp1, hSA, hS1⟩ := (hs.below hbel).load rfl hlt
      obtain ⟨ad', s', u', p2, rfl, hs2, hp2, hSB, hS2⟩ := (hs'.below hbel).load rfl hlt
      rw [hs1] at hs2
      injection hs2 with hs2
      subst hs2
      obtain ⟨ht1, c0, c1, c2, c3⟩ := hSA
      obtain ⟨ht2, d0, d1, d2, d3⟩ := hSB
      have HC := Lib.hid (fun (X : World) (h : Below wr.heap.size wr X) => sameSnap_any s.ver s.seq s.nid u u' s.l X (hS1.below h) (hS2.below h) hS1.max)
      clear hs1 hS1 hS2
      have HB := Lib.hid hbel
      have HLT := Lib.hid hlt
      clear hbel
      go_upto_region 6 with (fail)
      refine wp_region_inv (by kernel_rfl) (by kernel_rfl) (fun L a w' => ∃ v16 v17 v18 v19 v20 v21 v22 v23 v24 v25 : Value, a = ⟨#[.slice (some ad) h.length c, .slice (some ad') h.length c', undef, undef, u4, .int .i64 k, .slice (some ad) h.length c, .int .i64 h.length, .slice (some ad') h.length c', .int .i64 h.length, .bool false, .slice (some ad) h.length c, .int .i64 h.length, .int .i64 k, .bool true, .int .i64 k, v16, v17, v18, v19, v20, v21, v22, v23, v24, v25, u26], []⟩ ∧
          Below wr.heap.size wr w' ∧ Got (L 0) v16 (.slice (some ad) h.length c) ∧ Got (L 1) v17 (.int .i64 k) ∧ Got (L 2) v18 (.pointer (some p1)) ∧ Got (L 3) v19 (.agg #[.int .i64 s.ver, .int .i64 s.seq, .int .i64 s.nid, u]) ∧ Got (L 4) v20 (.slice (some ad') h.length c') ∧ Got (L 5) v21 (.int .i64 k) ∧ Got (L 6) v22 (.pointer (some p2)) ∧ Got (L 7) v23 (.agg #[.int .i64 s.ver, .int .i64 s.seq, .int .i64 s.nid, u']) ∧ Got (L 8) v24 (.bool true) ∧ Got (L 9) v25 (.bool false))
        ?_ ?_ ?_
      · exact ⟨_, _, _, _, _, _, _, _, _, _, rfl, (Below.refl _ _).drew, nofun, nofun, nofun, nofun, nofun, nofun, nofun, nofun, nofun, nofun⟩
      · refine ⟨?_, ?_, ?_, ?_, ?_, ?_, ?_, ?_, ?_, ?_, trivial⟩
        · rintro L a w' ⟨v16, v17, v18, v19, v20, v21, v22, v23, v24, v25, rfl, hb, g0, g1, g2, g3, g4, g5, g6, g7, g8, g9⟩ hl hd K hK
          dsimp only at hK ⊢
          go_simp
          exact hK _ _ ⟨_, _, _, _, _, _, _, _, _, _, rfl, hb, fun _ => rfl, g1, g2, g3, g4, g5, g6, g7, g8, g9⟩
        · rintro L a w' ⟨v16, v17, v18, v19, v20, v21, v22, v23, v24, v25, rfl, hb, g0, g1, g2, g3, g4, g5, g6, g7, g8, g9⟩ hl hd K hK
          dsimp only at hK ⊢
          go_simp
          exact hK _ _ ⟨_, _, _, _, _, _, _, _, _, _, rfl, hb, g0, fun _ => rfl, g2, g3, g4, g5, g6, g7, g8, g9⟩
        · rintro L a w' ⟨v16, v17, v18, v19, v20, v21, v22, v23, v24, v25, rfl, hb, g0, g1, g2, g3, g4, g5, g6, g7, g8, g9⟩ hl hd K hK
          simp [Region.binds] at hd
          dsimp only at hK ⊢
          have e0 := g0 (by simp [hd])
          subst e0
          have e1 := g1 (by simp [hd])
          subst e1
          go_simp
          exact hK _ _ ⟨_, _, _, _, _, _, _, _, _, _, rfl, hb, g0, g1, fun _ => rfl, g3, g4, g5, g6, g7, g8, g9⟩
        · rintro L a w' ⟨v16, v17, v18, v19, v20, v21, v22, v23, v24, v25, rfl, hb, g0, g1, g2, g3, g4, g5, g6, g7, g8, g9⟩ hl hd K hK
          simp [Region.binds] at hd
          dsimp only at hK ⊢
          have e2 := g2 (by simp [hd])
          subst e2
          have x0 := (hb.cell (p := p1) ht1).trans c0
          have x1 := (hb.cell (p := { block := p1.block, off := p1.off + 1 }) ht1).trans c1
          have x2 := (hb.cell (p := { block := p1.block, off := p1.off + 2 }) ht1).trans c2
          have x3 := (hb.cell (p := { block := p1.block, off := p1.off + 3 }) ht1).trans c3
          go_simp
          exact hK _ _ ⟨_, _, _, _, _, _, _, _, _, _, rfl, hb, g0, g1, g2, fun _ => rfl, g4, g5, g6, g7, g8, g9⟩
        · rintro L a w' ⟨v16, v17, v18, v19, v20, v21, v22, v23, v24, v25, rfl, hb, g0, g1, g2, g3, g4, g5, g6, g7, g8, g9⟩ hl hd K hK
          dsimp only at hK ⊢
          go_simp
          exact hK _ _ ⟨_, _, _, _, _, _, _, _, _, _, rfl, hb, g0, g1, g2, g3, fun _ => rfl, g5, g6, g7, g8, g9⟩
        · rintro L a w' ⟨v16, v17, v18, v19, v20, v21, v22, v23, v24, v25, rfl, hb, g0, g1, g2, g3, g4, g5, g6, g7, g8, g9⟩ hl hd K hK
          dsimp only at hK ⊢
          go_simp
          exact hK _ _ ⟨_, _, _, _, _, _, _, _, _, _, rfl, hb, g0, g1, g2, g3, g4, fun _ => rfl, g6, g7, g8, g9⟩
        · rintro L a w' ⟨v16, v17, v18, v19, v20, v21, v22, v23, v24, v25, rfl, hb, g0, g1, g2, g3, g4, g5, g6, g7, g8, g9⟩ hl hd K hK
          simp [Region.binds] at hd
          dsimp only at hK ⊢
          have e4 := g4 (by simp [hd])
          subst e4
          have e5 := g5 (by simp [hd])
          subst e5
          go_simp
          exact hK _ _ ⟨_, _, _, _, _, _, _, _, _, _, rfl, hb, g0, g1, g2, g3, g4, g5, fun _ => rfl, g7, g8, g9⟩
        · rintro L a w' ⟨v16, v17, v18, v19, v20, v21, v22, v23, v24, v25, rfl, hb, g0, g1, g2, g3, g4, g5, g6, g7, g8, g9⟩ hl hd K hK
          simp [Region.binds] at hd
          dsimp only at hK ⊢
          have e6 := g6 (by simp [hd])
          subst e6
          have x0 := (hb.cell (p := p2) ht2).trans d0
          have x1 := (hb.cell (p := { block := p2.block, off := p2.off + 1 }) ht2).trans d1
          have x2 := (hb.cell (p := { block := p2.block, off := p2.off + 2 }) ht2).trans d2
          have x3 := (hb.cell (p := { block := p2.block, off := p2.off + 3 }) ht2).trans d3
          go_simp
          exact hK _ _ ⟨_, _, _, _, _, _, _, _, _, _, rfl, hb, g0, g1, g2, g3, g4, g5, g6, fun _ => rfl, g8, g9⟩
        · rintro L a w' ⟨v16, v17, v18, v19, v20, v21, v22, v23, v24, v25, rfl, hb, g0, g1, g2, g3, g4, g5, g6, g7, g8, g9⟩ hl hd K hK
          simp [Region.binds] at hd
          dsimp only at hK ⊢
          have e3 := g3 (by simp [hd])
          subst e3
          have e7 := g7 (by simp [hd])
          subst e7
          go_wp2_with fail
          refine (HC.out w' hb).mono ?_
          rintro _ w4 ⟨rfl, hb4⟩
          exact hK _ _ ⟨_, _, _, _, _, _, _, _, _, _, rfl, bst hb hb4, g0, g1, g2, g3, g4, g5, g6, g7, fun _ => rfl, g9⟩
        · rintro L a w' ⟨v16, v17, v18, v19, v20, v21, v22, v23, v24, v25, rfl, hb, g0, g1, g2, g3, g4, g5, g6, g7, g8, g9⟩ hl hd K hK
          simp [Region.binds] at hd
          dsimp only at hK ⊢
          have e8 := g8 (by simp [hd])
          subst e8
          go_simp
          exact hK _ _ ⟨_, _, _, _, _, _, _, _, _, _, rfl, hb, g0, g1, g2, g3, g4, g5, g6, g7, g8, fun _ => rfl⟩
      rintro a w9 ⟨v16, v17, v18, v19, v20, v21, v22, v23, v24, v25, rfl, hb, g0, g1, g2, g3, g4, g5, g6, g7, g8, g9⟩
      have e0 := g0 rfl
      subst e0
      have e1 := g1 rfl
      subst e1
      have e2 := g2 rfl
      subst e2
      have e3 := g3 rfl
      subst e3
      have e4 := g4 rfl
      subst e4
      have e5 := g5 rfl
      subst e5
      have e6 := g6 rfl
      subst e6
      have e7 := g7 rfl
      subst e7
      have e8 := g8 rfl
      subst e8
      have e9 := g9 rfl
      subst e9
      have HB9 := Lib.hid (bst HB.out hb)
      clear g0 g1 g2 g3 g4 g5 g6 g7 g8 g9 hb c0 c1 c2 c3 d0 d1 d2 d3
      go_wp2
      go_roundw
      case rel => exact ⟨k + 1, by go_num, HLT.out, HB9.out⟩
      case measure => have := HLT.out; simp [intOf]; omega
    · have HB := Lib.hid hbel
      clear hbel
      go_wp2
      go_ret
      exact RetBe.mk_ rfl HB.out
set_option maxRecDepth 100000 in
set_option maxHeartbeats 8000000 in
theorem sameRcs_any (v v' : Value) (h : List Rcd) (w : World) (hs : SlRc w v h) (hs' : SlRc w v' h) :
    Calls Try.prog 29 #[v, v'] w (RetBe w true) := by
  obtain ⟨A, c, rfl, hc1, hc2⟩ := hs.form
  obtain ⟨A', c', rfl, hd1, hd2⟩ := hs'.form
  unfold maxLen at hc2 hd2
  have hbb : ((h.length : Int) != h.length) = false := by simp
  go_enter Try.func29, Try.ntmps29
  go_wp2
  go_loopw [13] (fun i wr => ∃ k : Nat, i = .int .i64 k ∧ k ≤ h.length ∧ Below w.heap.size w wr) (fun i _ => h.length - (intOf i).toNat)
  case atStart => exact ⟨0, rfl, by omega, Below.refl _ _⟩
  case round =>
    obtain ⟨k, rfl, hk, hbel⟩ := hrel
    by_cases hlt : k < h.length
    · obtain ⟨ad, s, ua, ur, p1, rfl, hs1, hp1, hSA, hS1⟩ := (hs.below hbel).load rfl hlt
      obtain ⟨ad', s', ua', ur', p2, rfl, hs2, hp2, hSB, hS2⟩ := (hs'.below hbel).load rfl hlt
      rw [hs1] at hs2
      injection hs2 with hs2
      subst hs2
      obtain ⟨ht1, c0, c1, c2, c3, c4, c5⟩ := hSA
      obtain ⟨ht2, d0, d1, d2, d3, d4, d5⟩ := hSB
      have HC := Lib.hid (fun (X : World) (h : Below wr.heap.size wr X) => sameRec_any s ua ua' ur ur' X (hS1.1.below h) (hS2.1.below h) (hS1.2.1.below h) (hS2.2.1.below h))
      clear hs1 hS1 hS2
      have HB := Lib.hid hbel
      have HLT := Lib.hid hlt
      clear hbel
      go_upto_region 6 with (fail)
      refine wp_region_inv (by kernel_rfl) (by kernel_rfl) (fun L a w' => ∃ v16 v17 v18 v19 v20 v21 v22 v23 v24 v25 : Value, a = ⟨#[.slice (some ad) h.length c, .slice (some ad') h.length c', undef, undef, u4, .int .i64 k, .slice (some ad) h.length c, .int .i64 h.length, .slice (some ad') h.length c', .int .i64 h.length, .bool false, .slice (some ad) h.length c, .int .i64 h.length, .int .i64 k, .bool true, .int .i64 k, v16, v17, v18, v19, v20, v21, v22, v23, v24, v25, u26], []⟩ ∧
          Below wr.heap.size wr w' ∧ Got (L 0) v16 (.slice (some ad) h.length c) ∧ Got (L 1) v17 (.int .i64 k) ∧ Got (L 2) v18 (.pointer (some p1)) ∧ Got (L 3) v19 (.agg #[.int .i64 s.kind, .int .i64 s.ver, .int .i64 s.seq, .int .i64 s.nid, ua, ur]) ∧ Got (L 4) v20 (.slice (some ad') h.length c') ∧ Got (L 5) v21 (.int .i64 k) ∧ Got (L 6) v22 (.pointer (some p2)) ∧ Got (L 7) v23 (.agg #[.int .i64 s.kind, .int .i64 s.ver, .int .i64 s.seq, .int .i64 s.nid, ua', ur']) ∧ Got (L 8) v24 (.bool true) ∧ Got (L 9) v25 (.bool false))
        ?_ ?_ ?_
      · exact ⟨_, _, _, _, _, _, _, _, _, _, rfl, (Below.refl _ _).drew, nofun, nofun, nofun, nofun, nofun, nofun, nofun, nofun, nofun, nofun⟩
      · refine ⟨?_, ?_, ?_, ?_, ?_, ?_, ?_, ?_, ?_, ?_, trivial⟩
        · rintro L a w' ⟨v16, v17, v18, v19, v20, v21, v22, v23, v24, v25, rfl, hb, g0, g1, g2, g3, g4, g5, g6, g7, g8, g9⟩ hl hd K hK
          dsimp only at hK ⊢
          go_simp
          exact hK _ _ ⟨_, _, _, _, _, _, _, _, _, _, rfl, hb, fun _ => rfl, g1, g2, g3, g4, g5, g6, g7, g8, g9⟩
        · rintro L a w' ⟨v16, v17, v18, v19, v20, v21, v22, v23, v24, v25, rfl, hb, g0, g1, g2, g3, g4, g5, g6, g7, g8, g9⟩ hl hd K hK
          dsimp only at hK ⊢
          go_simp
          exact hK _ _ ⟨_, _, _, _, _, _, _, _, _, _, rfl, hb, g0, fun _ => rfl, g2, g3, g4, g5, g6, g7, g8, g9⟩
        · rintro L a w' ⟨v16, v17, v18, v19, v20, v21, v22, v23, v24, v25, rfl, hb, g0, g1, g2, g3, g4, g5, g6, g7, g8, g9⟩ hl hd K hK
          simp [Region.binds] at hd
          dsimp only at hK ⊢
          have e0 := g0 (by simp [hd])
          subst e0
          have e1 := g1 (by simp [hd])
          subst e1
          go_simp
          exact hK _ _ ⟨_, _, _, _, _, _, _, _, _, _, rfl, hb, g0, g1, fun _ => rfl, g3, g4, g5, g6, g7, g8, g9⟩
        · rintro L a w' ⟨v16, v17, v18, v19, v20, v21, v22, v23, v24, v25, rfl, hb, g0, g1, g2, g3, g4, g5, g6, g7, g8, g9⟩ hl hd K hK
          simp [Region.binds] at hd
          dsimp only at hK ⊢
          have e2 := g2 (by simp [hd])
          subst e2
          have x0 := (hb.cell (p := p1) ht1).trans c0
          have x1 := (hb.cell (p := { block := p1.block, off := p1.off + 1 }) ht1).trans c1
          have x2 := (hb.cell (p := { block := p1.block, off := p1.off + 2 }) ht1).trans c2
          have x3 := (hb.cell (p := { block := p1.block, off := p1.off + 3 }) ht1).trans c3
          have x4 := (hb.cell (p := { block := p1.block, off := p1.off + 4 }) ht1).trans c4
          have x5 := (hb.cell (p := { block := p1.block, off := p1.off + 5 }) ht1).trans c5
          go_simp
          exact hK _ _ ⟨_, _, _, _, _, _, _, _, _, _, rfl, hb, g0, g1, g2, fun _ => rfl, g4, g5, g6, g7, g8, g9⟩
        · rintro L a w' ⟨v16, v17, v18, v19, v20, v21, v22, v23, v24, v25, rfl, hb, g0, g1, g2, g3, g4, g5, g6, g7, g8, g9⟩ hl hd K hK
          dsimp only at hK ⊢
          go_simp
          exact hK _ _ ⟨_, _, _, _, _, _, _, _, _, _, rfl, hb, g0, g1, g2, g3, fun _ => rfl, g5, g6, g7, g8, g9⟩
        · rintro L a w' ⟨v16, v17, v18, v19, v20, v21, v22, v23, v24, v25, rfl, hb, g0, g1, g2, g3, g4, g5, g6, g7, g8, g9⟩ hl hd K hK
          dsimp only at hK ⊢
          go_simp
          exact hK _ _ ⟨_, _, _, _, _, _, _, _, _, _, rfl, hb, g0, g1, g2, g3, g4, fun _ => rfl, g6, g7, g8, g9⟩
        · rintro L a w' ⟨v16, v17, v18, v19, v20, v21, v22, v23, v24, v25, rfl, hb, g0, g1, g2, g3, g4, g5, g6, g7, g8, g9⟩ hl hd K hK
          simp [Region.binds] at hd
          dsimp only at hK ⊢
          have e4 := g4 (by simp [hd])
          subst e4
          have e5 := g5 (by simp [hd])
          subst e5
          go_simp
          exact hK _ _ ⟨_, _, _, _, _, _, _, _, _, _, rfl, hb, g0, g1, g2, g3, g4, g5, fun _ => rfl, g7, g8, g9⟩
        · rintro L a w' ⟨v16, v17, v18, v19, v20, v21, v22, v23, v24, v25, rfl, hb, g0, g1, g2, g3, g4, g5, g6, g7, g8, g9⟩ hl hd K hK
          simp [Region.binds] at hd
          dsimp only at hK ⊢
          have e6 := g6 (by simp [hd])
          subst e6
          have x0 := (hb.cell (p := p2) ht2).trans d0
          have x1 := (hb.cell (p := { block := p2.block, off := p2.off + 1 }) ht2).trans d1
          have x2 := (hb.cell (p := { block := p2.block, off := p2.off + 2 }) ht2).trans d2
          have x3 := (hb.cell (p := { block := p2.block, off := p2.off + 3 }) ht2).trans d3
          have x4 := (hb.cell (p := { block := p2.block, off := p2.off + 4 }) ht2).trans d4
          have x5 := (hb.cell (p := { block := p2.block, off := p2.off + 5 }) ht2).trans d5
          go_simp
          exact hK _ _ ⟨_, _, _, _, _, _, _, _, _, _, rfl, hb, g0, g1, g2, g3, g4, g5, g6, fun _ => rfl, g8, g9⟩
        · rintro L a w' ⟨v16, v17, v18, v19, v20, v21, v22, v23, v24, v25, rfl, hb, g0, g1, g2, g3, g4, g5, g6, g7, g8, g9⟩ hl hd K hK
          simp [Region.binds] at hd
          dsimp only at hK ⊢
          have e3 := g3 (by simp [hd])
          subst e3
          have e7 := g7 (by simp [hd])
          subst e7
          go_wp2_with fail
          refine (HC.out w' hb).mono ?_
          rintro _ w4 ⟨rfl, hb4⟩
          exact hK _ _ ⟨_, _, _, _, _, _, _, _, _, _, rfl, bst hb hb4, g0, g1, g2, g3, g4, g5, g6, g7, fun _ => rfl, g9⟩
        · rintro L a w' ⟨v16, v17, v18, v19, v20, v21, v22, v23, v24, v25, rfl, hb, g0, g1, g2, g3, g4, g5, g6, g7, g8, g9⟩ hl hd K hK
          simp [Region.binds] at hd
          dsimp only at hK ⊢
          have e8 := g8 (by simp [hd])
          subst e8
          go_simp
          exact hK _ _ ⟨_, _, _, _, _, _, _, _, _, _, rfl, hb, g0, g1, g2, g3, g4, g5, g6, g7, g8, fun _ => rfl⟩
      rintro a w9 ⟨v16, v17, v18, v19, v20, v21, v22, v23, v24, v25, rfl, hb, g0, g1, g2, g3, g4, g5, g6, g7, g8, g9⟩
      have e0 := g0 rfl
      subst e0
      have e1 := g1 rfl
      subst e1
      have e2 := g2 rfl
      subst e2
      have e3 := g3 rfl
      subst e3
      have e4 := g4 rfl
      subst e4
      have e5 := g5 rfl
      subst e5
      have e6 := g6 rfl
      subst e6
      have e7 := g7 rfl
      subst e7
      have e8 := g8 rfl
      subst e8
      have e9 := g9 rfl
      subst e9
      have HB9 := Lib.hid (bst HB.out hb)
      clear g0 g1 g2 g3 g4 g5 g6 g7 g8 g9 hb c0 c1 c2 c3 c4 c5 d0 d1 d2 d3 d4 d5
      go_wp2
      go_roundw
      case rel => exact ⟨k + 1, by go_num, HLT.out, HB9.out⟩
      case measure => have := HLT.out; simp [intOf]; omega
    · have HB := Lib.hid hbel
      clear hbel
      go_wp2
      go_ret
      exact RetBe.mk_ rfl HB.out
end Go.Proofs.Ytoikgjhekemjdaa
