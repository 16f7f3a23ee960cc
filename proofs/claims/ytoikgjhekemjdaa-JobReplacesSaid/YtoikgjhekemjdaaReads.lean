/-
  The contract of job.Reads.
-/
import Derived.Test.YtoikgjhekemjdaaProg
import Derived.Test.YtoikgjhekemjdaaReadsSpec
namespace Go.Proofs.Ytoikgjhekemjdaa
open Go.RowKit
theorem info_ints : (Try.prog.info? 36).map (fun i => (i.zero, i.size, i.bytes)) = some (some (.slice none 0 0), 1, 24) := by kernel_rfl
theorem info_int' : (Try.prog.info? 3).map (fun i => (i.zero, i.size, i.bytes)) = some (some (.int .i64 0), 1, 8) := by kernel_rfl

/-- The relation at the head of round k. -/
def RdRel (w : World) (zs : List Int) (b : Int) (k : Nat) (v : Value) (left : Int) (wr : World) : Prop :=
  ∃ vs gs, Build wr w.heap.size 36 3 v vs gs ∧ grp b zs k = (gs, left) ∧ Below w.heap.size w wr ∧ ∀ (j : Nat) (y : Int), j < k → zs[j]? = some y → 1 ≤ y ∧ y ≤ 1024 ∧ y ≤ b
set_option maxHeartbeats 1000000 in
theorem reads_any (v : Value) (zs : List Int) (b : Int) (w : World) (hs : Sl w 1 v zs.length (ints zs)) (hl : zs.length ≤ 5000000000000) (hb : b ≤ 9223372036854775807) :
    Calls Try.prog 62 #[v, .int .i64 b] w (RetLL w 36 3 (reads zs b)) := by
  obtain ⟨A, c, rfl, _, _⟩ := hs.form
  go_enter Try.func62, Try.ntmps62
  go_wp2
  go_loopw [5, 6, 12] (fun v l i wr => ∃ (k : Nat) (left : Int), k ≤ zs.length ∧ i = .int .i64 k ∧ l = .int .i64 left ∧ RdRel w zs b k v left wr)
    (fun _ _ i _ => zs.length - (intOf i).toNat)
  case atStart => exact ⟨0, 0, by omega, rfl, rfl, [], [], Build.nil _ _ _ _, rfl, Below.refl _ _, fun j y h => by omega⟩
  case round =>
    obtain ⟨k, left, hk, rfl, rfl, hrd⟩ := hrel
    obtain ⟨vs, gs, hB, hg, hbel, hgood⟩ := hrd
    by_cases hlt : k < zs.length
    · obtain ⟨ad, x, rfl, hx, hc⟩ := (hs.below hbel).int_at hlt
      have Hx := Lib.hid hx
      have Hg := Lib.hid hg
      have Hgood := Lib.hid hgood
      have HB := Lib.hid hB
      clear hx hg hgood
      obtain ⟨A', c', rfl, _, _⟩ := (Sl.of_own hB.own).form
      clear hB
      by_cases h1 : x < 1 ∨ 1024 < x ∨ b < x
      · have Hbad := Lib.hid (reads_bad Hx.out h1)
        rcases h1 with h1 | h1 | h1
        · go_wp2
          go_ret
          exact RetLL.nil_ _ _ _ _ Hbad.out hbel
        · go_wp2
          go_ret
          exact RetLL.nil_ _ _ _ _ Hbad.out hbel
        · by_cases h2 : x < 1
          · go_wp2
            go_ret
            exact RetLL.nil_ _ _ _ _ Hbad.out hbel
          by_cases h3 : 1024 < x
          · go_wp2
            go_ret
            exact RetLL.nil_ _ _ _ _ Hbad.out hbel
          go_wp2
          go_ret
          exact RetLL.nil_ _ _ _ _ Hbad.out hbel
      · have hx1 : 1 ≤ x := by omega
        have hx2 : x ≤ 1024 := by omega
        have hx3 : x ≤ b := by omega
        clear h1
        have hbd := grp_bounds (b := b) (zs := zs) (by omega) k Hgood.out hk
        rw [Hg.out] at hbd
        obtain ⟨hl0, hl1, hl2⟩ := hbd
        simp only at hl0 hl1 hl2
        rcases Nat.eq_zero_or_pos gs.length with h0 | h0
        · have hz : ((gs.length : Int) == 0) = true := beq_iff_eq.2 (by omega)
          have H0 := Lib.hid h0
          clear h0
          have HN := Lib.hid (grp_new Hx.out Hg.out (.inl (List.eq_nil_of_length_eq_zero H0.out)))
          go_wp2_with (at_builtin; go_must (refine app1 _ _ HB.out.own hbel (Nat.le_refl _) hbel.size Try.underlying88 info_ints rfl (by decide) rfl (oneSlice _ _ _) (by omega) (by omega) rfl rfl rfl rfl ?_))
          intro g cap w1 hown1 hbel1 hg1 _
          have HB1 := Lib.hid (Build.push HB.out (by decide) hown1 hg1)
          have hvl := HB.out.ll.len
          have hget : (vs ++ (#[Value.slice none 0 0] : Array Value).toList)[gs.length]? = some (.slice none 0 0) := by rw [← hvl]; simp
          have hcell1 : w1.cell? ⟨g, gs.length, none⟩ = some (.slice none 0 0) := (hown1.cellAt gs.length (by omega)).trans hget
          have HG := Lib.hid hget
          clear hvl hg1 hget
          go_wp2_with (at_builtin; go_must (refine app1 _ _ (World.ownsRow_nil w1 w.heap.size 3 1) hbel1 (Nat.le_refl _) hbel1.size Try.underlying36 info_int' rfl (by decide) rfl (oneInt _ _) (by omega) (by omega) rfl rfl rfl rfl ?_))
          intro g2 cap2 w2 hown2 hbel2 hg2 hat2
          have hO2 := own_grown hown1 hg2 (fun q hq => own_ne hown1 (World.ownsRow_nil w1 w.heap.size 3 1) (by decide) q hq)
          have hcell2 := (hO2.cellAt gs.length (by omega)).trans HG.out
          have hfr2 := hO2.frozenAt gs.length
          have HB2 := Lib.hid (Build.put (cur := []) HB1.out (by decide) hown2 hg2 hat2)
          have hbel3 := hbel2.setCell (p := ⟨g, gs.length, none⟩) (hown1.lt g rfl).1 (.slice (some ⟨g2, 0, none⟩) (0 + 1) cap2)
          clear hO2 hown1 hown2 hcell1 hg2 hat2
          go_wp2
          go_roundw
          case rel => exact ⟨k + 1, b - x, by omega, by go_num, rfl, _, _, HB2.out, HN.out, hbel3, good_next Hgood.out Hx.out ⟨hx1, hx2, hx3⟩⟩
          case measure => simp [intOf]; omega
        have hz : ((gs.length : Int) == 0) = false := beq_eq_false_iff_ne.2 (by omega)
        by_cases h4 : left < x
        · have h4' := h4
          have HN := Lib.hid (grp_new Hx.out Hg.out (.inr h4))
          go_wp2_with (at_builtin; go_must (refine app1 _ _ HB.out.own hbel (Nat.le_refl _) hbel.size Try.underlying88 info_ints rfl (by decide) rfl (oneSlice _ _ _) (by omega) (by omega) rfl rfl rfl rfl ?_))
          intro g cap w1 hown1 hbel1 hg1 _
          have HB1 := Lib.hid (Build.push HB.out (by decide) hown1 hg1)
          have hvl := HB.out.ll.len
          have hget : (vs ++ (#[Value.slice none 0 0] : Array Value).toList)[gs.length]? = some (.slice none 0 0) := by rw [← hvl]; simp
          have hcell1 : w1.cell? ⟨g, gs.length, none⟩ = some (.slice none 0 0) := (hown1.cellAt gs.length (by omega)).trans hget
          have HG := Lib.hid hget
          clear hvl hg1 hget
          go_wp2_with (at_builtin; go_must (refine app1 _ _ (World.ownsRow_nil w1 w.heap.size 3 1) hbel1 (Nat.le_refl _) hbel1.size Try.underlying36 info_int' rfl (by decide) rfl (oneInt _ _) (by omega) (by omega) rfl rfl rfl rfl ?_))
          intro g2 cap2 w2 hown2 hbel2 hg2 hat2
          have hO2 := own_grown hown1 hg2 (fun q hq => own_ne hown1 (World.ownsRow_nil w1 w.heap.size 3 1) (by decide) q hq)
          have hcell2 := (hO2.cellAt gs.length (by omega)).trans HG.out
          have hfr2 := hO2.frozenAt gs.length
          have HB2 := Lib.hid (Build.put (cur := []) HB1.out (by decide) hown2 hg2 hat2)
          have hbel3 := hbel2.setCell (p := ⟨g, gs.length, none⟩) (hown1.lt g rfl).1 (.slice (some ⟨g2, 0, none⟩) (0 + 1) cap2)
          clear hO2 hown1 hown2 hcell1 hg2 hat2
          go_wp2
          go_roundw
          case rel => exact ⟨k + 1, b - x, by omega, by go_num, rfl, _, _, HB2.out, HN.out, hbel3, good_next Hgood.out Hx.out ⟨hx1, hx2, hx3⟩⟩
          case measure => simp [intOf]; omega
        · rcases List.eq_nil_or_concat gs with hgs | ⟨gs', cur, hgs⟩
          · exfalso; rw [hgs] at h0; simp at h0
          rw [List.concat_eq_append] at hgs
          subst hgs
          have hvl := HB.out.ll.len
          rcases List.eq_nil_or_concat vs with hvs | ⟨vs', u, hvs⟩
          · exfalso; rw [hvs] at hvl; simp at hvl
          rw [List.concat_eq_append] at hvs
          subst hvs
          have hvl' : vs'.length = gs'.length := by simpa using hvl
          have hglen : (gs' ++ [cur]).length = gs'.length + 1 := by simp
          have hown0 : wr.ownsRow w.heap.size 36 1 (.slice A' (gs' ++ [cur]).length c') (gs' ++ [cur]).length (vs' ++ [u]) := HB.out.own
          rw [hglen] at hown0 hl2 hz
          have hu : wr.ownsRow w.heap.size 3 1 u cur.length (ints cur) := HB.out.ll.rows gs'.length u cur (by rw [← hvl']; simp) (by simp)
          obtain ⟨g, hA⟩ : ∃ g, A' = some ⟨g, 0, none⟩ := by
            rcases hown0.2 with ⟨_, hn⟩ | ⟨g, cap, cur', hv, _⟩
            · omega
            · injection hv with hv; exact ⟨g, hv⟩
          subst hA
          have HB' := Lib.hid (show Build wr w.heap.size 36 3 (.slice (some ⟨g, 0, none⟩) (gs'.length + 1) c') (vs' ++ [u]) (gs' ++ [cur]) by rw [← hglen]; exact HB.out)
          clear HB hvl
          have HN := Lib.hid (grp_same Hx.out Hg.out h4)
          have hget : (vs' ++ [u])[gs'.length]? = some u := by rw [← hvl']; simp
          obtain ⟨A2, c2, hu2, _, _⟩ := (Sl.of_own hu).form
          have HU := Lib.hid hu2
          have hcell1 : wr.cell? ⟨g, gs'.length, none⟩ = some (.slice A2 cur.length c2) := by rw [← HU.out]; exact (hown0.cellAt gs'.length (by omega)).trans hget
          have HG := Lib.hid hget
          have HVL := Lib.hid hvl'
          have HGL := Lib.hid hglen
          clear hget hu2 hvl' 
          rw [HGL.out]
          clear hglen
          have hcl := cur_le hk Hg.out
          go_wp2_with (at_builtin; go_must (refine app1 (v := .slice A2 cur.length c2) _ _ (by rw [← HU.out]; exact hu) hbel (Nat.le_refl _) hbel.size Try.underlying36 info_int' rfl (by decide) rfl (oneInt _ _) (by omega) (by omega) rfl rfl rfl rfl ?_))
          intro g2 cap2 w2 hown2 hbel2 hg2 hat2
          rw [← HU.out] at hg2 hat2
          have hO2 := own_grown hown0 hg2 (fun q hq => own_ne hown0 hu (by decide) q hq)
          have hcell2 := (hO2.cellAt gs'.length (by omega)).trans HG.out
          have hfr2 := hO2.frozenAt gs'.length
          have HB2 := Lib.hid (Build.put HB'.out (by decide) hown2 hg2 hat2)
          have hbel3 := hbel2.setCell (p := ⟨g, gs'.length, none⟩) (hown0.lt g rfl).1 (.slice (some ⟨g2, 0, none⟩) (cur.length + 1) cap2)
          clear hO2 hown0 hown2 hcell1 hg2 hat2
          go_wp2
          go_roundw
          case rel => exact ⟨k + 1, left - x, by omega, by go_num, rfl, _, _, HB2.out, HN.out, hbel3, good_next Hgood.out Hx.out ⟨hx1, hx2, hx3⟩⟩
          case measure => simp [intOf]; omega
    · go_wp2
      go_ret
      obtain rfl : k = zs.length := by omega
      exact RetLL.mk_ hbel hB.own hB.ll (by rw [reads_good (good_all hgood), hg])
end Go.Proofs.Ytoikgjhekemjdaa
