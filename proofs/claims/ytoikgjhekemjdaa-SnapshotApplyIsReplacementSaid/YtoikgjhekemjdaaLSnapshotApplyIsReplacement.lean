/-
  The walk of the law SnapshotApplyIsReplacement.
-/
import Derived.Test.YtoikgjhekemjdaaApply
import Derived.Test.YtoikgjhekemjdaaKRecord
import Derived.Test.YtoikgjhekemjdaaSameSn
import Derived.Test.YtoikgjhekemjdaaApplyMeans
namespace Go.Proofs.Ytoikgjhekemjdaa
open Go.RowKit Go.Sort
/-- A number among the first ones. -/
def goneTo (rem : List Int) (k : Nat) (i : Int) : Bool := (rem.take k).any fun x => x == i
theorem goneTo_next {rem : List Int} {k : Nat} {i x : Int} (h : rem[k]? = some x) : goneTo rem (k + 1) i = (goneTo rem k i || x == i) := by
  unfold goneTo; rw [List.take_add_one, h, List.any_append]; simp
theorem goneTo_all {rem : List Int} {k : Nat} {i : Int} (h : rem.length ≤ k) : goneTo rem k i = decide (i ∈ rem) := by
  unfold goneTo; rw [List.take_of_length_le h]
  by_cases hi : i ∈ rem
  · rw [decide_eq_true hi, List.any_eq_true]; exact ⟨i, hi, by simp⟩
  · rw [decide_eq_false hi, List.any_eq_false]; intro x hx; simp; rintro rfl; exact hi hx
def cntTo (l : List Ent) (rem : List Int) (k : Nat) : Nat := ((l.take k).filter fun e => decide (e.id ∉ rem)).length
theorem cntTo_le (l : List Ent) (rem : List Int) (k : Nat) : cntTo l rem k ≤ k := by
  unfold cntTo
  exact Nat.le_trans (List.length_filter_le _ _) (by rw [List.length_take]; omega)
theorem cntTo_next {l : List Ent} {rem : List Int} {k : Nat} {e : Ent} (h : l[k]? = some e) : cntTo l rem (k + 1) = cntTo l rem k + if e.id ∈ rem then 0 else 1 := by
  unfold cntTo; rw [List.take_add_one, h, List.filter_append, List.length_append]
  by_cases hi : e.id ∈ rem <;> simp [hi]
set_option maxRecDepth 100000 in
set_option maxHeartbeats 4000000 in
theorem snapshotApplyIsReplacement_walk (z1 z2 : Value) (xs ys : List Int) (w : World)
    (hz : Sl w 1 z1 xs.length (ints xs)) (hzl : xs.length ≤ 9223372036854775807) (hzr : ∀ x ∈ xs, -9223372036854775808 ≤ x ∧ x ≤ 9223372036854775807)
    (hy : Sl w 1 z2 ys.length (ints ys)) (hyl : ys.length ≤ 9223372036854775807) (hyr : ∀ x ∈ ys, -9223372036854775808 ≤ x ∧ x ≤ 9223372036854775807) :
    Calls Try.prog 5 #[z1, z2] w (RetBe w true) := by
  have HK := Lib.hid (ksnap_any z1 xs w hz hzl hzr)
  have HY := Lib.hid (fun (W : World) (h : Below w.heap.size w W) => hy.below h)
  obtain ⟨Az, cz, rfl, _, _⟩ := hz.form
  obtain ⟨Ay, cy, rfl, _, _⟩ := hy.form
  clear hz hzl hzr hy
  go_enter Try.func5, Try.ntmps5
  go_wp2_with fail
  refine HK.out.mono ?_
  rintro e w1 ⟨sx, sq, sn, sv, sl, rfl, k1, k2, k3, k4, k5, k6, hlen, hG, hown, hb1⟩
  obtain ⟨As, cs, rfl, _, _⟩ := (Sl.of_own hown).form
  have HSB := Lib.hid (gen_snapB k1 k2 k3 k4 k5 k6 hlen hG)
  have hsm : ∀ e ∈ sl, e.small := fun e he => Ent.gen_small (hG.mem e he).1
  obtain ⟨W1, hW1⟩ : ∃ W1, W1 = w1.alloc (.cells #[.int .i64 sx, .int .i64 sq, .int .i64 sn, .slice As sl.length cs] 24) := ⟨_, rfl⟩
  have bX : Blk W1 w1.heap.size 24 #[.int .i64 sx, .int .i64 sq, .int .i64 sn, .slice As sl.length cs] := by rw [hW1]; exact Blk.new _ _ _
  have hB1 : Below w.heap.size w W1 := by rw [hW1]; exact hb1.alloc hb1.size _
  have hsl1 : Sl W1 12 (.slice As sl.length cs) sl.length (ents sl) := by rw [hW1]; exact (Sl.of_own hown).alloc _
  have HKR := Lib.hid (krecord_any sx sq sn sl ys (.slice As sl.length cs) (.slice Ay ys.length cy) W1 hsl1 hsm (by omega) (by omega) (by omega) (by omega) (HY.out W1 hB1) hyl hyr)
  clear hb1 hG hown hyl hyr HY HK k1 k2 k3 k4 k5 k6
  have x0 := bX.cell 0
  have x1 := bX.cell 1
  have x2 := bX.cell 2
  have x3 := bX.cell 3
  simp only [List.getElem?_toArray, List.getElem?_cons_zero, List.getElem?_cons_succ] at x0 x1 x2 x3
  go_upto_region 2 with (fail)
  rw [← hW1]
  clear hW1
  go_wp2_with fail
  refine HKR.out.mono ?_
  rintro e w2 ⟨kind, ver, seq, nid, add, rem, va, vr, rfl, oA, oR, hsa, hal, hrl, hb2⟩
  obtain ⟨AA, cA, rfl, _, _⟩ := (Sl.of_own oA).form
  obtain ⟨AR, cR, rfl, _, _⟩ := (Sl.of_own oR).form
  obtain ⟨W2, hW2⟩ : ∃ W2, W2 = w2.alloc (.cells #[.int .i64 kind, .int .i64 ver, .int .i64 seq, .int .i64 nid, .slice AA add.length cA, .slice AR rem.length cR] 38) := ⟨_, rfl⟩
  have hab : Below w2.heap.size w2 W2 := by rw [hW2]; exact abel _ _
  have bY : Blk W2 w2.heap.size 38 #[.int .i64 kind, .int .i64 ver, .int .i64 seq, .int .i64 nid, .slice AA add.length cA, .slice AR rem.length cR] := by rw [hW2]; exact Blk.new _ _ _
  have bX2 := (bX.below hb2 bX.lt).below hab (bX.below hb2 bX.lt).lt
  have hB2 := bst (bst hB1 hb2) hab
  have hslX := (hsl1.below hb2).below hab
  have hslA := (Sl.of_own oA).below hab
  have hslR := (Sl.of_own oR).below hab
  have HAP := Lib.hid (apply_any sx sq sn sl kind ver seq nid add rem (.slice As sl.length cs) (.slice AA add.length cA) (.slice AR rem.length cR) W2 hslX hsm (by omega) hslA hsa (by omega) hslR (by omega))
  clear hB1 hb2 hab bX oA oR hsl1 x0 x1 x2 x3 HKR
  have x0 := bX2.cell 0
  have x1 := bX2.cell 1
  have x2 := bX2.cell 2
  have x3 := bX2.cell 3
  have y0 := bY.cell 0
  have y1 := bY.cell 1
  have y2 := bY.cell 2
  have y3 := bY.cell 3
  have y4 := bY.cell 4
  have y5 := bY.cell 5
  simp only [List.getElem?_toArray, List.getElem?_cons_zero, List.getElem?_cons_succ] at x0 x1 x2 x3 y0 y1 y2 y3 y4 y5
  obtain ⟨res, hres⟩ : ∃ res, applyV ⟨sx, sq, sn, sl⟩ ⟨kind, ver, seq, nid, add, rem⟩ = res := ⟨_, rfl⟩
  rw [hres] at HAP
  go_upto_region 3 with (fail)
  rw [← hW2]
  clear hW2
  go_wp2_with fail
  refine HAP.out.mono ?_
  rintro e w3 ⟨vz, rfl, oZ, hb3⟩
  obtain ⟨AZ, cZ, rfl, _, _⟩ := (Sl.of_own oZ).form
  obtain ⟨err, zx, zq, zn, zl⟩ := res
  simp only at oZ hres ⊢
  obtain ⟨W3, hW3⟩ : ∃ W3, W3 = w3.alloc (.cells #[.int .i64 zx, .int .i64 zq, .int .i64 zn, .slice AZ zl.length cZ] 24) := ⟨_, rfl⟩
  have hab : Below w3.heap.size w3 W3 := by rw [hW3]; exact abel _ _
  have bZ : Blk W3 w3.heap.size 24 #[.int .i64 zx, .int .i64 zq, .int .i64 zn, .slice AZ zl.length cZ] := by rw [hW3]; exact Blk.new _ _ _
  have HbX := Lib.hid ((bX2.below hb3 bX2.lt).below hab (bX2.below hb3 bX2.lt).lt)
  have HbY := Lib.hid ((bY.below hb3 bY.lt).below hab (bY.below hb3 bY.lt).lt)
  have HbZ := Lib.hid bZ
  have HB3 := Lib.hid (bst (bst hB2 hb3) hab)
  have HslX := Lib.hid ((hslX.below hb3).below hab)
  have HslA := Lib.hid ((hslA.below hb3).below hab)
  have HslR := Lib.hid ((hslR.below hb3).below hab)
  have HslZ := Lib.hid ((Sl.of_own oZ).below hab)
  have HRES := Lib.hid hres
  clear bX2 bY bZ hB2 hb3 hab hslX hslA hslR oZ hres x0 x1 x2 x3 y0 y1 y2 y3 y4 y5 HAP
  go_upto_region 4 with (fail)
  rw [← hW3]
  clear hW3
  by_cases herr : err = 0
  case neg =>
    have t1 : (err != 0) = true := by simpa using herr
    have hzn : zl = [] := by
      have h1 := applyV_err (s := ⟨sx, sq, sn, sl⟩) (r := ⟨kind, ver, seq, nid, add, rem⟩) (by rw [HRES.out]; exact herr)
      rw [HRES.out] at h1
      have h2 := congrArg Snp.l h1
      exact h2
    subst hzn
    clear herr
    go_wp2_with fail
    refine (awake20_any W3).mono ?_
    rintro _ w4 ⟨rfl, hb4⟩
    have z3 := (HbZ.out.below hb4 HbZ.out.lt).cell 3
    simp only [List.getElem?_toArray, List.getElem?_cons_zero, List.getElem?_cons_succ] at z3
    have HB4 := Lib.hid (bst HB3.out hb4)
    clear hb4
    go_wp2
    go_ret
    exact RetBe.mk_ rfl HB4.out
  subst herr
  have HOK := Lib.hid (applyV_ok HRES.out)
  have x3 := HbX.out.cell 3
  simp only [List.getElem?_toArray, List.getElem?_cons_zero, List.getElem?_cons_succ] at x3
  go_wp2
  clear x3
  go_loopw [40, 9] (fun i n wr => ∃ k : Nat, i = .int .i64 k ∧ k ≤ sl.length ∧ n = .int .i64 (cntTo sl rem k) ∧ Below W3.heap.size W3 wr) (fun i _ _ => sl.length - (intOf i).toNat)
  case atStart => exact ⟨0, rfl, Nat.zero_le _, rfl, Below.refl _ _⟩
  case round =>
    obtain ⟨k, rfl, hk, rfl, hb⟩ := hrel
    by_cases hlt : k < sl.length
    · obtain ⟨ad, e, p, rfl, he, hp, hE⟩ := (HslX.out.below hb).ent_load rfl hlt
      have HE := Lib.hid he
      obtain ⟨i1, ro1, li1, ⟨b1, n1, s1, q1⟩, ⟨b2, n2, s2, q2⟩, de1⟩ := e
      obtain ⟨hplt, c0, c1, c2, c3, c4, c5, c6, c7, c8, c9, c10, c11⟩ := hE
      clear he
      obtain ⟨Wb, hWb⟩ : ∃ Wb, Wb = wr.alloc (.cells #[.int .i64 i1, .int .i64 ro1, .int .i64 li1, .bool b1, .int .i64 n1, .string s1, .int .i64 q1, .bool b2, .int .i64 n2, .string s2, .int .i64 q2, .int .i64 de1] 34) := ⟨_, rfl⟩
      have bE : Blk Wb wr.heap.size 34 #[.int .i64 i1, .int .i64 ro1, .int .i64 li1, .bool b1, .int .i64 n1, .string s1, .int .i64 q1, .bool b2, .int .i64 n2, .string s2, .int .i64 q2, .int .i64 de1] := by rw [hWb]; exact Blk.new _ _ _
      have hbW : Below W3.heap.size W3 Wb := by rw [hWb]; exact hb.alloc hb.size _
      have y5 := (HbY.out.below hbW HbY.out.lt).cell 5
      simp only [List.getElem?_toArray, List.getElem?_cons_zero, List.getElem?_cons_succ] at y5
      go_upto_region 11 with (fail)
      rw [← hWb]
      clear hWb hb
      go_wp2
      clear y5
      have hwr := bE.lt
      have HbW := Lib.hid hbW
      obtain ⟨wo, rfl⟩ : ∃ wo : World, wo = wr := ⟨_, rfl⟩
      clear c0 c1 c2 c3 c4 c5 c6 c7 c8 c9 c10 c11
      go_loopw [47, 12] (fun i g wr => ∃ j : Nat, i = .int .i64 j ∧ j ≤ rem.length ∧ g = .bool (goneTo rem j i1) ∧ wr = Wb) (fun i _ _ => rem.length - (intOf i).toNat)
      case atStart => exact ⟨0, rfl, Nat.zero_le _, rfl, rfl⟩
      case round =>
        obtain ⟨j, rfl, hj, rfl, rfl⟩ := hrel
        by_cases hlt2 : j < rem.length
        · obtain ⟨ad2, x, rfl, hx, hcx⟩ := (HslR.out.below hbW).int_at hlt2
          have HN := Lib.hid (goneTo_next (i := i1) hx)
          clear hx
          have d0 := bE.cell 0
          simp only [List.getElem?_toArray, List.getElem?_cons_zero] at d0
          cases hg : goneTo rem j i1 with
          | true =>
            have HG := Lib.hid (show goneTo rem (j + 1) i1 = true by rw [HN.out, hg]; rfl)
            clear hg
            go_wp2
            go_roundw
            case rel => exact ⟨j + 1, by go_num, by omega, by rw [HG.out], by first | rfl | trivial⟩
            case measure => simp [intOf]; omega
          | false =>
            have HG := Lib.hid (show goneTo rem (j + 1) i1 = (x == i1) by rw [HN.out, hg]; rfl)
            clear hg
            obtain ⟨bq, hbq⟩ : ∃ bq, (x == i1) = bq := ⟨_, rfl⟩
            rw [hbq] at HG
            go_wp2
            go_roundw
            case rel => exact ⟨j + 1, by go_num, by omega, by rw [HG.out], by first | rfl | trivial⟩
            case measure => simp [intOf]; omega
        · have hgo : goneTo rem j i1 = decide (i1 ∈ rem) := goneTo_all (by omega)
          rw [hgo]
          clear hgo
          by_cases hm : i1 ∈ rem
          · have HC := Lib.hid (show cntTo sl rem (k + 1) = cntTo sl rem k by rw [cntTo_next HE.out, if_pos hm]; rfl)
            rw [decide_eq_true hm]
            clear hm
            go_wp2
            go_roundw
            case rel => exact ⟨k + 1, by go_num, by omega, by rw [HC.out], HbW.out⟩
            case measure => simp [intOf]; omega
          · have HC := Lib.hid (show cntTo sl rem (k + 1) = cntTo sl rem k + 1 by rw [cntTo_next HE.out, if_neg hm])
            have hin : hasE zl ⟨i1, ro1, li1, ⟨b1, n1, s1, q1⟩, ⟨b2, n2, s2, q2⟩, de1⟩ = true := hasE_iff.2 ((applyV_mem HRES.out).2 (.inl ⟨List.mem_of_getElem? HE.out, hm⟩))
            have HH := Lib.hid (has20_any (.slice AZ zl.length cZ) zl i1 ro1 li1 n1 q1 n2 q2 de1 b1 b2 s1 s2 wr (HslZ.out.below hbW) (by have := applyV_256 HRES.out; simp only at this; omega))
            rw [hin] at HH
            rw [decide_eq_false hm]
            have hcl := cntTo_le sl rem k
            have z3 := (HbZ.out.below hbW HbZ.out.lt).cell 3
            simp only [List.getElem?_toArray, List.getElem?_cons_zero, List.getElem?_cons_succ] at z3
            have d0 := bE.cell 0
            have d1 := bE.cell 1
            have d2 := bE.cell 2
            have d3 := bE.cell 3
            have d4 := bE.cell 4
            have d5 := bE.cell 5
            have d6 := bE.cell 6
            have d7 := bE.cell 7
            have d8 := bE.cell 8
            have d9 := bE.cell 9
            have d10 := bE.cell 10
            have d11 := bE.cell 11
            simp only [List.getElem?_toArray, List.getElem?_cons_zero, List.getElem?_cons_succ] at d0 d1 d2 d3 d4 d5 d6 d7 d8 d9 d10 d11
            clear hm hin
            go_wp2_with fail
            refine HH.out.mono ?_
            rintro _ w5 ⟨rfl, hb5⟩
            have HB5 := Lib.hid (bst HbW.out hb5)
            clear hb5 z3 d0 d1 d2 d3 d4 d5 d6 d7 d8 d9 d10 d11
            go_wp2
            go_roundw
            case rel => exact ⟨k + 1, by go_num, by omega, by rw [HC.out]; go_num, HB5.out⟩
            case measure => simp [intOf]; omega
    · have hkl : k = sl.length := by omega
      have HCN := Lib.hid (show cntTo sl rem k = (sl.filter fun e => decide (e.id ∉ rem)).length by rw [hkl]; unfold cntTo; rw [List.take_length])
      have hcl := cntTo_le sl rem k
      obtain ⟨cn, hcn⟩ : ∃ cn, cntTo sl rem k = cn := ⟨_, rfl⟩
      rw [hcn] at HCN hcl ⊢
      have hyb := HbY.out.below hb HbY.out.lt
      have y0 := hyb.cell 0
      have y1 := hyb.cell 1
      have y2 := hyb.cell 2
      have y3 := hyb.cell 3
      have y4 := hyb.cell 4
      have y5 := hyb.cell 5
      simp only [List.getElem?_toArray, List.getElem?_cons_zero, List.getElem?_cons_succ] at y0 y1 y2 y3 y4 y5
      have HB := Lib.hid hb
      clear hkl hcn hyb hb
      obtain ⟨wo, rfl⟩ : ∃ wo : World, wo = wr := ⟨_, rfl⟩
      go_wp2
      clear y0 y1 y2 y3 y4 y5
      go_loopw [76] (fun i wr => ∃ k2 : Nat, i = .int .i64 k2 ∧ k2 ≤ add.length ∧ Below W3.heap.size W3 wr) (fun i _ => add.length - (intOf i).toNat)
      case atStart => exact ⟨0, rfl, Nat.zero_le _, HB.out⟩
      case round =>
        obtain ⟨k2, rfl, hk2, hb⟩ := hrel
        by_cases hlt2 : k2 < add.length
        · obtain ⟨ad, e, p, rfl, he, hp, hE⟩ := (HslA.out.below hb).ent_load rfl hlt2
          have HE := Lib.hid he
          obtain ⟨i1, ro1, li1, ⟨b1, n1, s1, q1⟩, ⟨b2, n2, s2, q2⟩, de1⟩ := e
          obtain ⟨hplt, c0, c1, c2, c3, c4, c5, c6, c7, c8, c9, c10, c11⟩ := hE
          clear he
          obtain ⟨Wb, hWb⟩ : ∃ Wb, Wb = wr.alloc (.cells #[.int .i64 i1, .int .i64 ro1, .int .i64 li1, .bool b1, .int .i64 n1, .string s1, .int .i64 q1, .bool b2, .int .i64 n2, .string s2, .int .i64 q2, .int .i64 de1] 34) := ⟨_, rfl⟩
          have bE : Blk Wb wr.heap.size 34 #[.int .i64 i1, .int .i64 ro1, .int .i64 li1, .bool b1, .int .i64 n1, .string s1, .int .i64 q1, .bool b2, .int .i64 n2, .string s2, .int .i64 q2, .int .i64 de1] := by rw [hWb]; exact Blk.new _ _ _
          have hbW : Below W3.heap.size W3 Wb := by rw [hWb]; exact hb.alloc hb.size _
          have hin : hasE zl ⟨i1, ro1, li1, ⟨b1, n1, s1, q1⟩, ⟨b2, n2, s2, q2⟩, de1⟩ = true := hasE_iff.2 ((applyV_mem HRES.out).2 (.inr (List.mem_of_getElem? HE.out)))
          have HH := Lib.hid (has20_any (.slice AZ zl.length cZ) zl i1 ro1 li1 n1 q1 n2 q2 de1 b1 b2 s1 s2 Wb (HslZ.out.below hbW) (by have := applyV_256 HRES.out; simp only at this; omega))
          rw [hin] at HH
          have z3 := (HbZ.out.below hbW HbZ.out.lt).cell 3
          simp only [List.getElem?_toArray, List.getElem?_cons_zero, List.getElem?_cons_succ] at z3
          have d0 := bE.cell 0
          have d1 := bE.cell 1
          have d2 := bE.cell 2
          have d3 := bE.cell 3
          have d4 := bE.cell 4
          have d5 := bE.cell 5
          have d6 := bE.cell 6
          have d7 := bE.cell 7
          have d8 := bE.cell 8
          have d9 := bE.cell 9
          have d10 := bE.cell 10
          have d11 := bE.cell 11
          simp only [List.getElem?_toArray, List.getElem?_cons_zero, List.getElem?_cons_succ] at d0 d1 d2 d3 d4 d5 d6 d7 d8 d9 d10 d11
          have hwr := bE.lt
          have HbW := Lib.hid hbW
          clear hin hb hbW bE
          go_upto_region 24 with (fail)
          rw [← hWb]
          clear hWb c0 c1 c2 c3 c4 c5 c6 c7 c8 c9 c10 c11
          go_wp2_with fail
          refine HH.out.mono ?_
          rintro _ w5 ⟨rfl, hb5⟩
          have HB5 := Lib.hid (bst HbW.out hb5)
          clear hb5 z3 d0 d1 d2 d3 d4 d5 d6 d7 d8 d9 d10 d11
          go_wp2
          go_roundw
          case rel => exact ⟨k2 + 1, by go_num, by omega, HB5.out⟩
          case measure => simp [intOf]; omega
        · have HB2 := Lib.hid hb
          obtain ⟨hkz, hrz, hk3, hver, _, _, _, hz, hzok, _⟩ := HOK.out
          have HZK := Lib.hid hzok
          injection hz with e1 e2 e3 e4
          have hlz : zl.length = cn + add.length := by have := applyV_len HRES.out; simp only at this; rw [HCN.out]; exact this
          have q1 : ((zl.length : Int) == (cn : Int) + (add.length : Int)) = true := by simp; omega
          have q2 : (zx == sx + 1) = true := by rw [e1]; simpa using hver
          have q3 : (zq == seq) = true := by rw [e2]; simp
          have q4 : (zn == nid) = true := by rw [e3]; simp
          have hsxr : 0 ≤ sx ∧ sx ≤ 2147483647 := ⟨(snapB_parts HSB.out).1.1, (snapB_parts HSB.out).1.2.1⟩
          have hzsm : ∀ e ∈ zl, e.small := fun e he => by
            rcases (applyV_mem HRES.out).1 he with ⟨h, _⟩ | h
            · exact hsm e h
            · exact hsa e h
          have hz256 : zl.length ≤ 256 := applyV_256 HRES.out
          clear e1 e2 e3 e4 hlz hver hrz hk3 hkz hzok hsm hsa
          go_wp2_with fail
          refine (awake20_any wr).mono ?_
          rintro _ w4 ⟨rfl, hb4⟩
          have hb5 := bst HB2.out hb4
          have hxb := HbX.out.below hb5 HbX.out.lt
          have hyb := HbY.out.below hb5 HbY.out.lt
          have hzb := HbZ.out.below hb5 HbZ.out.lt
          have x0 := hxb.cell 0
          have x1 := hxb.cell 1
          have x2 := hxb.cell 2
          have x3 := hxb.cell 3
          simp only [List.getElem?_toArray, List.getElem?_cons_zero, List.getElem?_cons_succ] at x0 x1 x2 x3
          have y0 := hyb.cell 0
          have y1 := hyb.cell 1
          have y2 := hyb.cell 2
          have y3 := hyb.cell 3
          have y4 := hyb.cell 4
          have y5 := hyb.cell 5
          simp only [List.getElem?_toArray, List.getElem?_cons_zero, List.getElem?_cons_succ] at y0 y1 y2 y3 y4 y5
          have z0 := hzb.cell 0
          have z1 := hzb.cell 1
          have z2 := hzb.cell 2
          have z3 := hzb.cell 3
          simp only [List.getElem?_toArray, List.getElem?_cons_zero, List.getElem?_cons_succ] at z0 z1 z2 z3
          have HCC := Lib.hid (snapCheck_b' (show snapB zx zq zn zl = true from HZK.out) (HslZ.out.below hb5) hzsm (show zl.length ≤ 9223372036854775807 by omega) w4 (Below.refl _ _))
          have HB5 := Lib.hid hb5
          clear hb4 hb5 hxb hyb hzb
          go_wp2_with fail
          refine HCC.out.mono ?_
          rintro _ w6 ⟨rfl, hb6⟩
          have HB6 := Lib.hid (bst HB3.out (bst HB5.out hb6))
          clear hb6
          go_wp2
          go_ret
          exact RetBe.mk_ rfl HB6.out
end Go.Proofs.Ytoikgjhekemjdaa
