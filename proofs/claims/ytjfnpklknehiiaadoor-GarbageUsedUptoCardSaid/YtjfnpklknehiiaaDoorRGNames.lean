/-
  The contract of ref27.Names.
-/
import Derived.Test.YtjfnpklknehiiaaDoorRPut
import Derived.Test.YtjfnpklknehiiaaDoorGarbNames
import Derived.Test.YtjfnpklknehiiaaDoorSnL
namespace Go.Proofs.YtjfnpklknehiiaaDoor
open Go.RowKit
theorem bsN_of {s : ByteArray} {l : Nm} (h : s.data.toList = l) : s = bsN l := by subst h; simp [bsN]
def allE (h : List Snp) : List Ent := h.flatMap (·.l)
def refE (e : Ent) : List Nm := nameL 80 e.id :: (if e.del = 0 then [] else [nameL 68 e.del])
def refS (log : Int) (es : List Ent) : List Nm := nameL 77 log :: es.flatMap refE
def refN (log : Int) (es : List Ent) : List Nm := (refS log es).foldl insN []
theorem allE_next {h : List Snp} {k : Nat} {s : Snp} (hk : h[k]? = some s) : allE (h.take (k + 1)) = allE (h.take k) ++ s.l := by
  unfold allE; rw [List.take_add_one, hk]; simp
theorem allE_le (h : List Snp) (k : Nat) : (allE (h.take k)).length ≤ (allE h).length := by
  have : allE h = allE (h.take k) ++ allE (h.drop k) := by unfold allE; rw [← List.flatMap_append, List.take_append_drop]
  rw [this, List.length_append]; omega
theorem refN_next {log : Int} {es : List Ent} {k : Nat} {e : Ent} (hk : es[k]? = some e) : refN log (es.take (k + 1)) = if e.del = 0 then insN (refN log (es.take k)) (nameL 80 e.id) else insN (insN (refN log (es.take k)) (nameL 80 e.id)) (nameL 68 e.del) := by
  unfold refN refS
  rw [List.take_add_one, hk]
  simp only [List.flatMap_append, Option.toList_some, List.flatMap_cons, List.flatMap_nil, List.append_nil, ← List.cons_append, List.foldl_append]
  unfold refE
  by_cases h : e.del = 0
  · rw [if_pos h, if_pos h]; rfl
  · rw [if_neg h, if_neg h]; rfl
theorem insN_len (l : List Nm) (s : Nm) : (insN l s).length ≤ l.length + 1 := by
  unfold insN
  split
  · omega
  · have e := congrArg List.length (List.takeWhile_append_dropWhile (p := fun x => decide (x < s)) (l := l))
    rw [List.length_append] at e
    simp only [List.length_append, List.length_singleton]; omega
theorem refN_len (log : Int) (es : List Ent) (k : Nat) : (refN log (es.take k)).length ≤ 2 * k + 1 := by
  induction k with
  | zero => unfold refN refS; simp only [List.take_zero, List.flatMap_nil, List.foldl_cons, List.foldl_nil]; exact insN_len [] _
  | succ k ih =>
    cases he : es[k]? with
    | none => rw [List.take_add_one, he]; simp; omega
    | some e =>
      rw [refN_next he]
      split
      · have := insN_len (refN log (es.take k)) (nameL 80 e.id); omega
      · have h1 := insN_len (refN log (es.take k)) (nameL 80 e.id)
        have h2 := insN_len (insN (refN log (es.take k)) (nameL 80 e.id)) (nameL 68 e.del); omega
set_option maxRecDepth 100000 in
set_option maxHeartbeats 8000000 in
theorem rnames_any (vh ve : Value) (h : List Snp) (extra : List Ent) (log : Int) (w : World) (hs : SlSn w vh h) (he : Sl w 12 ve extra.length (ents extra)) (hT : extra.length + (allE h).length ≤ 10000000) :
    Calls Tryd.prog 10 #[vh, .int .i64 log, ve] w (RetNs w w.heap.size (refN log (extra ++ allE h))) := by
  obtain ⟨A, c, rfl, hc1, hc2⟩ := hs.form
  obtain ⟨Ae, ce, rfl, _, _⟩ := he.form
  unfold maxLen at hc2
  have HL0 := Lib.hid (rlog_any log w)
  go_enter Tryd.func10, Tryd.ntmps10
  go_wp2_with fail
  refine HL0.out.mono ?_
  rintro _ _ ⟨rfl, rfl⟩
  clear HL0
  have HP0 := Lib.hid (rput_any (.slice none 0 0) w.heap.size [] (nameL 77 log) w (World.ownsRow_nil _ _ _ _) (by simp) (Nat.le_refl _))
  go_wp2_with fail
  refine HP0.out.mono ?_
  rintro _ w1 ⟨v1, rfl, ho1, hb1⟩
  have O1 := Lib.hid (show w1.ownsRow w.heap.size 9 1 v1 (refN log []).length (strN (refN log [])) from ho1)
  have B1 := Lib.hid hb1
  have SE1 := he.below hb1
  clear ho1 hb1 HP0
  obtain ⟨X, hX⟩ : ∃ X, extra.length = X := ⟨_, rfl⟩
  rw [hX] at SE1 hT ⊢
  have HX := Lib.hid hX
  clear hX he
  go_wp2_with (at_builtin; go_must (refine appN _ _ (World.ownsRow_nil w1 w1.heap.size 40 12) SE1 (Nat.le_refl _) under_entry info_entry rfl (by decide) (one_ents' _) (by omega) (by omega) rfl rfl rfl rfl ?_))
  intro v2 w2 ho2 hg2 _
  have hb2 : Below w1.heap.size w1 w2 := ⟨hg2.os, hg2.tape, hg2.output, hg2.size, fun i hi => hg2.block i hi (by simp [Value.ownBlock])⟩
  have A2 := Lib.hid (show w2.ownsRow w1.heap.size 40 12 v2 (extra ++ allE (h.take 0)).length (ents (extra ++ allE (h.take 0))) by simpa [allE, HX.out] using ho2)
  have B2 := Lib.hid (bst B1.out hb2)
  have O2 := Lib.hid (own_below O1.out hb2)
  have HT := Lib.hid hT
  have HS12 := Lib.hid hb2.size
  have HB1 := Lib.hid B1.out.size
  clear ho2 hg2 hb2 SE1
  go_wp2
  go_loopw [8, 20] (fun v8 i wr => ∃ k : Nat, i = .int .i64 k ∧ k ≤ h.length ∧ wr.ownsRow w1.heap.size 40 12 v8 (extra ++ allE (h.take k)).length (ents (extra ++ allE (h.take k))) ∧ wr.ownsRow w.heap.size 9 1 v1 (refN log []).length (strN (refN log [])) ∧ Below w.heap.size w wr ∧ w1.heap.size ≤ wr.heap.size) (fun _ i _ => h.length - (intOf i).toNat)
  case atStart => exact ⟨0, rfl, by omega, A2.out, O2.out, B2.out, HS12.out⟩
  case round =>
    obtain ⟨k, rfl, hk, hown, hnm, hbel, hw1r⟩ := hrel
    by_cases hlt : k < h.length
    · obtain ⟨ad, s, u, p, rfl, hse, hp, hSA, hSl⟩ := (hs.below hbel).load rfl hlt
      obtain ⟨hplt, c0, c1, c2, c3⟩ := hSA
      obtain ⟨AL, cL, rfl, hL1, hL2⟩ := hSl.form
      have HSE := Lib.hid hse
      have HLT := Lib.hid hlt
      have HNX := Lib.hid (show extra ++ allE (h.take (k + 1)) = (extra ++ allE (h.take k)) ++ s.l by rw [allE_next hse, List.append_assoc])
      have hle : (extra ++ allE (h.take k)).length + s.l.length ≤ 10000000 := by
        have h1 := allE_le h (k + 1)
        rw [allE_next hse, List.length_append] at h1
        rw [List.length_append, HX.out]; omega
      obtain ⟨ac, hac⟩ : ∃ ac, (extra ++ allE (h.take k)) = ac := ⟨_, rfl⟩
      rw [hac] at hown HNX hle
      obtain ⟨Q, hQ⟩ : ∃ Q, ac.length = Q := ⟨_, rfl⟩
      obtain ⟨Z, hZ⟩ : ∃ Z, s.l.length = Z := ⟨_, rfl⟩
      rw [hQ] at hown hle
      rw [hZ] at hle hSl c3 hL1
      have HQ := Lib.hid hQ
      have HZ := Lib.hid hZ
      clear hse hac hQ hZ
      go_upto_region 6 with (fail)
      obtain ⟨w3, hw3⟩ : ∃ w3, w3 = wr.alloc (.cells #[.int .i64 s.ver, .int .i64 s.seq, .int .i64 s.nid, .slice AL Z cL] 34) := ⟨_, rfl⟩
      obtain ⟨B, hB⟩ : ∃ B, wr.heap.size = B := ⟨_, rfl⟩
      have BS := Lib.hid (show Blk w3 B 34 #[.int .i64 s.ver, .int .i64 s.seq, .int .i64 s.nid, .slice AL Z cL] by rw [hw3, ← hB]; exact Blk.new _ _ _)
      have hb3 : Below wr.heap.size wr w3 := by rw [hw3]; exact abel _ _
      have O3 := Lib.hid (own_below hown hb3)
      have N3 := Lib.hid (own_below hnm hb3)
      have B3 := Lib.hid (bst hbel hb3)
      have SL3 := Lib.hid (hSl.below hb3)
      have HW13 := Lib.hid (Nat.le_trans hw1r hb3.size)
      rw [← hw3]
      simp only [hB]
      clear hw3 hown hnm hbel hSl hb3 hB c0 c1 c2 c3 hplt
      have bb := BS.out
      have n0 := bb.cell 0
      have n1 := bb.cell 1
      have n2 := bb.cell 2
      have n3 := bb.cell 3
      simp only [List.getElem?_toArray, List.getElem?_cons_zero, List.getElem?_cons_succ] at n0 n1 n2 n3
      clear bb
      have o3 := O3.out
      have s3 := SL3.out
      have hw13 := HW13.out
      go_wp2_with (at_builtin; go_must (refine appN _ _ o3 s3 hw13 under_entry info_entry rfl (by decide) (one_ents' _) (by omega) (by omega) rfl rfl rfl rfl ?_))
      intro v4 w4 ho4 hg4 hor4
      have O4 := Lib.hid (show w4.ownsRow w1.heap.size 40 12 v4 (extra ++ allE (h.take (k + 1))).length (ents (extra ++ allE (h.take (k + 1)))) by
        rw [HNX.out, ents_append, List.length_append, HQ.out, HZ.out]; exact ho4)
      have N4 := Lib.hid (own_grown N3.out hg4 (fun b hb e => own_ne N3.out O3.out (by decide) b hb e))
      have B4 := Lib.hid (B3.out.grown hg4 B3.out.size (fun b hb => Nat.le_trans HB1.out (O3.out.lt b hb).1))
      have HW14 := Lib.hid (Nat.le_trans HW13.out hg4.size)
      clear ho4 hg4 hor4 n0 n1 n2 n3 o3 s3 hw13
      go_wp2
      go_roundw
      case rel => exact ⟨k + 1, by go_num, HLT.out, O4.out, N4.out, B4.out, HW14.out⟩
      case measure => have := HLT.out; simp [intOf]; omega
    · rw [List.take_of_length_le (show h.length ≤ k by omega)] at hown
      obtain ⟨es, hes⟩ : ∃ es, extra ++ allE h = es := ⟨_, rfl⟩
      rw [hes] at hown ⊢
      have hel : es.length ≤ 10000000 := by rw [← hes, List.length_append, HX.out]; omega
      obtain ⟨AE, cE, rfl, hE1, hE2⟩ := (Sl.of_own hown).form
      unfold maxLen at hE2
      have HE := Lib.hid hown
      have HNM := Lib.hid hnm
      have HBL := Lib.hid hbel
      have HW := Lib.hid hbel.size
      have HES := Lib.hid hes
      clear hown hnm hbel hes
      obtain ⟨wq, rfl⟩ : ∃ wq : World, wq = wr := ⟨_, rfl⟩
      go_wp2
      go_loopw [7, 31] (fun v7 i wr => ∃ k : Nat, i = .int .i64 k ∧ k ≤ es.length ∧ wr.ownsRow w.heap.size 9 1 v7 (refN log (es.take k)).length (strN (refN log (es.take k))) ∧ Below w.heap.size w wr ∧ Below wq.heap.size wq wr) (fun _ i _ => es.length - (intOf i).toNat)
      case atStart => exact ⟨0, rfl, by omega, HNM.out, HBL.out, Below.refl _ _⟩
      case round =>
        obtain ⟨k2, rfl, hk2, hown, hbel, hbq⟩ := hrel
        by_cases hlt2 : k2 < es.length
        · obtain ⟨ade, e, pe, hA, hee, hpe, hE⟩ := ((Sl.of_own HE.out).below hbq).ent_load rfl hlt2
          cases hA
          obtain ⟨hplt, c0, c1, c2, c3, c4, c5, c6, c7, c8, c9, c10, c11⟩ := hE
          have HLT := Lib.hid hlt2
          have HNX := Lib.hid (refN_next (log := log) hee)
          have HRL := Lib.hid (refN_len log es k2)
          clear hee
          obtain ⟨cur, hcur⟩ : ∃ cur, refN log (es.take k2) = cur := ⟨_, rfl⟩
          rw [hcur] at hown HNX HRL
          clear hcur
          go_upto_region 11 with (fail)
          obtain ⟨w5, hw5⟩ : ∃ w5, w5 = wr.alloc (.cells #[.int .i64 e.id, .int .i64 e.rows, .int .i64 e.live, .bool e.lo.null, .int .i64 e.lo.n, .string e.lo.s, .int .i64 e.lo.seq, .bool e.hi.null, .int .i64 e.hi.n, .string e.hi.s, .int .i64 e.hi.seq, .int .i64 e.del] 40) := ⟨_, rfl⟩
          obtain ⟨NE, hNE⟩ : ∃ NE, wr.heap.size = NE := ⟨_, rfl⟩
          have BE := Lib.hid (show Blk w5 NE 40 #[.int .i64 e.id, .int .i64 e.rows, .int .i64 e.live, .bool e.lo.null, .int .i64 e.lo.n, .string e.lo.s, .int .i64 e.lo.seq, .bool e.hi.null, .int .i64 e.hi.n, .string e.hi.s, .int .i64 e.hi.seq, .int .i64 e.del] by rw [hw5, ← hNE]; exact Blk.new _ _ _)
          have hb5 : Below wr.heap.size wr w5 := by rw [hw5]; exact abel _ _
          have O5 := Lib.hid (own_below hown hb5)
          have B5 := Lib.hid (bst hbel hb5)
          have Q5 := Lib.hid (bst hbq hb5)
          rw [← hw5]
          simp only [hNE]
          clear hw5 hNE hb5 hown hbel hbq c0 c1 c2 c3 c4 c5 c6 c7 c8 c9 c10 c11 hplt
          have bb := BE.out
          have n0 := bb.cell 0
          have n1 := bb.cell 1
          have n2 := bb.cell 2
          have n3 := bb.cell 3
          have n4 := bb.cell 4
          have n5 := bb.cell 5
          have n6 := bb.cell 6
          have n7 := bb.cell 7
          have n8 := bb.cell 8
          have n9 := bb.cell 9
          have n10 := bb.cell 10
          have n11 := bb.cell 11
          simp only [List.getElem?_toArray, List.getElem?_cons_zero, List.getElem?_cons_succ] at n0 n1 n2 n3 n4 n5 n6 n7 n8 n9 n10 n11
          clear bb
          have HPA := Lib.hid (rpart_any e.id w5)
          have HPU := Lib.hid (fun v => fun h => rput_any v w.heap.size cur (nameL 80 e.id) w5 h (by have := HRL.out; omega) B5.out.size)
          go_wp2_with fail
          refine HPA.out.mono ?_
          rintro _ _ ⟨rfl, rfl⟩
          clear HPA
          go_wp2_with fail
          refine (HPU.out _ O5.out).mono ?_
          rintro _ w6 ⟨v6, rfl, ho6, hb6⟩
          have BE6 := Lib.hid (BE.out.below hb6 BE.out.lt)
          have O6 := Lib.hid ho6
          have B6 := Lib.hid (bst B5.out hb6)
          have Q6 := Lib.hid (bst Q5.out hb6)
          clear ho6 hb6 HPU n0 n1 n2 n3 n4 n5 n6 n7 n8 n9 n10 n11
          have bb := BE6.out
          have n0 := bb.cell 0
          have n1 := bb.cell 1
          have n2 := bb.cell 2
          have n3 := bb.cell 3
          have n4 := bb.cell 4
          have n5 := bb.cell 5
          have n6 := bb.cell 6
          have n7 := bb.cell 7
          have n8 := bb.cell 8
          have n9 := bb.cell 9
          have n10 := bb.cell 10
          have n11 := bb.cell 11
          simp only [List.getElem?_toArray, List.getElem?_cons_zero, List.getElem?_cons_succ] at n0 n1 n2 n3 n4 n5 n6 n7 n8 n9 n10 n11
          clear bb
          by_cases hd : e.del = 0
          · have t1 : (e.del != 0) = false := by simp [hd]
            have HN1 := Lib.hid (show refN log (es.take (k2 + 1)) = insN cur (nameL 80 e.id) by rw [HNX.out, if_pos hd])
            clear hd
            go_wp2
            go_roundw
            case rel => exact ⟨k2 + 1, by go_num, HLT.out, by rw [HN1.out]; exact O6.out, B6.out, Q6.out⟩
            case measure => have := HLT.out; simp [intOf]; omega
          · have t1 : (e.del != 0) = true := by simpa using hd
            have HN1 := Lib.hid (show refN log (es.take (k2 + 1)) = insN (insN cur (nameL 80 e.id)) (nameL 68 e.del) by rw [HNX.out, if_neg hd])
            have HPA := Lib.hid (rdel_any e.del w6)
            have HPU := Lib.hid (rput_any v6 w.heap.size (insN cur (nameL 80 e.id)) (nameL 68 e.del) w6 O6.out (by have := HRL.out; have := insN_len cur (nameL 80 e.id); omega) B6.out.size)
            clear hd
            go_wp2_with fail
            refine HPA.out.mono ?_
            rintro _ _ ⟨rfl, rfl⟩
            go_wp2_with fail
            refine HPU.out.mono ?_
            rintro _ w7 ⟨v7, rfl, ho7, hb7⟩
            have O7 := Lib.hid ho7
            have B7 := Lib.hid (bst B6.out hb7)
            have Q7 := Lib.hid (bst Q6.out hb7)
            clear ho7 hb7 HPU HPA n0 n1 n2 n3 n4 n5 n6 n7 n8 n9 n10 n11
            go_wp2
            go_roundw
            case rel => exact ⟨k2 + 1, by go_num, HLT.out, by rw [HN1.out]; exact O7.out, B7.out, Q7.out⟩
            case measure => have := HLT.out; simp [intOf]; omega
        · rw [List.take_of_length_le (show es.length ≤ k2 by omega)] at hown
          have OF := Lib.hid hown
          have BF := Lib.hid hbel
          clear hown hbel hbq
          go_wp2
          go_ret
          exact ⟨_, rfl, by rw [HES.out]; exact OF.out, BF.out⟩
end Go.Proofs.YtjfnpklknehiiaaDoor
