/-
  The walk of the law GarbageKeepsAll.
-/
import Derived.Test.YtjfnpklknehiiaaDoorGNames
import Derived.Test.YtjfnpklknehiiaaDoorSnaps32
import Derived.Test.YtjfnpklknehiiaaDoorGarbAwake
namespace Go.Proofs.YtjfnpklknehiiaaDoor
open Go.RowKit
def NamesOk (es : List Ent) : Prop := ∀ e ∈ es, 1 ≤ e.id ∧ e.id ≤ 1000 ∧ 0 ≤ e.del ∧ e.del ≤ 1000
theorem contN {U : List Nm} {x : Nm} (h : x ∈ U) : Lib.containsS (U.map bsN) ⟨x.toArray⟩ = true := (Lib.containsS_iff _ _).2 (List.mem_map_of_mem (f := bsN) h)
theorem name_ne {c : UInt8} {n : Int} (h1 : 1 ≤ n) (h2 : n ≤ 2147483647) : nameL c n ≠ [] := by rw [nameL_good c ⟨h1, h2⟩]; simp
theorem arr_list (x : Nm) : (⟨x.toArray⟩ : ByteArray).toList = x := by rw [Go.ByteArray.toList_eq]
/-- Whether a name is one of the first k entries'. -/
def okTo (log : Int) (es : List Ent) (s : Nm) (k : Nat) : Bool := (s == nameL 77 log) || (es.take k).any fun e => (s == nameL 80 e.id) || (decide (0 < e.del) && (s == nameL 68 e.del))
theorem okTo_next {log : Int} {es : List Ent} {s : Nm} {k : Nat} {e : Ent} (h : es[k]? = some e) : okTo log es s (k + 1) = (okTo log es s k || ((s == nameL 80 e.id) || (decide (0 < e.del) && (s == nameL 68 e.del)))) := by
  unfold okTo; rw [List.take_add_one, h, List.any_append]; simp [Bool.or_assoc]
theorem okTo_all {log : Int} {es es' : List Ent} {s : Nm} (hm : ∀ e, e ∈ es' → e ∈ es) (hn : NamesOk es) (h : s ∈ namesV (gS log es')) : okTo log es s es.length = true := by
  have h := ((namesV_is _).2 s).1 h
  unfold okTo
  rw [List.take_length]
  rcases List.mem_cons.1 h.1 with e | e
  · simp [e]
  · obtain ⟨x, hx, hs⟩ := List.mem_flatMap.1 e
    have hx' := hm x hx
    rw [Bool.or_eq_true]
    right
    rw [List.any_eq_true]
    refine ⟨x, hx', ?_⟩
    simp only [gE, List.mem_cons, List.not_mem_nil, or_false] at hs
    rcases hs with hs | hs
    · simp [hs]
    · have hd : 0 < x.del := by
        rcases Int.lt_or_le 0 x.del with h0 | h0
        · exact h0
        · exact absurd (hs.trans (nameL_bad 68 (by omega))) h.2
      simp [hs, hd]
theorem U_part {log : Int} {es es' : List Ent} (hm : ∀ e, e ∈ es → e ∈ es') (hn : NamesOk es) {e : Ent} (he : e ∈ es) : nameL 80 e.id ∈ namesV (gS log es') ∧ (0 < e.del → nameL 68 e.del ∈ namesV (gS log es')) := by
  have hk := hn e he
  refine ⟨((namesV_is _).2 _).2 ⟨List.mem_cons.2 (.inr (List.mem_flatMap.2 ⟨e, hm e he, by simp [gE]⟩)), name_ne (by omega) (by omega)⟩, fun hd => ((namesV_is _).2 _).2 ⟨List.mem_cons.2 (.inr (List.mem_flatMap.2 ⟨e, hm e he, by simp [gE]⟩)), name_ne (by omega) (by omega)⟩⟩
theorem allE_len6 : ∀ {h : List Snp}, (∀ s ∈ h, s.l.length ≤ 6) → (allE h).length ≤ 6 * h.length
  | [], _ => by simp [allE]
  | s :: r, hk => by
    have h1 := allE_len6 (h := r) fun x hx => hk x (by simp [hx])
    have h3 := hk s (by simp)
    have e : allE (s :: r) = s.l ++ allE r := by simp [allE]
    rw [e, List.length_append, List.length_cons]; omega
theorem U_log {log : Int} (h1 : 1 ≤ log) (h2 : log ≤ 1000) (es : List Ent) : nameL 77 log ∈ namesV (gS log es) := ((namesV_is _).2 _).2 ⟨List.mem_cons.2 (.inl rfl), name_ne h1 (by omega)⟩
theorem U_asc {log : Int} {es : List Ent} {k : Nat} {a b : Nm} (ha : (namesV (gS log es))[k]? = some a) (hb : (namesV (gS log es))[k + 1]? = some b) : Op.bytesLess a b = true := by
  rw [less_lex, decide_eq_true_eq]
  obtain ⟨h1, e1⟩ := List.getElem?_eq_some_iff.1 ha
  obtain ⟨h2, e2⟩ := List.getElem?_eq_some_iff.1 hb
  rw [← e1, ← e2]
  exact List.pairwise_iff_getElem.1 (namesV_is _).1 k (k + 1) h1 h2 (by omega)
theorem namesV_len (log : Int) (es : List Ent) : (namesV (gS log es)).length ≤ 2 * es.length + 1 := by
  unfold namesV
  have h1 := List.length_filter_le (fun x : Nm => !(decide (x = []))) (compN (sortN (gS log es)))
  have h2 := compN_len (sortN (gS log es))
  have h3 := (sortN_perm (gS log es)).length_eq
  have h4 := gS_len log es
  omega
set_option maxRecDepth 100000 in
set_option maxHeartbeats 8000000 in
theorem garbageKeepsAll_walk (v0 v1 : Value) (xs ys : List Int) (log : Int) (w : World) (hEnv : Env w)
    (hx : Sl w 1 v0 xs.length (ints xs)) (hxl : xs.length ≤ 9223372036854775807) (hxr : ∀ x ∈ xs, -9223372036854775808 ≤ x ∧ x ≤ 9223372036854775807)
    (hy : Sl w 1 v1 ys.length (ints ys)) (hyl : ys.length ≤ 9223372036854775807) (hyr : ∀ x ∈ ys, -9223372036854775808 ≤ x ∧ x ≤ 9223372036854775807) :
    Calls Tryd.prog 4 #[v0, v1, .int .i64 log] w fun e w' => e = .returned (.bool true) ∧ Below w.heap.size w w' := by
  obtain ⟨A0, c0, rfl, _, _⟩ := hx.form
  obtain ⟨A1, c1, rfl, _, _⟩ := hy.form
  have HEN := Lib.hid hEnv
  have C1 := Lib.hid (snaps32_any _ xs w hx hxl hxr)
  have HY := Lib.hid (fun (X : World) (hb : Below w.heap.size w X) => kentries_any _ ys 4 X (hy.below hb) hyl hyr (by omega) (by omega))
  clear hEnv hx hy hxl hyl hxr hyr
  go_enter Tryd.func4, Tryd.ntmps4
  go_wp2_with fail
  refine C1.out.mono ?_
  rintro _ w1 ⟨v1, h, rfl, ho1, hhl, hok, hb1⟩
  obtain ⟨AH, cH, rfl, hcH1, hcH2⟩ := ho1.sl.form
  have OH1 := Lib.hid ho1
  have B1 := Lib.hid hb1
  clear ho1 hb1 C1
  go_wp2_with fail
  refine (HY.out w1 B1.out).mono ?_
  rintro _ w2 ⟨v2, extra, rfl, hel, hG, ho2, hb2⟩
  obtain ⟨AE, cE, rfl, hcE1, hcE2⟩ := (Sl.of_own ho2).form
  have OE2 := Lib.hid ho2
  have OH2 := Lib.hid (OH1.out.below hb2)
  have B2 := Lib.hid (bst B1.out hb2)
  have hex : extra.length ≤ 4 := by omega
  have hall6 : ∀ k, (allE (h.take k)).length ≤ 18 := fun k => by
    have h1 := allE_le h k
    have h2 := allE_len6 (fun s hs => (hok s hs).1)
    omega
  have HOK := Lib.hid (show NamesOk (extra ++ allE h) from fun e he => by
    rcases List.mem_append.1 he with h1 | h1
    · have hg := hG.mem e h1
      have h3 := hg.1
      unfold Ent.gen at h3
      have h4 : (extra.length : Int) ≤ 4 := by omega
      have h5 := hg.2
      exact ⟨h3.1, by omega, h3.2.2.2.2.2.1, by omega⟩
    · obtain ⟨s, hs, he2⟩ := List.mem_flatMap.1 h1
      obtain ⟨hg, hi⟩ := (hok s hs).2 e he2
      unfold Ent.gen at hg
      exact ⟨hg.1, by omega, hg.2.2.2.2.2.1, by omega⟩)
  have HA6 := Lib.hid hall6
  have hall : (allE h).length ≤ 18 := by have := hall6 h.length; rwa [List.take_length] at this
  clear hok hG ho2 hb2 hall6
  obtain ⟨q, hq⟩ : ∃ q, pick log 9 = q := ⟨_, rfl⟩
  have hq0 : 0 ≤ q := by rw [← hq]; exact pick_lo _ _ (by omega)
  have hq1 : q < 9 := by rw [← hq]; exact pick_hi _ _ (by omega)
  have HPK := Lib.hid (pick_any log 9 w2 (by omega) (by omega))
  rw [hq] at HPK
  clear hq
  go_wp2_with fail
  refine HPK.out.mono ?_
  rintro _ _ ⟨rfl, rfl⟩
  clear HPK
  have HGN := Lib.hid (gnames_any (.slice AH h.length cH) (.slice AE extra.length cE) h extra (1 + q) w2 OH2.out.sl (Sl.of_own OE2.out) (by omega) (by omega) (Env.tab (HEN.out.below B2.out)))
  go_wp2_with fail
  refine HGN.out.mono ?_
  rintro _ w3 ⟨v3, rfl, ho3, hb3⟩
  obtain ⟨AU, cU, rfl, hcU1, hcU2⟩ := (Sl.of_own ho3).form
  have hU : (namesV (gS (1 + q) (allE h ++ extra))).length ≤ 100 := by have := namesV_len (1 + q) (allE h ++ extra); rw [List.length_append] at this; omega
  obtain ⟨U, hUe⟩ : ∃ U, namesV (gS (1 + q) (allE h ++ extra)) = U := ⟨_, rfl⟩
  rw [hUe] at ho3 hU hcU1 ⊢
  have HU := Lib.hid hUe
  obtain ⟨u, hu⟩ : ∃ u, U.length = u := ⟨_, rfl⟩
  rw [hu] at ho3 hU hcU1 ⊢
  have HUL := Lib.hid hu
  have OU3 := Lib.hid (Sl.of_own ho3)
  have OH3 := Lib.hid (OH2.out.below hb3)
  have OE3 := Lib.hid (own_below OE2.out hb3)
  have B3 := Lib.hid (bst B2.out hb3)
  clear ho3 hb3 hUe hu HGN
  obtain ⟨X, hX⟩ : ∃ X, extra.length = X := ⟨_, rfl⟩
  have SE3 := Sl.of_own OE3.out
  rw [hX] at SE3 hex hcE1 ⊢
  have HX := Lib.hid hX
  clear hX
  go_wp2_with (at_builtin; go_must (refine appN _ _ (World.ownsRow_nil w3 w3.heap.size 40 12) SE3 (Nat.le_refl _) under_entry info_entry rfl (by decide) (one_ents' _) (by omega) (by omega) rfl rfl rfl rfl ?_))
  intro v4 w4 ho4 hg4 _
  have hb4 : Below w3.heap.size w3 w4 := ⟨hg4.os, hg4.tape, hg4.output, hg4.size, fun i hi => hg4.block i hi (by simp [Value.ownBlock])⟩
  have A4 := Lib.hid (show w4.ownsRow w3.heap.size 40 12 v4 (extra ++ allE (h.take 0)).length (ents (extra ++ allE (h.take 0))) by simpa [allE, HX.out] using ho4)
  have W34 := Lib.hid hb4
  clear ho4 hg4 hb4 SE3
  go_wp2
  go_loopw [11, 36] (fun v8 i wr => ∃ k : Nat, i = .int .i64 k ∧ k ≤ h.length ∧ wr.ownsRow w3.heap.size 40 12 v8 (extra ++ allE (h.take k)).length (ents (extra ++ allE (h.take k))) ∧ Below w3.heap.size w3 wr) (fun _ i _ => h.length - (intOf i).toNat)
  case atStart => exact ⟨0, rfl, by omega, A4.out, W34.out⟩
  case round =>
    obtain ⟨k, rfl, hk, hown, hbel⟩ := hrel
    by_cases hlt : k < h.length
    · obtain ⟨ad, s, uu, p, hA, hse, hp, hSA, hSl⟩ := (OH3.out.below hbel).sl.load rfl hlt
      cases hA
      obtain ⟨hplt, d0, d1, d2, d3⟩ := hSA
      obtain ⟨AL, cL, rfl, hL1, hL2⟩ := hSl.form
      have HLT := Lib.hid hlt
      have HNX := Lib.hid (show extra ++ allE (h.take (k + 1)) = (extra ++ allE (h.take k)) ++ s.l by rw [allE_next hse, List.append_assoc])
      have hle : (extra ++ allE (h.take k)).length + s.l.length ≤ 100 := by
        have h1 := HA6.out (k + 1)
        rw [allE_next hse, List.length_append] at h1
        rw [List.length_append, HX.out]; omega
      obtain ⟨ac, hac⟩ : ∃ ac, (extra ++ allE (h.take k)) = ac := ⟨_, rfl⟩
      rw [hac] at hown HNX hle
      obtain ⟨Q, hQ⟩ : ∃ Q, ac.length = Q := ⟨_, rfl⟩
      obtain ⟨Z, hZ⟩ : ∃ Z, s.l.length = Z := ⟨_, rfl⟩
      rw [hQ] at hown hle
      rw [hZ] at hle hSl d3 hL1
      have HQ := Lib.hid hQ
      have HZ := Lib.hid hZ
      clear hse hac hQ hZ
      go_upto_region 8 with (fail)
      obtain ⟨w5, hw5⟩ : ∃ w5, w5 = wr.alloc (.cells #[.int .i64 s.ver, .int .i64 s.seq, .int .i64 s.nid, .slice AL Z cL] 34) := ⟨_, rfl⟩
      obtain ⟨B, hB⟩ : ∃ B, wr.heap.size = B := ⟨_, rfl⟩
      have BS := Lib.hid (show Blk w5 B 34 #[.int .i64 s.ver, .int .i64 s.seq, .int .i64 s.nid, .slice AL Z cL] by rw [hw5, ← hB]; exact Blk.new _ _ _)
      have hb5 : Below wr.heap.size wr w5 := by rw [hw5]; exact abel _ _
      have O5 := Lib.hid (own_below hown hb5)
      have B5 := Lib.hid (bst hbel hb5)
      have SL5 := Lib.hid (hSl.below hb5)
      rw [← hw5]
      simp only [hB]
      clear hw5 hown hbel hSl hb5 hB d0 d1 d2 d3 hplt
      have bb := BS.out
      have n0 := bb.cell 0
      have n1 := bb.cell 1
      have n2 := bb.cell 2
      have n3 := bb.cell 3
      simp only [List.getElem?_toArray, List.getElem?_cons_zero, List.getElem?_cons_succ] at n0 n1 n2 n3
      clear bb
      have o5 := O5.out
      have s5 := SL5.out
      have hsz := B5.out.size
      go_wp2_with (at_builtin; go_must (refine appN _ _ o5 s5 hsz under_entry info_entry rfl (by decide) (one_ents' _) (by omega) (by omega) rfl rfl rfl rfl ?_))
      intro v6 w6 ho6 hg6 hor6
      have O6 := Lib.hid (show w6.ownsRow w3.heap.size 40 12 v6 (extra ++ allE (h.take (k + 1))).length (ents (extra ++ allE (h.take (k + 1)))) by
        rw [HNX.out, ents_append, List.length_append, HQ.out, HZ.out]; exact ho6)
      have B6 := Lib.hid (B5.out.grown hg6 B5.out.size (fun b hb => (O5.out.lt b hb).1))
      clear ho6 hg6 hor6 n0 n1 n2 n3 o5 s5 hsz
      go_wp2
      go_roundw
      case rel => exact ⟨k + 1, by go_num, HLT.out, O6.out, B6.out⟩
      case measure => have := HLT.out; simp [intOf]; omega
    · rw [List.take_of_length_le (show h.length ≤ k by omega)] at hown
      obtain ⟨es, hes⟩ : ∃ es, extra ++ allE h = es := ⟨_, rfl⟩
      have HES := Lib.hid hes
      have hel2 : es.length ≤ 22 := by rw [← hes, List.length_append, HX.out]; omega
      rw [hes] at hown HOK
      obtain ⟨AA, cA, rfl, hA1, hA2⟩ := (Sl.of_own hown).form
      unfold maxLen at hA2
      have SA := Lib.hid (Sl.of_own hown)
      have SU := Lib.hid (OU3.out.below hbel)
      have BQ := Lib.hid (bst B3.out hbel)
      have HM1 := Lib.hid (show ∀ e, e ∈ es → e ∈ allE h ++ extra from fun e he => by rw [← HES.out] at he; rcases List.mem_append.1 he with h1 | h1 <;> simp [h1])
      have HM2 := Lib.hid (show ∀ e, e ∈ allE h ++ extra → e ∈ es from fun e he => by rw [← HES.out]; rcases List.mem_append.1 he with h1 | h1 <;> simp [h1])
      clear hown hbel hes
      obtain ⟨N, hN⟩ : ∃ N, es.length = N := ⟨_, rfl⟩
      rw [hN] at SA hel2 hA1 ⊢
      have HN := Lib.hid hN
      clear hN
      obtain ⟨wq, rfl⟩ : ∃ wq : World, wq = wr := ⟨_, rfl⟩
      go_wp2
      go_loopw [47] (fun i wr => ∃ k : Nat, i = .int .i64 k ∧ k ≤ N ∧ Below wq.heap.size wq wr) (fun i _ => N - (intOf i).toNat)
      case atStart => exact ⟨0, rfl, by omega, Below.refl _ _⟩
      case round =>
        obtain ⟨k2, rfl, hk2, hbq⟩ := hrel
        by_cases hlt2 : k2 < N
        · obtain ⟨ade, e, pe, hA, hee, hpe, hE⟩ := (SA.out.below hbq).ent_load HN.out.symm hlt2
          cases hA
          obtain ⟨hplt, d0, d1, d2, d3, d4, d5, d6, d7, d8, d9, d10, d11⟩ := hE
          have HLT := Lib.hid hlt2
          have HUP := Lib.hid (U_part (log := 1 + q) HM1.out HOK.out (List.mem_of_getElem? hee))
          rw [HU.out] at HUP
          clear hee
          go_upto_region 13 with (fail)
          obtain ⟨w5, hw5⟩ : ∃ w5, w5 = wr.alloc (.cells #[.int .i64 e.id, .int .i64 e.rows, .int .i64 e.live, .bool e.lo.null, .int .i64 e.lo.n, .string e.lo.s, .int .i64 e.lo.seq, .bool e.hi.null, .int .i64 e.hi.n, .string e.hi.s, .int .i64 e.hi.seq, .int .i64 e.del] 40) := ⟨_, rfl⟩
          obtain ⟨NE, hNE⟩ : ∃ NE, wr.heap.size = NE := ⟨_, rfl⟩
          have BE := Lib.hid (show Blk w5 NE 40 #[.int .i64 e.id, .int .i64 e.rows, .int .i64 e.live, .bool e.lo.null, .int .i64 e.lo.n, .string e.lo.s, .int .i64 e.lo.seq, .bool e.hi.null, .int .i64 e.hi.n, .string e.hi.s, .int .i64 e.hi.seq, .int .i64 e.del] by rw [hw5, ← hNE]; exact Blk.new _ _ _)
          have Q5 := Lib.hid (show Below wq.heap.size wq w5 by rw [hw5]; exact bst hbq (abel _ _))
          rw [← hw5]
          simp only [hNE]
          clear hw5 hNE hbq d0 d1 d2 d3 d4 d5 d6 d7 d8 d9 d10 d11 hplt
          have bb := BE.out
          have n0 := bb.cell 0
          have n1 := bb.cell 1
          have n2 := bb.cell 2
          have n3 := bb.cell 3
          have n4 := bb.cell 4
          have n5 := bb.cell 5
          have n6 := bb.cell 6
          have n7 := bb.cell 7
          have n8 := bb.cell 8
          have n9 := bb.cell 9
          have n10 := bb.cell 10
          have n11 := bb.cell 11
          simp only [List.getElem?_toArray, List.getElem?_cons_zero, List.getElem?_cons_succ] at n0 n1 n2 n3 n4 n5 n6 n7 n8 n9 n10 n11
          clear bb
          have HPA := Lib.hid (rpart_any e.id w5)
          have HM := Lib.hid (member32_any (.slice AU u cU) (U.map bsN) ⟨(nameL 80 e.id).toArray⟩ w5 (by have := SU.out.below Q5.out; rw [List.length_map, HUL.out]; exact this))
          rw [contN HUP.out.1] at HM
          go_wp2_with fail
          refine HPA.out.mono ?_
          rintro _ _ ⟨rfl, rfl⟩
          go_wp2_with fail
          refine HM.out.mono ?_
          rintro _ _ ⟨rfl, rfl⟩
          by_cases hd : 0 < e.del
          · have HPD := Lib.hid (rdel_any e.del w5)
            have HMD := Lib.hid (member32_any (.slice AU u cU) (U.map bsN) ⟨(nameL 68 e.del).toArray⟩ w5 (by have := SU.out.below Q5.out; rw [List.length_map, HUL.out]; exact this))
            rw [contN (HUP.out.2 hd)] at HMD
            go_wp2_with fail
            refine HPD.out.mono ?_
            rintro _ _ ⟨rfl, rfl⟩
            go_wp2_with fail
            refine HMD.out.mono ?_
            rintro _ _ ⟨rfl, rfl⟩
            clear n0 n1 n2 n3 n4 n5 n6 n7 n8 n9 n10 n11
            go_wp2
            go_roundw
            case rel => exact ⟨k2 + 1, by go_num, HLT.out, Q5.out⟩
            case measure => have := HLT.out; simp [intOf]; omega
          · have hd2 : decide (0 < e.del) = false := by simpa using hd
            go_wp2
            go_roundw
            case rel => exact ⟨k2 + 1, by go_num, HLT.out, Q5.out⟩
            case measure => have := HLT.out; simp [intOf]; omega
        · have BQ2 := Lib.hid (bst BQ.out hbq)
          have SA2 := Lib.hid (SA.out.below hbq)
          have SU2 := Lib.hid (SU.out.below hbq)
          clear hbq
          obtain ⟨wp, rfl⟩ : ∃ wp : World, wp = wr := ⟨_, rfl⟩
          go_wp2
          go_loopw [73] (fun i wr => ∃ k : Nat, i = .int .i64 k ∧ k ≤ u ∧ Below wp.heap.size wp wr) (fun i _ => u - (intOf i).toNat)
          case atStart => exact ⟨0, rfl, by omega, Below.refl _ _⟩
          case round =>
            obtain ⟨k3, rfl, hk3, hb3⟩ := hrel
            by_cases hlt3 : k3 < u
            · obtain ⟨adu, y, hA, hyy, hcy⟩ := (show Sl wr 1 (.slice AU u cU) u (strV (U.map bsN)) from SU2.out.below hb3).str_at hlt3
              cases hA
              rw [List.getElem?_map] at hyy
              obtain ⟨x, hx, rfl⟩ := Option.map_eq_some_iff.1 hyy
              have HX3 := Lib.hid hx
              have HLT3 := Lib.hid hlt3
              have HB3 := Lib.hid hb3
              have hbx : (bsN x).toList = x := by rw [Go.ByteArray.toList_eq, bsN_data]
              have hlog : (⟨(nameL 77 (1 + q)).toArray⟩ : ByteArray).toList = nameL 77 (1 + q) := arr_list _
              have HPL := Lib.hid (rlog_any (1 + q) wr)
              obtain ⟨b0, hb0⟩ : ∃ b, (x == nameL 77 (1 + q)) = b := ⟨_, rfl⟩
              have HOK0 := Lib.hid (show okTo (1 + q) es x 0 = b0 by rw [← hb0]; simp [okTo])
              have hd3 : decide ((k3 : Int) < (u : Int)) = true := by simp; omega
              clear hx hyy hb3
              go_wp2_with fail
              refine HPL.out.mono ?_
              rintro _ _ ⟨rfl, rfl⟩
              clear HPL
              obtain ⟨wy, rfl⟩ : ∃ wy : World, wy = wr := ⟨_, rfl⟩
              go_wp2
              go_loopw [18, 84] (fun v18 i wr => ∃ k : Nat, i = .int .i64 k ∧ k ≤ N ∧ v18 = .bool (okTo (1 + q) es x k) ∧ Below wy.heap.size wy wr) (fun _ i _ => N - (intOf i).toNat)
              case atStart => exact ⟨0, rfl, by omega, by rw [HOK0.out], Below.refl _ _⟩
              case round =>
                obtain ⟨k4, rfl, hk4, rfl, hb4⟩ := hrel
                by_cases hlt4 : k4 < N
                · obtain ⟨ade, e, pe, hA, hee, hpe, hE⟩ := ((SA2.out.below HB3.out).below hb4).ent_load HN.out.symm hlt4
                  cases hA
                  obtain ⟨hplt, d0, d1, d2, d3, d4, d5, d6, d7, d8, d9, d10, d11⟩ := hE
                  have HLT4 := Lib.hid hlt4
                  have HNX := Lib.hid (okTo_next (log := 1 + q) (s := x) hee)
                  obtain ⟨b, hb⟩ : ∃ b, okTo (1 + q) es x k4 = b := ⟨_, rfl⟩
                  rw [hb] at HNX ⊢
                  clear hee hb
                  go_upto_region 23 with (fail)
                  obtain ⟨w5, hw5⟩ : ∃ w5, w5 = wr.alloc (.cells #[.int .i64 e.id, .int .i64 e.rows, .int .i64 e.live, .bool e.lo.null, .int .i64 e.lo.n, .string e.lo.s, .int .i64 e.lo.seq, .bool e.hi.null, .int .i64 e.hi.n, .string e.hi.s, .int .i64 e.hi.seq, .int .i64 e.del] 40) := ⟨_, rfl⟩
                  obtain ⟨NE, hNE⟩ : ∃ NE, wr.heap.size = NE := ⟨_, rfl⟩
                  have BE := Lib.hid (show Blk w5 NE 40 #[.int .i64 e.id, .int .i64 e.rows, .int .i64 e.live, .bool e.lo.null, .int .i64 e.lo.n, .string e.lo.s, .int .i64 e.lo.seq, .bool e.hi.null, .int .i64 e.hi.n, .string e.hi.s, .int .i64 e.hi.seq, .int .i64 e.del] by rw [hw5, ← hNE]; exact Blk.new _ _ _)
                  have Q5 := Lib.hid (show Below wy.heap.size wy w5 by rw [hw5]; exact bst hb4 (abel _ _))
                  rw [← hw5]
                  simp only [hNE]
                  clear hw5 hNE hb4 d0 d1 d2 d3 d4 d5 d6 d7 d8 d9 d10 d11 hplt
                  have bb := BE.out
                  have n0 := bb.cell 0
                  have n1 := bb.cell 1
                  have n2 := bb.cell 2
                  have n3 := bb.cell 3
                  have n4 := bb.cell 4
                  have n5 := bb.cell 5
                  have n6 := bb.cell 6
                  have n7 := bb.cell 7
                  have n8 := bb.cell 8
                  have n9 := bb.cell 9
                  have n10 := bb.cell 10
                  have n11 := bb.cell 11
                  simp only [List.getElem?_toArray, List.getElem?_cons_zero, List.getElem?_cons_succ] at n0 n1 n2 n3 n4 n5 n6 n7 n8 n9 n10 n11
                  clear bb
                  cases b with
                  | true =>
                    have HN1 := Lib.hid (show okTo (1 + q) es x (k4 + 1) = true by rw [HNX.out, Bool.true_or])
                    go_wp2
                    go_roundw
                    case rel => exact ⟨k4 + 1, by go_num, HLT4.out, by rw [HN1.out], Q5.out⟩
                    case measure => have := HLT4.out; simp [intOf]; omega
                  | false =>
                    have HPA := Lib.hid (rpart_any e.id w5)
                    have ha80 : (⟨(nameL 80 e.id).toArray⟩ : ByteArray).toList = nameL 80 e.id := arr_list _
                    obtain ⟨bP, hbP⟩ : ∃ b, (x == nameL 80 e.id) = b := ⟨_, rfl⟩
                    rw [hbP, Bool.false_or] at HNX
                    go_wp2_with fail
                    refine HPA.out.mono ?_
                    rintro _ _ ⟨rfl, rfl⟩
                    cases bP with
                    | true =>
                      have HN1 := Lib.hid (show okTo (1 + q) es x (k4 + 1) = true by rw [HNX.out, Bool.true_or])
                      go_wp2
                      go_roundw
                      case rel => exact ⟨k4 + 1, by go_num, HLT4.out, by rw [HN1.out], Q5.out⟩
                      case measure => have := HLT4.out; simp [intOf]; omega
                    | false =>
                      rw [Bool.false_or] at HNX
                      by_cases hd : 0 < e.del
                      · have HPD := Lib.hid (rdel_any e.del w5)
                        have ha68 : (⟨(nameL 68 e.del).toArray⟩ : ByteArray).toList = nameL 68 e.del := arr_list _
                        obtain ⟨bD, hbD⟩ : ∃ b, (x == nameL 68 e.del) = b := ⟨_, rfl⟩
                        have HN1 := Lib.hid (show okTo (1 + q) es x (k4 + 1) = bD by rw [HNX.out, hbD, decide_eq_true hd, Bool.true_and])
                        go_wp2_with fail
                        refine HPD.out.mono ?_
                        rintro _ _ ⟨rfl, rfl⟩
                        go_wp2
                        go_roundw
                        case rel => exact ⟨k4 + 1, by go_num, HLT4.out, by rw [HN1.out], Q5.out⟩
                        case measure => have := HLT4.out; simp [intOf]; omega
                      · have hd2 : decide (0 < e.del) = false := by simpa using hd
                        have HN1 := Lib.hid (show okTo (1 + q) es x (k4 + 1) = false by rw [HNX.out, hd2, Bool.false_and])
                        go_wp2
                        go_roundw
                        case rel => exact ⟨k4 + 1, by go_num, HLT4.out, by rw [HN1.out], Q5.out⟩
                        case measure => have := HLT4.out; simp [intOf]; omega
                · have hk4N : k4 = N := by omega
                  have hT : okTo (1 + q) es x k4 = true := by
                    rw [hk4N, ← HN.out]
                    exact okTo_all HM2.out HOK.out (by rw [HU.out]; exact List.mem_of_getElem? HX3.out)
                  rw [hT]
                  have B4 := Lib.hid (bst HB3.out hb4)
                  clear hT hk4N
                  by_cases hz : k3 = 0
                  · have hz2 : decide ((0 : Int) < (k3 : Int)) = false := by simp; omega
                    have hz4 : ¬ (0 : Int) < (k3 : Int) := by omega
                    have hz5 : ¬ 0 < k3 := by omega
                    clear hb4 hz
                    go_wp2
                    go_roundw
                    case rel => exact ⟨k3 + 1, by go_num, HLT3.out, B4.out⟩
                    case measure => have := HLT3.out; simp [intOf]; omega
                  · obtain ⟨j, hj⟩ : ∃ j, k3 = j + 1 := ⟨k3 - 1, by omega⟩
                    have hz2 : decide ((0 : Int) < (k3 : Int)) = true := by simp; omega
                    obtain ⟨adw, y2, hA, hyy, hcw⟩ := (show Sl wr 1 (.slice (some adu) u cU) u (strV (U.map bsN)) from (SU2.out.below HB3.out).below hb4).str_at (k := j) (by omega)
                    cases hA
                    rw [List.getElem?_map] at hyy
                    obtain ⟨x2, hx2, rfl⟩ := Option.map_eq_some_iff.1 hyy
                    have hbx2 : (bsN x2).toList = x2 := by rw [Go.ByteArray.toList_eq, bsN_data]
                    have hless : Op.bytesLess x2 x = true := U_asc (log := 1 + q) (es := allE h ++ extra) (by rw [HU.out]; exact hx2) (by rw [HU.out, ← hj]; exact HX3.out)
                    have hkj : (k3 : Int) - 1 = j := by omega
                    have hju : (j : Int) < (u : Int) := by omega
                    have hju2 : j < u := by omega
                    clear hb4 hz hj hyy hx2
                    go_wp2
                    go_roundw
                    case rel => exact ⟨k3 + 1, by go_num, HLT3.out, B4.out⟩
                    case measure => have := HLT3.out; simp [intOf]; omega
            · have B5 := Lib.hid (bst BQ2.out hb3)
              have SU3 := Lib.hid (SU2.out.below hb3)
              have HUL1 := Lib.hid (U_log (log := 1 + q) (by omega) (by omega) (allE h ++ extra))
              rw [HU.out] at HUL1
              clear hb3
              go_wp2_with fail
              refine (awake32_any wr (HEN.out.below B5.out)).mono ?_
              rintro _ w6 ⟨rfl, hb6⟩
              have B6 := Lib.hid (bst B5.out hb6)
              have HPL := Lib.hid (rlog_any (1 + q) w6)
              have HM := Lib.hid (member32_any (.slice AU u cU) (U.map bsN) ⟨(nameL 77 (1 + q)).toArray⟩ w6 (by have := SU3.out.below hb6; rw [List.length_map, HUL.out]; exact this))
              rw [contN HUL1.out] at HM
              clear hb6
              go_wp2_with fail
              refine HPL.out.mono ?_
              rintro _ _ ⟨rfl, rfl⟩
              go_wp2_with fail
              refine HM.out.mono ?_
              rintro _ _ ⟨rfl, rfl⟩
              go_wp2
              go_ret
              exact ⟨rfl, B6.out⟩
end Go.Proofs.YtjfnpklknehiiaaDoor
