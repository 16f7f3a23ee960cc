/-
  The contract of ref18.Apply.
-/
import Derived.Test.YtoikgjhekemjdaaApply
import Derived.Test.YtoikgjhekemjdaaInsert
import Derived.Test.YtoikgjhekemjdaaRRecCheck
import Derived.Test.YtoikgjhekemjdaaRecCheck
import Derived.Test.YtoikgjhekemjdaaSnapGen
import Derived.Test.YtoikgjhekemjdaaInv2
import Derived.Test.YtoikgjhekemjdaaApplyLaw
import Derived.Deep.DeepCutAuto
import Derived.Deep.CutBlock
namespace Go.Proofs.Ytoikgjhekemjdaa
open Go.RowKit Go.Sort
theorem rsnapCheck_b' {x q n : Int} {v : Value} {l : List Ent} {b : Bool} (hb : snapB x q n l = b) {wc : World} (hs : Sl wc 12 v l.length (ents l)) (hw : ∀ e ∈ l, e.small) (hl : l.length ≤ 9223372036854775807) :
    ∀ X, Below wc.heap.size wc X → Calls Try.prog 47 #[.agg #[.int .i64 x, .int .i64 q, .int .i64 n, v]] X (RetB1' X b) := by subst hb; exact fun X hX => rsnapCheck_any x q n v l X (hs.below hX) hw hl
theorem insAll_next {l add : List Ent} {k : Nat} {e : Ent} (he : add[k]? = some e) : insAll l (add.take (k + 1)) = insE (insAll l (add.take k)) e := by
  unfold insAll; rw [List.take_add_one, he, Option.toList_some, List.foldl_append]; rfl
set_option maxRecDepth 100000 in
set_option maxHeartbeats 8000000 in
theorem rapply_any (ver seq nid : Int) (l : List Ent) (kind rver rseq rnid : Int) (add : List Ent) (rem : List Int) (vs va vr : Value) (w : World)
    (hs : Sl w 12 vs l.length (ents l)) (hsm : ∀ e ∈ l, e.small) (hsl : l.length ≤ 9223372036854775807) (ha : Sl w 12 va add.length (ents add)) (ham : ∀ e ∈ add, e.small) (hal : add.length ≤ 9223372036854775807)
    (hr : Sl w 1 vr rem.length (ints rem)) (hrl : rem.length ≤ 9223372036854775807) :
    Calls Try.prog 18 #[.agg #[.int .i64 ver, .int .i64 seq, .int .i64 nid, vs], .agg #[.int .i64 kind, .int .i64 rver, .int .i64 rseq, .int .i64 rnid, va, vr]] w (RetApply w (applyV ⟨ver, seq, nid, l⟩ ⟨kind, rver, rseq, rnid, add, rem⟩)) := by
  obtain ⟨AS, cS, rfl, hS1, hS2⟩ := hs.form
  obtain ⟨AA, cA, rfl, hA1, hA2⟩ := ha.form
  obtain ⟨AR, cR, rfl, hR1, hR2⟩ := hr.form
  unfold maxLen at hS2 hA2 hR2
  obtain ⟨W, hW⟩ : ∃ W, W = ((w.alloc (.cells #[.int .i64 ver, .int .i64 seq, .int .i64 nid, .slice AS l.length cS] 24)).alloc (.cells #[.int .i64 kind, .int .i64 rver, .int .i64 rseq, .int .i64 rnid, .slice AA add.length cA, .slice AR rem.length cR] 38)).alloc (.cells #[.int .i64 0, .int .i64 0, .int .i64 0, .slice none 0 0] 24) := ⟨_, rfl⟩
  have bS : Blk W w.heap.size 24 #[.int .i64 ver, .int .i64 seq, .int .i64 nid, .slice AS l.length cS] := by rw [hW]; exact ((Blk.new _ _ _).alloc _).alloc _
  have bR : Blk W (w.heap.size + 1) 38 #[.int .i64 kind, .int .i64 rver, .int .i64 rseq, .int .i64 rnid, .slice AA add.length cA, .slice AR rem.length cR] := by
    have := (Blk.new (w.alloc (.cells #[.int .i64 ver, .int .i64 seq, .int .i64 nid, .slice AS l.length cS] 24)) 38 #[.int .i64 kind, .int .i64 rver, .int .i64 rseq, .int .i64 rnid, .slice AA add.length cA, .slice AR rem.length cR]).alloc (.cells #[.int .i64 0, .int .i64 0, .int .i64 0, .slice none 0 0] 24)
    rw [hW]; simpa using this
  have bZ : Blk W (w.heap.size + 2) 24 #[.int .i64 0, .int .i64 0, .int .i64 0, .slice none 0 0] := by
    have := Blk.new ((w.alloc (.cells #[.int .i64 ver, .int .i64 seq, .int .i64 nid, .slice AS l.length cS] 24)).alloc (.cells #[.int .i64 kind, .int .i64 rver, .int .i64 rseq, .int .i64 rnid, .slice AA add.length cA, .slice AR rem.length cR] 38)) 24 #[.int .i64 0, .int .i64 0, .int .i64 0, .slice none 0 0]
    rw [hW]; simpa using this
  have hB : Below w.heap.size w W := by rw [hW]; exact (abel2 _ _ _).alloc (by simp; omega) _
  have hsW := hs.below hB
  have haW := ha.below hB
  have hrW := hr.below hB
  cases hok : snapB ver seq nid l with
  | false =>
    have HE := Lib.hid (applyV_bad (s := ⟨ver, seq, nid, l⟩) (r := ⟨kind, rver, rseq, rnid, add, rem⟩) (.inl hok))
    have C1 := Lib.hid (rsnapCheck_b' hok hsW hsm hsl W (Below.refl _ _))
    clear hok hs ha hr hsW haW hrW
    have s0 := bS.cell 0
    have s1 := bS.cell 1
    have s2 := bS.cell 2
    have s3 := bS.cell 3
    simp only [List.getElem?_toArray, List.getElem?_cons_zero, List.getElem?_cons_succ] at s0 s1 s2 s3
    go_enter Try.func18, Try.ntmps18
    go_wp2_with fail
    rw [← hW]
    clear hW
    go_wp2_with fail
    refine C1.out.mono ?_
    rintro _ w1 ⟨rfl, hb1⟩
    have bZ1 := bZ.below hb1 bZ.lt
    have hB1 := bst hB hb1
    clear s0 s1 s2 s3 bS bR bZ hB hb1 C1
    have f0 := bZ1.frozen 0
    have f1 := bZ1.frozen 1
    have f2 := bZ1.frozen 2
    have f3 := bZ1.frozen 3
    have c0 := bZ1.cell 0
    have c1 := bZ1.cell 1
    have c2 := bZ1.cell 2
    have c3 := bZ1.cell 3
    simp only [List.getElem?_toArray, List.getElem?_cons_zero, List.getElem?_cons_succ] at c0 c1 c2 c3
    have hlt := bZ1.lt
    have HX := Lib.hid (exitZ rfl bZ1 hB1)
    go_wp2
    obtain ⟨V, hV⟩ : ∃ V, V = (((w1.setCell ⟨w.heap.size + 2, 0, none⟩ (.int .i64 0)).setCell ⟨w.heap.size + 2, 1, none⟩ (.int .i64 0)).setCell ⟨w.heap.size + 2, 2, none⟩ (.int .i64 0)).setCell ⟨w.heap.size + 2, 3, none⟩ (.slice none 0 0) := ⟨_, rfl⟩
    obtain ⟨d0, d1, d2, d3, HXB⟩ := HX.out V hV
    rw [← hV]
    exact bodyPost_ret (v := .tuple #[.agg #[.int .i64 0, .int .i64 0, .int .i64 0, .slice none 0 0], .int .i64 1]) (by simp [results, Try.results18, go_sem, d0, d1, d2, d3]) rfl (retApply_err HE.out HXB)
  | true =>
    have HOK := Lib.hid hok
    obtain ⟨⟨y1, y2, y3, y4, y5, y6, hl256⟩, hE⟩ := snapB_parts hok
    have C1 := Lib.hid (rsnapCheck_b' hok hsW hsm hsl W (Below.refl _ _))
    have C2 := Lib.hid (fun X (h : Below W.heap.size W X) => rrecCheck_any kind rver rseq rnid add rem _ _ X (haW.below h) ham hal (hrW.below h) hrl)
    clear hok
    have s0 := bS.cell 0
    have s1 := bS.cell 1
    have s2 := bS.cell 2
    have s3 := bS.cell 3
    simp only [List.getElem?_toArray, List.getElem?_cons_zero, List.getElem?_cons_succ] at s0 s1 s2 s3
    go_enter Try.func18, Try.ntmps18
    go_wp2_with fail
    rw [← hW]
    clear hW
    go_wp2_with fail
    refine C1.out.mono ?_
    rintro _ w1 ⟨rfl, hb1⟩
    have bS1 := bS.below hb1 bS.lt
    have bR1 := bR.below hb1 bR.lt
    have bZ1 := bZ.below hb1 bZ.lt
    have hB1 := bst hB hb1
    have C2' := Lib.hid (C2.out w1 hb1)
    have hs1 := hsW.below hb1
    have ha1 := haW.below hb1
    have hr1 := hrW.below hb1
    clear s0 s1 s2 s3 bS bR bZ hB hb1 C1 C2 hs ha hr hsW haW hrW
    have r0 := bR1.cell 0
    have r1 := bR1.cell 1
    have r2 := bR1.cell 2
    have r3 := bR1.cell 3
    have r4 := bR1.cell 4
    have r5 := bR1.cell 5
    simp only [List.getElem?_toArray, List.getElem?_cons_zero, List.getElem?_cons_succ] at r0 r1 r2 r3 r4 r5
    obtain ⟨n, hn⟩ : ∃ n, recV ⟨kind, rver, rseq, rnid, add, rem⟩ = n := ⟨_, rfl⟩
    rw [hn] at C2'
    have HN := Lib.hid hn
    clear hn
    go_wp2_with fail
    refine C2'.out.mono ?_
    rintro _ w2 ⟨rfl, hb2⟩
    have bS2 := bS1.below hb2 bS1.lt
    have bR2 := bR1.below hb2 bR1.lt
    have bZ2 := bZ1.below hb2 bZ1.lt
    have hB2 := bst hB1 hb2
    have hs2 := hs1.below hb2
    have ha2 := ha1.below hb2
    have hr2 := hr1.below hb2
    clear r0 r1 r2 r3 r4 r5 bS1 bR1 bZ1 hB1 hb2 C2' hs1 ha1 hr1
    by_cases hn0 : n = 0
    case neg =>
      have q1 : (n != 0) = true := by simpa using hn0
      have HE := Lib.hid (applyV_bad (s := ⟨ver, seq, nid, l⟩) (r := ⟨kind, rver, rseq, rnid, add, rem⟩) (.inr (.inl (by rw [HN.out]; exact hn0))))
      clear hn0 hs2 ha2 hr2 bS2 bR2
      have f0 := bZ2.frozen 0
      have f1 := bZ2.frozen 1
      have f2 := bZ2.frozen 2
      have f3 := bZ2.frozen 3
      have c0 := bZ2.cell 0
      have c1 := bZ2.cell 1
      have c2 := bZ2.cell 2
      have c3 := bZ2.cell 3
      simp only [List.getElem?_toArray, List.getElem?_cons_zero, List.getElem?_cons_succ] at c0 c1 c2 c3
      have hlt := bZ2.lt
      have HX := Lib.hid (exitZ rfl bZ2 hB2)
      go_wp2
      obtain ⟨V, hV⟩ : ∃ V, V = (((w2.setCell ⟨w.heap.size + 2, 0, none⟩ (.int .i64 0)).setCell ⟨w.heap.size + 2, 1, none⟩ (.int .i64 0)).setCell ⟨w.heap.size + 2, 2, none⟩ (.int .i64 0)).setCell ⟨w.heap.size + 2, 3, none⟩ (.slice none 0 0) := ⟨_, rfl⟩
      obtain ⟨d0, d1, d2, d3, HXB⟩ := HX.out V hV
      rw [← hV]
      exact bodyPost_ret (v := .tuple #[.agg #[.int .i64 0, .int .i64 0, .int .i64 0, .slice none 0 0], .int .i64 1]) (by simp [results, Try.results18, go_sem, d0, d1, d2, d3]) rfl (retApply_err HE.out HXB)
    have q1 : (n != 0) = false := by simpa using hn0
    have HN0 := Lib.hid (show recV ⟨kind, rver, rseq, rnid, add, rem⟩ = 0 by rw [HN.out]; exact hn0)
    clear hn0 HN
    have s0 := bS2.cell 0
    have s1 := bS2.cell 1
    have s2 := bS2.cell 2
    have s3 := bS2.cell 3
    simp only [List.getElem?_toArray, List.getElem?_cons_zero, List.getElem?_cons_succ] at s0 s1 s2 s3
    have r0 := bR2.cell 0
    have r1 := bR2.cell 1
    have r2 := bR2.cell 2
    have r3 := bR2.cell 3
    have r4 := bR2.cell 4
    have r5 := bR2.cell 5
    simp only [List.getElem?_toArray, List.getElem?_cons_zero, List.getElem?_cons_succ] at r0 r1 r2 r3 r4 r5
    by_cases hk : kind = 2
    case neg =>
      have q2 : (kind != 2) = true := by simpa using hk
      have HE := Lib.hid (applyV_bad (s := ⟨ver, seq, nid, l⟩) (r := ⟨kind, rver, rseq, rnid, add, rem⟩) (.inr (.inr hk)))
      clear hk hs2 ha2 hr2 bS2 bR2
      have f0 := bZ2.frozen 0
      have f1 := bZ2.frozen 1
      have f2 := bZ2.frozen 2
      have f3 := bZ2.frozen 3
      have c0 := bZ2.cell 0
      have c1 := bZ2.cell 1
      have c2 := bZ2.cell 2
      have c3 := bZ2.cell 3
      simp only [List.getElem?_toArray, List.getElem?_cons_zero, List.getElem?_cons_succ] at c0 c1 c2 c3
      have hlt := bZ2.lt
      have HX := Lib.hid (exitZ rfl bZ2 hB2)
      go_wp2
      obtain ⟨V, hV⟩ : ∃ V, V = (((w2.setCell ⟨w.heap.size + 2, 0, none⟩ (.int .i64 0)).setCell ⟨w.heap.size + 2, 1, none⟩ (.int .i64 0)).setCell ⟨w.heap.size + 2, 2, none⟩ (.int .i64 0)).setCell ⟨w.heap.size + 2, 3, none⟩ (.slice none 0 0) := ⟨_, rfl⟩
      obtain ⟨d0, d1, d2, d3, HXB⟩ := HX.out V hV
      rw [← hV]
      exact bodyPost_ret (v := .tuple #[.agg #[.int .i64 0, .int .i64 0, .int .i64 0, .slice none 0 0], .int .i64 1]) (by simp [results, Try.results18, go_sem, d0, d1, d2, d3]) rfl (retApply_err HE.out HXB)
    have q2 : (kind != 2) = false := by simpa using hk
    have HK := Lib.hid hk
    clear hk
    by_cases hv : rver = ver + 1
    case neg =>
      have q3 : (rver != ver + 1) = true := by simpa using hv
      have HE := Lib.hid (applyV_ver (s := ⟨ver, seq, nid, l⟩) (r := ⟨kind, rver, rseq, rnid, add, rem⟩) HOK.out HN0.out HK.out hv)
      clear hv hs2 ha2 hr2 bS2 bR2
      have f0 := bZ2.frozen 0
      have f1 := bZ2.frozen 1
      have f2 := bZ2.frozen 2
      have f3 := bZ2.frozen 3
      have c0 := bZ2.cell 0
      have c1 := bZ2.cell 1
      have c2 := bZ2.cell 2
      have c3 := bZ2.cell 3
      simp only [List.getElem?_toArray, List.getElem?_cons_zero, List.getElem?_cons_succ] at c0 c1 c2 c3
      have hlt := bZ2.lt
      have HX := Lib.hid (exitZ rfl bZ2 hB2)
      go_wp2
      obtain ⟨V, hV⟩ : ∃ V, V = (((w2.setCell ⟨w.heap.size + 2, 0, none⟩ (.int .i64 0)).setCell ⟨w.heap.size + 2, 1, none⟩ (.int .i64 0)).setCell ⟨w.heap.size + 2, 2, none⟩ (.int .i64 0)).setCell ⟨w.heap.size + 2, 3, none⟩ (.slice none 0 0) := ⟨_, rfl⟩
      obtain ⟨d0, d1, d2, d3, HXB⟩ := HX.out V hV
      rw [← hV]
      exact bodyPost_ret (v := .tuple #[.agg #[.int .i64 0, .int .i64 0, .int .i64 0, .slice none 0 0], .int .i64 13]) (by simp [results, Try.results18, go_sem, d0, d1, d2, d3]) rfl (retApply_err HE.out HXB)
    have q3 : (rver != ver + 1) = false := by simpa using hv
    have HV := Lib.hid hv
    clear hv
    by_cases hq : rseq < seq
    case pos =>
      have q4 : decide (rseq < seq) = true := decide_eq_true hq
      have HE := Lib.hid (applyV_range (s := ⟨ver, seq, nid, l⟩) (r := ⟨kind, rver, rseq, rnid, add, rem⟩) HOK.out HN0.out HK.out HV.out (.inl hq))
      clear hq hs2 ha2 hr2 bS2 bR2
      have f0 := bZ2.frozen 0
      have f1 := bZ2.frozen 1
      have f2 := bZ2.frozen 2
      have f3 := bZ2.frozen 3
      have c0 := bZ2.cell 0
      have c1 := bZ2.cell 1
      have c2 := bZ2.cell 2
      have c3 := bZ2.cell 3
      simp only [List.getElem?_toArray, List.getElem?_cons_zero, List.getElem?_cons_succ] at c0 c1 c2 c3
      have hlt := bZ2.lt
      have HX := Lib.hid (exitZ rfl bZ2 hB2)
      go_wp2
      obtain ⟨V, hV⟩ : ∃ V, V = (((w2.setCell ⟨w.heap.size + 2, 0, none⟩ (.int .i64 0)).setCell ⟨w.heap.size + 2, 1, none⟩ (.int .i64 0)).setCell ⟨w.heap.size + 2, 2, none⟩ (.int .i64 0)).setCell ⟨w.heap.size + 2, 3, none⟩ (.slice none 0 0) := ⟨_, rfl⟩
      obtain ⟨d0, d1, d2, d3, HXB⟩ := HX.out V hV
      rw [← hV]
      exact bodyPost_ret (v := .tuple #[.agg #[.int .i64 0, .int .i64 0, .int .i64 0, .slice none 0 0], .int .i64 4]) (by simp [results, Try.results18, go_sem, d0, d1, d2, d3]) rfl (retApply_err HE.out HXB)
    have q4 : decide (rseq < seq) = false := decide_eq_false hq
    by_cases hd : rnid < nid
    case pos =>
      have q5 : decide (rnid < nid) = true := decide_eq_true hd
      have HE := Lib.hid (applyV_range (s := ⟨ver, seq, nid, l⟩) (r := ⟨kind, rver, rseq, rnid, add, rem⟩) HOK.out HN0.out HK.out HV.out (.inr hd))
      clear hq hd hs2 ha2 hr2 bS2 bR2
      have f0 := bZ2.frozen 0
      have f1 := bZ2.frozen 1
      have f2 := bZ2.frozen 2
      have f3 := bZ2.frozen 3
      have c0 := bZ2.cell 0
      have c1 := bZ2.cell 1
      have c2 := bZ2.cell 2
      have c3 := bZ2.cell 3
      simp only [List.getElem?_toArray, List.getElem?_cons_zero, List.getElem?_cons_succ] at c0 c1 c2 c3
      have hlt := bZ2.lt
      have HX := Lib.hid (exitZ rfl bZ2 hB2)
      go_wp2
      obtain ⟨V, hV⟩ : ∃ V, V = (((w2.setCell ⟨w.heap.size + 2, 0, none⟩ (.int .i64 0)).setCell ⟨w.heap.size + 2, 1, none⟩ (.int .i64 0)).setCell ⟨w.heap.size + 2, 2, none⟩ (.int .i64 0)).setCell ⟨w.heap.size + 2, 3, none⟩ (.slice none 0 0) := ⟨_, rfl⟩
      obtain ⟨d0, d1, d2, d3, HXB⟩ := HX.out V hV
      rw [← hV]
      exact bodyPost_ret (v := .tuple #[.agg #[.int .i64 0, .int .i64 0, .int .i64 0, .slice none 0 0], .int .i64 4]) (by simp [results, Try.results18, go_sem, d0, d1, d2, d3]) rfl (retApply_err HE.out HXB)
    have q5 : decide (rnid < nid) = false := decide_eq_false hd
    have HAP := Lib.hid (applyV_go (s := ⟨ver, seq, nid, l⟩) (r := ⟨kind, rver, rseq, rnid, add, rem⟩) HOK.out HN0.out HK.out HV.out (fun h => h.elim hq hd))
    have HW2 := hB2.size
    clear hq hd
    have HF := Lib.hid bS2
    have HG := Lib.hid bR2
    have HZ := Lib.hid bZ2
    have HA2 := Lib.hid ha2
    have HR2 := Lib.hid hr2
    have HB2 := Lib.hid hB2
    obtain ⟨hRH, hRE, hRR, _⟩ := recV_zero HN0.out
    have HAE := Lib.hid hRE
    have hal2 : add.length ≤ 256 := hRH.2.2.1
    have hrl2 : rem.length ≤ 256 := hRH.2.2.2
    have HGL := Lib.hid (GoodL.of hE hl256 hsm)
    clear hRH hRE hRR bR2 bZ2 hB2 ha2 hr2 hsm hE hsl
    go_wp2_with (at_builtin; go_must (refine appN _ _ (World.ownsRow_nil w2 w2.heap.size 34 12) hs2 (Nat.le_refl _) under_entry info_entry rfl (by decide) (one_ents' _) (by omega) (by omega) rfl rfl rfl rfl ?_))
    intro v3 w3 ho3 hg3 _
    have hb3 : Below w2.heap.size w2 w3 := ⟨hg3.os, hg3.tape, hg3.output, hg3.size, fun i hi => hg3.block i hi (by simp [Value.ownBlock])⟩
    have ho3' : w3.ownsRow w2.heap.size 34 12 v3 l.length (ents l) := by simpa using ho3
    have HO3 := Lib.hid ho3'
    have HB3 := Lib.hid hb3
    clear r0 r1 r2 r3 r4 r5
    have bR3 := HG.out.below hb3 HG.out.lt
    have r0 := bR3.cell 0
    have r1 := bR3.cell 1
    have r2 := bR3.cell 2
    have r3 := bR3.cell 3
    have r4 := bR3.cell 4
    have r5 := bR3.cell 5
    simp only [List.getElem?_toArray, List.getElem?_cons_zero, List.getElem?_cons_succ] at r0 r1 r2 r3 r4 r5
    clear ho3 ho3' hg3 hb3 hs2 bS2 s0 s1 s2 s3 bR3 q1 q2 q3 q4 q5 y1 y3 y4 y5 y6
    go_wp2
    clear r0 r1 r2 r3 r4 r5
    go_loopw [55, 6] (fun i v' wr => ∃ (k : Nat) (l' : List Ent), i = .int .i64 k ∧ k ≤ rem.length ∧ Hid (remAll l rem = remAll l' (rem.drop k)) ∧ Hid (GoodL l') ∧ l'.length ≤ 256 ∧ Below w2.heap.size w2 wr ∧ wr.ownsRow w2.heap.size 34 12 v' l'.length (ents l')) (fun i _ _ => rem.length - (intOf i).toNat)
    case atStart => exact ⟨0, l, rfl, Nat.zero_le _, rfl, HGL, hl256, HB3.out, HO3.out⟩
    case round =>
      obtain ⟨k, l', rfl, hk, hrem, hgood, hl', hb, ho⟩ := hrel
      obtain ⟨A', c', rfl, hc1, hc2⟩ := (Sl.of_own ho).form
      unfold maxLen at hc2
      by_cases hlt : k < rem.length
      · obtain ⟨ad, x, rfl, hx, hcx⟩ := (HR2.out.below hb).int_at hlt
        have HX := Lib.hid hx
        clear hx
        have HC := Lib.hid (fun X (h : Below wr.heap.size wr X) => rindex_any (.slice A' l'.length c') l' x X ((Sl.of_own ho).below h) (by omega))
        cases hi : idxE l' x with
        | none =>
          have HE := Lib.hid (HAP.out.trans (applyGo_none (remAll_none hrem.out HX.out hi)))
          rw [idxV_none hi] at HC
          have HB := Lib.hid hb
          clear hi hrem hgood ho hb
          go_wp2_with fail
          refine (HC.out _ (Below.refl _ _)).mono ?_
          rintro _ w5 ⟨rfl, hb5⟩
          have hb6 := HB.out.trans (hb5.mono HB.out.size)
          have bZ5 := HZ.out.below hb6 HZ.out.lt
          have hB5 := bst HB2.out hb6
          clear hb5 hb6 hcx
          have f0 := bZ5.frozen 0
          have f1 := bZ5.frozen 1
          have f2 := bZ5.frozen 2
          have f3 := bZ5.frozen 3
          have c0 := bZ5.cell 0
          have c1 := bZ5.cell 1
          have c2 := bZ5.cell 2
          have c3 := bZ5.cell 3
          simp only [List.getElem?_toArray, List.getElem?_cons_zero, List.getElem?_cons_succ] at c0 c1 c2 c3
          have hlt := bZ5.lt
          have HX := Lib.hid (exitZ rfl bZ5 hB5)
          go_wp2
          obtain ⟨V, hV⟩ : ∃ V, V = (((w5.setCell ⟨w.heap.size + 2, 0, none⟩ (.int .i64 0)).setCell ⟨w.heap.size + 2, 1, none⟩ (.int .i64 0)).setCell ⟨w.heap.size + 2, 2, none⟩ (.int .i64 0)).setCell ⟨w.heap.size + 2, 3, none⟩ (.slice none 0 0) := ⟨_, rfl⟩
          obtain ⟨d0, d1, d2, d3, HXB⟩ := HX.out V hV
          rw [← hV]
          exact bodyPost_ret (v := .tuple #[.agg #[.int .i64 0, .int .i64 0, .int .i64 0, .slice none 0 0], .int .i64 6]) (by simp [results, Try.results18, go_sem, d0, d1, d2, d3]) rfl (retApply_err HE.out HXB)
        | some j =>
          have hj := idxE_lt hi
          have HR' := Lib.hid (remAll_next hrem.out HX.out hi)
          have HG' := Lib.hid (hgood.out.erase j)
          rw [idxV_some hi] at HC
          clear hi hrem hgood HX
          obtain ⟨g, rfl⟩ : ∃ g, A' = some ⟨g, 0, none⟩ := by
            rcases ho.2 with ⟨e, h0⟩ | ⟨g, cap, cur, e, _⟩
            · omega
            · injection e with e1; exact ⟨g, e1⟩
          have hg2 := (ho.lt g rfl).1
          have HO := Lib.hid ho
          have HB := Lib.hid hb
          clear ho hb
          go_wp2_with fail
          refine (HC.out _ (Below.refl _ _)).mono ?_
          rintro _ w5 ⟨rfl, hb5⟩
          have ho5 := own_below HO.out hb5
          have hb6 := HB.out.trans (hb5.mono HB.out.size)
          have HB6 := Lib.hid hb6
          clear hb5 hcx hb6
          obtain ⟨i0, hi0, _, hi1, _⟩ := info_parts info_entry
          obtain ⟨news, hnews⟩ : ∃ news, news = ents (l'.drop (j + 1)) := ⟨_, rfl⟩
          have hlen : Hid (news.length = (l'.length - (j + 1)) * 12) := show news.length = _ by rw [hnews, ents_length, List.length_drop]
          obtain ⟨A, hA, hsrc⟩ : ∃ A : Addr, (if c' = j + 1 then some (⟨g, 0, none⟩ : Addr) else some ⟨g, (j + 1) * 12, none⟩) = some A ∧ Hid (∀ t u, news[t]? = some u → w5.drew.cell? (A.add t) = some u) := by
            by_cases h : c' = j + 1
            · refine ⟨⟨g, 0, none⟩, by simp [h], fun t u hu => ?_⟩
              have h0 : news.length = 0 := by rw [hlen.out]; omega
              rw [List.length_eq_zero_iff.1 h0] at hu
              simp at hu
            · refine ⟨⟨g, (j + 1) * 12, none⟩, by simp [h], fun t u hu => ?_⟩
              rw [hnews, ← ents_drop, List.getElem?_drop] at hu
              have := World.ownsRow.cells ho5 (g := g) rfl _ u hu
              rw [Addr.add_lit] at this ⊢
              rw [Nat.zero_add] at this
              exact this
          obtain ⟨W1, hW1⟩ : ∃ W1, W1 = w5.drew.setCells g (0 + j * 12) news := ⟨_, rfl⟩
          have hown0 : w5.drew.ownsRow w2.heap.size 34 12 (.slice (some ⟨g, 0, none⟩) l'.length c') l'.length (ents l') := ho5
          have s2' : Hid (∀ u ∈ news, u.oneCell' = true) := by rw [hnews]; exact one_ents' _
          have s3' : Hid (∀ t, t < news.length → (w5.drew.cell? ⟨g, 0 + j * 12 + t, none⟩).isSome = true ∧ w5.drew.frozen? ⟨g, 0 + j * 12 + t, none⟩ = false) := fun t ht => own_cell hown0 (by rw [hlen.out] at ht; omega)
          have hWh : Hid (W1 = w5.drew.setCells g (0 + j * 12) news) := hW1
          have s4' : Hid (j + (l'.length - (j + 1)) ≤ c') := show _ ≤ _ by omega
          have hown1 : W1.ownsRow w2.heap.size 34 12 (.slice (some ⟨g, 0, none⟩) (j + (l'.length - (j + 1))) c') (j + (l'.length - (j + 1))) (ents (l'.eraseIdx j)) := by
            have := own_lay hown0 (Nat.le_of_lt hj) hlen.out s4'.out
            rw [hW1, Nat.zero_add, List.eraseIdx_eq_take_drop_succ, ents_append, ← ents_take, ← hnews]
            exact this
          have hgF : w5.grownBy W1 (some g) := by
            rw [hW1]
            exact grown_trans' (b := w5.drew) ⟨rfl, rfl, rfl, Nat.le_refl _, fun _ _ _ => rfl⟩ (setCells_grown _ _ _ _)
          have HB7 := Lib.hid (below_row HB6.out hgF hg2 HB6.out.size)
          have hN1 : j + (l'.length - (j + 1)) = (l'.eraseIdx j).length := by rw [List.length_eraseIdx_of_lt hj]; omega
          have HO7 := Lib.hid hown1
          have HN1 := Lib.hid hN1
          have hic : j ≤ c' := by omega
          have hjc : j + 1 ≤ c' := by omega
          have hj0 : (0 : Int) ≤ (j : Int) + 1 := by omega
          have hjw : IntKind.i64.wrap ((j : Int) + 1) = (j : Int) + 1 := IntWalk.i64_in _ (by omega)
          have hjt : ((j : Int) + 1).toNat = j + 1 := by omega
          have hjl : (j : Int) + 1 ≤ (l'.length : Int) := by omega
          clear hown0 hW1 hnews hown1 hgF ho5 hN1
          go_wp2_with fail
          refine wp_region_inv (by kernel_rfl) (by kernel_rfl) (fun L a w' => ∃ u6 u65 u66 u67 u68 u69 u70 u71 u72 : Value, a = ⟨#[.agg #[.int .i64 ver, .int .i64 seq, .int .i64 nid, .slice AS l.length cS], .agg #[.int .i64 kind, .int .i64 rver, .int .i64 rseq, .int .i64 rnid, .slice AA add.length cA, .slice (some ad) rem.length cR], .pointer (some ⟨w.heap.size, 0, none⟩), .pointer (some ⟨w.heap.size + 1, 0, none⟩), .pointer (some ⟨w.heap.size + 1 + 1, 0, none⟩), u5, u6, undef, .int .i64 x, .int .i64 j, undef, undef, undef, undef, undef, .agg #[.int .i64 ver, .int .i64 seq, .int .i64 nid, .slice AS l.length cS], .bool true, .bool false, .bool false, .agg #[.int .i64 kind, .int .i64 rver, .int .i64 rseq, .int .i64 rnid, .slice AA add.length cA, .slice (some ad) rem.length cR], .int .i64 n, .bool false, .bool false, .bool false, .pointer (some ⟨w.heap.size + 1, 0, none⟩), .int .i64 kind, .bool false, .bool false, undef, .pointer (some ⟨w.heap.size + 1, 1, none⟩), .int .i64 rver, .pointer (some ⟨w.heap.size, 0, none⟩), .int .i64 ver, .int .i64 (ver + 1), .bool false, undef, .pointer (some ⟨w.heap.size + 1, 2, none⟩), .int .i64 rseq, .pointer (some ⟨w.heap.size, 1, none⟩), .int .i64 seq, .bool false, .bool false, .pointer (some ⟨w.heap.size + 1, 3, none⟩), .int .i64 rnid, .pointer (some ⟨w.heap.size, 2, none⟩), .int .i64 nid, .bool false, .bool false, undef, .pointer (some ⟨w.heap.size, 3, none⟩), .slice AS l.length cS, v3, .pointer (some ⟨w.heap.size + 1, 5, none⟩), .slice (some ad) rem.length cR, .int .i64 rem.length, .int .i64 k, .bool true, .pointer (some (ad.add k)), .int .i64 x, .slice (some ⟨g, 0, none⟩) l'.length c', .int .i64 x, .int .i64 j, .int .i64 j, .bool (decide (j < 0)), u64, u65, u66, u67, u68, u69, u70, u71, u72, u73, undef, undef, undef, undef, undef, undef, undef, undef, undef, undef, undef, undef, undef, undef, undef, undef, undef, undef, undef, undef, undef, undef, undef, undef, undef, undef, undef, undef, undef, undef, undef, undef, undef, undef, undef, undef, undef, undef, undef, undef, undef, undef], []⟩ ∧
              ((L 7 = false → w' = w5.drew) ∧ (L 7 = true → w' = W1)) ∧ Got (L 0) u65 (.slice (some ⟨g, 0, none⟩) l'.length c') ∧ Got (L 1) u66 (.int .i64 j) ∧ Got (L 2) u67 (.slice (some ⟨g, 0, none⟩) j c') ∧ Got (L 3) u68 (.slice (some ⟨g, 0, none⟩) l'.length c') ∧ Got (L 4) u69 (.int .i64 j) ∧ Got (L 5) u70 (.int .i64 ((j : Int) + 1)) ∧ Got (L 6) u71 (.slice (some A) (l'.length - (j + 1)) (c' - (j + 1))) ∧ Got (L 7) u72 (.slice (some ⟨g, 0, none⟩) (j + (l'.length - (j + 1))) c') ∧ Got (L 8) u6 (.slice (some ⟨g, 0, none⟩) (j + (l'.length - (j + 1))) c') ∧ (L 2 = true → L 0 = true ∧ L 1 = true) ∧ (L 5 = true → L 4 = true) ∧ (L 6 = true → L 3 = true ∧ L 5 = true) ∧ (L 7 = true → L 2 = true ∧ L 6 = true) ∧ (L 8 = true → L 7 = true) ∧ (L 8 = false → u6 = .slice (some ⟨g, 0, none⟩) l'.length c'))
            ?_ ?_ ?_
          · exact ⟨_, _, _, _, _, _, _, _, _, rfl, ⟨fun _ => rfl, nofun⟩, nofun, nofun, nofun, nofun, nofun, nofun, nofun, nofun, nofun, nofun, nofun, nofun, nofun, nofun, fun _ => rfl⟩
          · refine ⟨?_, ?_, ?_, ?_, ?_, ?_, ?_, ?_, ?_, trivial⟩
            · rintro L a w' ⟨u6, u65, u66, u67, u68, u69, u70, u71, u72, rfl, hb, g0, g1, g2, g3, g4, g5, g6, g7, g8, g9, g10, g11, g12, g13, g14⟩ hl hd K hK
              dsimp only at hK ⊢
              have h8 : L 8 = false := by
                cases h : L 8 with
                | false => rfl
                | true => have := (g9 (g12 (g13 h)).1).1; rw [hl] at this; cases this
              have e14 := g14 h8
              subst e14
              go_simp
              exact hK _ _ ⟨_, _, _, _, _, _, _, _, _, rfl, hb, fun _ => rfl, g1, g2, g3, g4, g5, g6, g7, g8, fun h => ⟨rfl, (g9 h).2⟩, g10, g11, g12, g13, fun _ => rfl⟩
            · rintro L a w' ⟨u6, u65, u66, u67, u68, u69, u70, u71, u72, rfl, hb, g0, g1, g2, g3, g4, g5, g6, g7, g8, g9, g10, g11, g12, g13, g14⟩ hl hd K hK
              dsimp only at hK ⊢
              go_simp
              exact hK _ _ ⟨_, _, _, _, _, _, _, _, _, rfl, hb, g0, fun _ => rfl, g2, g3, g4, g5, g6, g7, g8, fun h => ⟨(g9 h).1, rfl⟩, g10, g11, g12, g13, g14⟩
            · rintro L a w' ⟨u6, u65, u66, u67, u68, u69, u70, u71, u72, rfl, hb, g0, g1, g2, g3, g4, g5, g6, g7, g8, g9, g10, g11, g12, g13, g14⟩ hl hd K hK
              simp [Region.binds] at hd
              dsimp only at hK ⊢
              have e0 := g0 (by simp [hd])
              subst e0
              have e1 := g1 (by simp [hd])
              subst e1
              go_simp
              exact hK _ _ ⟨_, _, _, _, _, _, _, _, _, rfl, hb, g0, g1, fun _ => rfl, g3, g4, g5, g6, g7, g8, fun _ => (by constructor <;> first | (show L 0 = true; simp [hd]) | (show L 1 = true; simp [hd])), g10, g11, fun h => ⟨rfl, (g12 h).2⟩, g13, g14⟩
            · rintro L a w' ⟨u6, u65, u66, u67, u68, u69, u70, u71, u72, rfl, hb, g0, g1, g2, g3, g4, g5, g6, g7, g8, g9, g10, g11, g12, g13, g14⟩ hl hd K hK
              dsimp only at hK ⊢
              have h8 : L 8 = false := by
                cases h : L 8 with
                | false => rfl
                | true => have := (g11 (g12 (g13 h)).2).1; rw [hl] at this; cases this
              have e14 := g14 h8
              subst e14
              go_simp
              exact hK _ _ ⟨_, _, _, _, _, _, _, _, _, rfl, hb, g0, g1, g2, fun _ => rfl, g4, g5, g6, g7, g8, g9, g10, fun h => ⟨rfl, (g11 h).2⟩, g12, g13, fun _ => rfl⟩
            · rintro L a w' ⟨u6, u65, u66, u67, u68, u69, u70, u71, u72, rfl, hb, g0, g1, g2, g3, g4, g5, g6, g7, g8, g9, g10, g11, g12, g13, g14⟩ hl hd K hK
              dsimp only at hK ⊢
              go_simp
              exact hK _ _ ⟨_, _, _, _, _, _, _, _, _, rfl, hb, g0, g1, g2, g3, fun _ => rfl, g5, g6, g7, g8, g9, fun _ => rfl, g11, g12, g13, g14⟩
            · rintro L a w' ⟨u6, u65, u66, u67, u68, u69, u70, u71, u72, rfl, hb, g0, g1, g2, g3, g4, g5, g6, g7, g8, g9, g10, g11, g12, g13, g14⟩ hl hd K hK
              simp [Region.binds] at hd
              dsimp only at hK ⊢
              have e4 := g4 (by simp [hd])
              subst e4
              go_simp
              exact hK _ _ ⟨_, _, _, _, _, _, _, _, _, rfl, hb, g0, g1, g2, g3, g4, fun _ => rfl, g6, g7, g8, g9, fun _ => (by show L 4 = true; simp [hd]), fun h => ⟨(g11 h).1, rfl⟩, g12, g13, g14⟩
            · rintro L a w' ⟨u6, u65, u66, u67, u68, u69, u70, u71, u72, rfl, hb, g0, g1, g2, g3, g4, g5, g6, g7, g8, g9, g10, g11, g12, g13, g14⟩ hl hd K hK
              simp [Region.binds] at hd
              dsimp only at hK ⊢
              have e3 := g3 (by simp [hd])
              subst e3
              have e5 := g5 (by simp [hd])
              subst e5
              go_simp
              exact hK _ _ ⟨_, _, _, _, _, _, _, _, _, rfl, hb, g0, g1, g2, g3, g4, g5, fun _ => rfl, g7, g8, g9, g10, fun _ => (by constructor <;> first | (show L 3 = true; simp [hd]) | (show L 5 = true; simp [hd])), fun h => ⟨(g12 h).1, rfl⟩, g13, g14⟩
            · rintro L a w' ⟨u6, u65, u66, u67, u68, u69, u70, u71, u72, rfl, hb, g0, g1, g2, g3, g4, g5, g6, g7, g8, g9, g10, g11, g12, g13, g14⟩ hl hd K hK
              simp [Region.binds] at hd
              dsimp only at hK
              have e2 := g2 (by simp [hd])
              subst e2
              have e6 := g6 (by simp [hd])
              subst e6
              have hd2 : L 2 = true := by simp [hd]
              have hd6 : L 6 = true := by simp [hd]
              have ew := hb.1 hl
              subst ew
              refine step_append_room rfl (.tmp 67) (.tmp 71) 22 rfl 34 i0 12 under_entry hi0 hi1 g 0 j c' (by rfl) A (l'.length - (j + 1)) (c' - (j + 1)) news (by rfl) hlen.out hsrc.out s2'.out s4'.out s3'.out ?_
              rw [← hWh.out]
              exact hK _ _ ⟨_, _, _, _, _, _, _, _, _, rfl, ⟨nofun, fun _ => rfl⟩, g0, g1, g2, g3, g4, g5, g6, fun _ => rfl, g8, g9, g10, g11, fun _ => ⟨hd2, hd6⟩, fun _ => rfl, g14⟩
            · rintro L a w' ⟨u6, u65, u66, u67, u68, u69, u70, u71, u72, rfl, hb, g0, g1, g2, g3, g4, g5, g6, g7, g8, g9, g10, g11, g12, g13, g14⟩ hl hd K hK
              simp [Region.binds] at hd
              dsimp only at hK ⊢
              have e7 := g7 (by simp [hd])
              subst e7
              have HHB := Lib.hid hb
              clear hb
              go_simp
              exact hK _ _ ⟨_, _, _, _, _, _, _, _, _, rfl, HHB.out, g0, g1, g2, g3, g4, g5, g6, g7, fun _ => rfl, g9, g10, g11, g12, fun _ => (by show L 7 = true; simp [hd]), nofun⟩
          rintro a w9 ⟨u6, u65, u66, u67, u68, u69, u70, u71, u72, rfl, hb, g0, g1, g2, g3, g4, g5, g6, g7, g8, g9, g10, g11, g12, g13, g14⟩
          have e8 := g8 rfl
          subst e8
          have ew := hb.2 rfl
          subst ew
          clear g0 g1 g2 g3 g4 g5 g6 g7 g8 g9 g10 g11 g12 g13 g14 hb
          clear hA hsrc hlen s2' s3' s4' hic hjc hj0 hjl hjw hjt
          go_wp2
          go_roundw
          case rel =>
            have ho9 := HO7.out
            have hle : (l'.eraseIdx j).length ≤ 256 := Nat.le_trans (List.length_eraseIdx_le l' j) hl'
            refine ⟨k + 1, l'.eraseIdx j, by go_num, by omega, HR'.out, HG', hle, HB7.out, ?_⟩
            rw [← HN1.out]; exact ho9
          case measure => simp [intOf]; omega
      · have HRE := Lib.hid (remAll_end hrem.out (Nat.le_of_not_lt hlt))
        have HBa := Lib.hid hb
        have HOa := Lib.hid ho
        have bR3 := HG.out.below hb HG.out.lt
        have r0 := bR3.cell 0
        have r1 := bR3.cell 1
        have r2 := bR3.cell 2
        have r3 := bR3.cell 3
        have r4 := bR3.cell 4
        have r5 := bR3.cell 5
        simp only [List.getElem?_toArray, List.getElem?_cons_zero, List.getElem?_cons_succ] at r0 r1 r2 r3 r4 r5
        clear hb ho hrem bR3
        obtain ⟨wo, rfl⟩ : ∃ wo : World, wo = wr := ⟨_, rfl⟩
        go_wp2
        clear r0 r1 r2 r3 r4 r5
        go_loopw [77] (fun i wr => ∃ (k2 : Nat), i = .int .i64 k2 ∧ k2 ≤ add.length ∧ Hid (dupB l' (add.take k2) = false) ∧ Below wo.heap.size wo wr) (fun i _ => add.length - (intOf i).toNat)
        case atStart => exact ⟨0, rfl, Nat.zero_le _, rfl, Below.refl _ _⟩
        case round =>
          obtain ⟨k2, rfl, hk2, hdup, hbo⟩ := hrel
          have hb : Below w2.heap.size w2 wr := HBa.out.trans (hbo.mono HBa.out.size)
          by_cases hlt2 : k2 < add.length
          · obtain ⟨ad, e, q, rfl, he, hq, hE⟩ := (HA2.out.below hb).ent_load rfl hlt2
            have HE := Lib.hid he
            obtain ⟨hplt, c0, c1, c2, c3, c4, c5, c6, c7, c8, c9, c10, c11⟩ := hE
            clear he
            obtain ⟨Wb, hWb⟩ : ∃ Wb, Wb = wr.alloc (.cells e.cells.toArray 34) := ⟨_, rfl⟩
            have bE : Blk Wb wr.heap.size 34 e.cells.toArray := by rw [hWb]; exact Blk.new _ _ _
            have hbW : Below wo.heap.size wo Wb := by rw [hWb]; exact hbo.alloc hbo.size _
            have HC := Lib.hid (rindex_any (.slice A' l'.length c') l' e.id Wb ((Sl.of_own HOa.out).below hbW) (by omega))
            have e0 : Wb.cell? ⟨wr.heap.size, 0, none⟩ = some (.int .i64 e.id) := bE.cell 0
            have HBW := Lib.hid hbW
            unfold Ent.cells at hWb
            cases hi : idxE l' e.id with
            | some j =>
              have HEX := Lib.hid (HAP.out.trans (applyGo_dup HRE.out (dup_hit HE.out hi)))
              rw [idxV_some hi] at HC
              clear hi hdup hb bE hbW hbo
              go_upto_region 19 with (fail)
              rw [← hWb]
              clear hWb
              go_wp2_with fail
              refine HC.out.mono ?_
              rintro _ w5 ⟨rfl, hb5⟩
              have hb6 := HBa.out.trans ((bst HBW.out hb5).mono HBa.out.size)
              have bZ5 := HZ.out.below hb6 HZ.out.lt
              have hB5 := bst HB2.out hb6
              clear hb5 hb6 e0 c0 c1 c2 c3 c4 c5 c6 c7 c8 c9 c10 c11
              have f0 := bZ5.frozen 0
              have f1 := bZ5.frozen 1
              have f2 := bZ5.frozen 2
              have f3 := bZ5.frozen 3
              have c0 := bZ5.cell 0
              have c1 := bZ5.cell 1
              have c2 := bZ5.cell 2
              have c3 := bZ5.cell 3
              simp only [List.getElem?_toArray, List.getElem?_cons_zero, List.getElem?_cons_succ] at c0 c1 c2 c3
              have hlt := bZ5.lt
              have HX := Lib.hid (exitZ rfl bZ5 hB5)
              go_wp2
              obtain ⟨V, hV⟩ : ∃ V, V = (((w5.setCell ⟨w.heap.size + 2, 0, none⟩ (.int .i64 0)).setCell ⟨w.heap.size + 2, 1, none⟩ (.int .i64 0)).setCell ⟨w.heap.size + 2, 2, none⟩ (.int .i64 0)).setCell ⟨w.heap.size + 2, 3, none⟩ (.slice none 0 0) := ⟨_, rfl⟩
              obtain ⟨d0, d1, d2, d3, HXB⟩ := HX.out V hV
              rw [← hV]
              exact bodyPost_ret (v := .tuple #[.agg #[.int .i64 0, .int .i64 0, .int .i64 0, .slice none 0 0], .int .i64 5]) (by simp [results, Try.results18, go_sem, d0, d1, d2, d3]) rfl (retApply_err HEX.out HXB)
            | none =>
              have HDN := Lib.hid (dup_next hdup.out HE.out hi)
              rw [idxV_none hi] at HC
              clear hi hdup hb bE hbW hbo
              go_upto_region 19 with (fail)
              rw [← hWb]
              clear hWb
              go_wp2_with fail
              refine HC.out.mono ?_
              rintro _ w5 ⟨rfl, hb5⟩
              have HB5 := Lib.hid (bst HBW.out hb5)
              clear hb5 e0 c0 c1 c2 c3 c4 c5 c6 c7 c8 c9 c10 c11
              go_wp2
              go_roundw
              case rel => exact ⟨k2 + 1, by go_num, by omega, HDN, HB5.out⟩
              case measure => simp [intOf]; omega
          · have hfull : add.take k2 = add := List.take_of_length_le (by omega)
            rw [hfull] at hdup
            have HLG := Lib.hid (HAP.out.trans (applyGo_last HRE.out hdup.out))
            have HDP := Lib.hid hdup.out
            have bR3 := HG.out.below hb HG.out.lt
            have r0 := bR3.cell 0
            have r1 := bR3.cell 1
            have r2 := bR3.cell 2
            have r3 := bR3.cell 3
            have r4 := bR3.cell 4
            have r5 := bR3.cell 5
            simp only [List.getElem?_toArray, List.getElem?_cons_zero, List.getElem?_cons_succ] at r0 r1 r2 r3 r4 r5
            have HOb := Lib.hid (own_below HOa.out hbo)
            have HBb := Lib.hid hb
            clear hfull hdup hb hbo bR3
            obtain ⟨wp, rfl⟩ : ∃ wp : World, wp = wr := ⟨_, rfl⟩
            go_wp2
            clear r0 r1 r2 r3 r4 r5
            go_loopw [91, 6] (fun i v2 wr => ∃ (k3 : Nat), i = .int .i64 k3 ∧ k3 ≤ add.length ∧ Below w2.heap.size w2 wr ∧ wr.ownsRow w2.heap.size 34 12 v2 (insAll l' (add.take k3)).length (ents (insAll l' (add.take k3)))) (fun i _ _ => add.length - (intOf i).toNat)
            case atStart => exact ⟨0, rfl, Nat.zero_le _, HBb.out, HOb.out⟩
            case round =>
              obtain ⟨k3, rfl, hk3, hb, ho⟩ := hrel
              obtain ⟨A2, c2', rfl, hc1', hc2'⟩ := (Sl.of_own ho).form
              unfold maxLen at hc2'
              have hlen2 : (insAll l' (add.take k3)).length = l'.length + k3 := by rw [(insAll_perm l' (add.take k3)).length_eq, List.length_append, List.length_take]; omega
              by_cases hlt3 : k3 < add.length
              · obtain ⟨ad, e, q, rfl, he, hq, hE⟩ := (HA2.out.below hb).ent_load rfl hlt3
                obtain ⟨L2, hL2⟩ : ∃ L2, insAll l' (add.take k3) = L2 := ⟨_, rfl⟩
                have HTS := Lib.hid (show insAll l' (add.take (k3 + 1)) = insE L2 e by rw [← hL2]; exact insAll_next he)
                rw [hL2] at ho hlen2 hc1' ⊢
                have hl2b : L2.length ≤ 600 := by omega
                obtain ⟨i1, ro1, li1, ⟨a1, b1, s1, d1⟩, ⟨a2, b2, s2, d2⟩, de1⟩ := e
                obtain ⟨hplt, c0, c1, c2, c3, c4, c5, c6, c7, c8, c9, c10, c11⟩ := hE
                clear he hL2 hlen2
                obtain ⟨Wb, hWb⟩ : ∃ Wb, Wb = wr.alloc (.cells #[.int .i64 i1, .int .i64 ro1, .int .i64 li1, .bool a1, .int .i64 b1, .string s1, .int .i64 d1, .bool a2, .int .i64 b2, .string s2, .int .i64 d2, .int .i64 de1] 34) := ⟨_, rfl⟩
                have bE : Blk Wb wr.heap.size 34 #[.int .i64 i1, .int .i64 ro1, .int .i64 li1, .bool a1, .int .i64 b1, .string s1, .int .i64 d1, .bool a2, .int .i64 b2, .string s2, .int .i64 d2, .int .i64 de1] := by rw [hWb]; exact Blk.new _ _ _
                have hbW : Below w2.heap.size w2 Wb := by rw [hWb]; exact hb.alloc hb.size _
                have hoW : Wb.ownsRow w2.heap.size 34 12 (.slice A2 L2.length c2') L2.length (ents L2) := by rw [hWb]; exact ho.alloc _
                have HC := Lib.hid (rinsert_any (.slice A2 L2.length c2') w2.heap.size L2 i1 ro1 li1 b1 d1 b2 d2 de1 a1 a2 s1 s2 Wb hoW (by omega))
                have e0 := bE.cell 0
                have e1 := bE.cell 1
                have e2 := bE.cell 2
                have e3 := bE.cell 3
                have e4 := bE.cell 4
                have e5 := bE.cell 5
                have e6 := bE.cell 6
                have e7 := bE.cell 7
                have e8 := bE.cell 8
                have e9 := bE.cell 9
                have e10 := bE.cell 10
                have e11 := bE.cell 11
                simp only [List.getElem?_toArray, List.getElem?_cons_zero, List.getElem?_cons_succ] at e0 e1 e2 e3 e4 e5 e6 e7 e8 e9 e10 e11
                have HBW := Lib.hid hbW
                clear ho hb bE hbW hoW
                go_upto_region 25 with (fail)
                rw [← hWb]
                clear hWb
                go_wp2_with fail
                refine HC.out.mono ?_
                rintro _ w5 ⟨v5, rfl, ho5, hb5⟩
                have HO5 := Lib.hid (own_mono ho5 HBW.out.size)
                have HB5 := Lib.hid (HBW.out.trans (hb5.mono HBW.out.size))
                clear ho5 hb5 c0 c1 c2 c3 c4 c5 c6 c7 c8 c9 c10 c11 e0 e1 e2 e3 e4 e5 e6 e7 e8 e9 e10 e11
                go_wp2
                go_roundw
                case rel => exact ⟨k3 + 1, by go_num, by omega, HB5.out, by rw [HTS.out]; exact HO5.out⟩
                case measure => simp [intOf]; omega
              · have hfull : add.take k3 = add := List.take_of_length_le (by omega)
                rw [hfull] at ho hlen2 hc1' ⊢
                obtain ⟨S, hS⟩ : ∃ S, insAll l' add = S := ⟨_, rfl⟩
                have hsm3 : ∀ e ∈ S, e.small := fun e he => by
                  rw [← hS] at he
                  rcases List.mem_append.1 (((insAll_perm l' add).mem_iff).1 he) with h | h
                  · exact (hgood.out.2.2 e h).2
                  · exact ham e h
                rw [hS] at HLG ho hlen2 hc1' ⊢
                have hsb3 : S.length ≤ 600 := by omega
                have HB := Lib.hid hb
                have bR3 := HG.out.below hb HG.out.lt
                have r0 := bR3.cell 0
                have r1 := bR3.cell 1
                have r2 := bR3.cell 2
                have r3 := bR3.cell 3
                have r4 := bR3.cell 4
                have r5 := bR3.cell 5
                simp only [List.getElem?_toArray, List.getElem?_cons_zero, List.getElem?_cons_succ] at r0 r1 r2 r3 r4 r5
                clear hS hlen2 hfull bR3
                by_cases hbig : 256 < S.length
                · have q6 : decide ((256 : Int) < (S.length : Int)) = true := decide_eq_true (by omega)
                  have HEX := Lib.hid (HLG.out.trans (lastV_full hbig))
                  have bZ5 := HZ.out.below hb HZ.out.lt
                  have hB5 := bst HB2.out hb
                  clear hbig hb ho hsm3
                  have f0 := bZ5.frozen 0
                  have f1 := bZ5.frozen 1
                  have f2 := bZ5.frozen 2
                  have f3 := bZ5.frozen 3
                  have c0 := bZ5.cell 0
                  have c1 := bZ5.cell 1
                  have c2 := bZ5.cell 2
                  have c3 := bZ5.cell 3
                  simp only [List.getElem?_toArray, List.getElem?_cons_zero, List.getElem?_cons_succ] at c0 c1 c2 c3
                  have hlt := bZ5.lt
                  have HX := Lib.hid (exitZ rfl bZ5 hB5)
                  go_wp2
                  obtain ⟨V, hV⟩ : ∃ V, V = (((wr.setCell ⟨w.heap.size + 2, 0, none⟩ (.int .i64 0)).setCell ⟨w.heap.size + 2, 1, none⟩ (.int .i64 0)).setCell ⟨w.heap.size + 2, 2, none⟩ (.int .i64 0)).setCell ⟨w.heap.size + 2, 3, none⟩ (.slice none 0 0) := ⟨_, rfl⟩
                  obtain ⟨d0, d1, d2, d3, HXB⟩ := HX.out V hV
                  rw [← hV]
                  exact bodyPost_ret (v := .tuple #[.agg #[.int .i64 0, .int .i64 0, .int .i64 0, .slice none 0 0], .int .i64 7]) (by simp [results, Try.results18, go_sem, d0, d1, d2, d3]) rfl (retApply_err HEX.out HXB)
                · have q6 : decide ((256 : Int) < (S.length : Int)) = false := decide_eq_false (by omega)
                  have HNB := Lib.hid hbig
                  obtain ⟨Wn, hWn⟩ : ∃ Wn, Wn = wr.alloc (.cells #[.int .i64 rver, .int .i64 rseq, .int .i64 rnid, .slice A2 S.length c2'] 24) := ⟨_, rfl⟩
                  have bN : Blk Wn wr.heap.size 24 #[.int .i64 rver, .int .i64 rseq, .int .i64 rnid, .slice A2 S.length c2'] := by rw [hWn]; exact Blk.new _ _ _
                  have hbW : Below w2.heap.size w2 Wn := by rw [hWn]; exact hb.alloc hb.size _
                  have hoW : Wn.ownsRow w2.heap.size 34 12 (.slice A2 S.length c2') S.length (ents S) := by rw [hWn]; exact ho.alloc _
                  have n0 := bN.cell 0
                  have n1 := bN.cell 1
                  have n2 := bN.cell 2
                  have n3 := bN.cell 3
                  simp only [List.getElem?_toArray, List.getElem?_cons_zero, List.getElem?_cons_succ] at n0 n1 n2 n3
                  have HO5 := Lib.hid hoW
                  have HN5 := Lib.hid bN
                  have HB5 := Lib.hid hbW
                  clear hbig hb ho
                  cases hsb : snapB rver rseq rnid S with
                  | false =>
                    have HEX := Lib.hid (HLG.out.trans (lastV_bad HNB.out hsb))
                    have HCC := Lib.hid (rsnapCheck_b' hsb (Sl.of_own hoW) hsm3 (by omega) Wn (Below.refl _ _))
                    clear hsb hoW bN hbW hsm3
                    go_upto_region 30 with (fail)
                    rw [← hWn]
                    clear hWn
                    go_wp2_with fail
                    refine HCC.out.mono ?_
                    rintro _ w6 ⟨rfl, hb6⟩
                    have hb7 := HB5.out.trans (hb6.mono HB5.out.size)
                    have bZ5 := HZ.out.below hb7 HZ.out.lt
                    have hB5 := bst HB2.out hb7
                    clear n0 n1 n2 n3 r0 r1 r2 r3 r4 r5 hb6 hb7
                    have f0 := bZ5.frozen 0
                    have f1 := bZ5.frozen 1
                    have f2 := bZ5.frozen 2
                    have f3 := bZ5.frozen 3
                    have c0 := bZ5.cell 0
                    have c1 := bZ5.cell 1
                    have c2 := bZ5.cell 2
                    have c3 := bZ5.cell 3
                    simp only [List.getElem?_toArray, List.getElem?_cons_zero, List.getElem?_cons_succ] at c0 c1 c2 c3
                    have hlt := bZ5.lt
                    have HX := Lib.hid (exitZ rfl bZ5 hB5)
                    go_wp2
                    obtain ⟨V, hV⟩ : ∃ V, V = (((w6.setCell ⟨w.heap.size + 2, 0, none⟩ (.int .i64 0)).setCell ⟨w.heap.size + 2, 1, none⟩ (.int .i64 0)).setCell ⟨w.heap.size + 2, 2, none⟩ (.int .i64 0)).setCell ⟨w.heap.size + 2, 3, none⟩ (.slice none 0 0) := ⟨_, rfl⟩
                    obtain ⟨d0, d1, d2, d3, HXB⟩ := HX.out V hV
                    rw [← hV]
                    exact bodyPost_ret (v := .tuple #[.agg #[.int .i64 0, .int .i64 0, .int .i64 0, .slice none 0 0], .int .i64 1]) (by simp [results, Try.results18, go_sem, d0, d1, d2, d3]) rfl (retApply_err HEX.out HXB)
                  | true =>
                    have HEX := Lib.hid (HLG.out.trans (lastV_ok HNB.out hsb))
                    have HCC := Lib.hid (rsnapCheck_b' hsb (Sl.of_own hoW) hsm3 (by omega) Wn (Below.refl _ _))
                    clear hsb hoW bN hbW hsm3
                    go_upto_region 30 with (fail)
                    rw [← hWn]
                    clear hWn
                    go_wp2_with fail
                    refine HCC.out.mono ?_
                    rintro _ w6 ⟨rfl, hb6⟩
                    have ho6 := own_below HO5.out hb6
                    have bN6 := HN5.out.below hb6 HN5.out.lt
                    have hb7 := HB5.out.trans (hb6.mono HB5.out.size)
                    have bZ6 := HZ.out.below hb7 HZ.out.lt
                    have hB6 := bst HB2.out hb7
                    clear n0 n1 n2 n3 r0 r1 r2 r3 r4 r5 hb6 hb7
                    have n0 := bN6.cell 0
                    have n1 := bN6.cell 1
                    have n2 := bN6.cell 2
                    have n3 := bN6.cell 3
                    simp only [List.getElem?_toArray, List.getElem?_cons_zero, List.getElem?_cons_succ] at n0 n1 n2 n3
                    have c0 := bZ6.cell 0
                    have c1 := bZ6.cell 1
                    have c2 := bZ6.cell 2
                    have c3 := bZ6.cell 3
                    simp only [List.getElem?_toArray, List.getElem?_cons_zero, List.getElem?_cons_succ] at c0 c1 c2 c3
                    have f0 := bZ6.frozen 0
                    have f1 := bZ6.frozen 1
                    have f2 := bZ6.frozen 2
                    have f3 := bZ6.frozen 3
                    have hlt := bZ6.lt
                    have HO6 := Lib.hid (own_mono ho6 HW2)
                    have HB6 := Lib.hid hB6
                    have HZ6 := Lib.hid bZ6
                    clear ho6 bN6 hB6 bZ6
                    go_wp2
                    have kg := grown4 w6 (w.heap.size + 2) (.int .i64 rver) (.int .i64 rseq) (.int .i64 rnid) (.slice A2 S.length c2')
                    have kb := blk4 (.int .i64 rver) (.int .i64 rseq) (.int .i64 rnid) (.slice A2 S.length c2') HZ6.out
                    have ko := own_row HO6.out kg (fun b hb' e => own_blk_ne HO6.out HZ6.out (by decide) (by rw [hb', e]))
                    have kw := below_row HB6.out kg (by omega) HB6.out.size
                    obtain ⟨V, hV⟩ : ∃ V, V = (((w6.setCell ⟨w.heap.size + 2, 0, none⟩ (.int .i64 rver)).setCell ⟨w.heap.size + 2, 1, none⟩ (.int .i64 rseq)).setCell ⟨w.heap.size + 2, 2, none⟩ (.int .i64 rnid)).setCell ⟨w.heap.size + 2, 3, none⟩ (.slice A2 S.length c2') := ⟨_, rfl⟩
                    rw [← hV] at kb ko kw ⊢
                    have d0 := kb.cell 0
                    have d1 := kb.cell 1
                    have d2 := kb.cell 2
                    have d3 := kb.cell 3
                    simp only [List.getElem?_toArray, List.getElem?_cons_zero, List.getElem?_cons_succ] at d0 d1 d2 d3
                    exact bodyPost_ret (v := .tuple #[.agg #[.int .i64 rver, .int .i64 rseq, .int .i64 rnid, .slice A2 S.length c2'], .int .i64 0]) (by simp [results, Try.results18, go_sem, d0, d1, d2, d3]) rfl (by rw [HEX.out]; exact ⟨_, rfl, ko, kw⟩)
end Go.Proofs.Ytoikgjhekemjdaa
