/-
  The contract of snapshot.Apply.
-/
import Derived.Test.YtoikgjhekemjdaaEntSort
import Derived.Test.YtoikgjhekemjdaaRecCheck
import Derived.Test.YtoikgjhekemjdaaSnapGen
import Derived.Test.YtoikgjhekemjdaaInv2
import Derived.Test.YtoikgjhekemjdaaApplyLaw
import Derived.Deep.DeepCutAuto
import Derived.Deep.CutBlock
namespace Go.Proofs.Ytoikgjhekemjdaa
open Go.RowKit Go.Sort
set_option maxRecDepth 100000 in
set_option maxHeartbeats 8000000 in
theorem apply_any (ver seq nid : Int) (l : List Ent) (kind rver rseq rnid : Int) (add : List Ent) (rem : List Int) (vs va vr : Value) (w : World)
    (hs : Sl w 12 vs l.length (ents l)) (hsm : ∀ e ∈ l, e.small) (hsl : l.length ≤ 9223372036854775807) (ha : Sl w 12 va add.length (ents add)) (ham : ∀ e ∈ add, e.small) (hal : add.length ≤ 9223372036854775807)
    (hr : Sl w 1 vr rem.length (ints rem)) (hrl : rem.length ≤ 9223372036854775807) :
    Calls Try.prog 12 #[.agg #[.int .i64 ver, .int .i64 seq, .int .i64 nid, vs], .agg #[.int .i64 kind, .int .i64 rver, .int .i64 rseq, .int .i64 rnid, va, vr]] w (RetApply w (applyV ⟨ver, seq, nid, l⟩ ⟨kind, rver, rseq, rnid, add, rem⟩)) := by
  obtain ⟨AS, cS, rfl, hS1, hS2⟩ := hs.form
  obtain ⟨AA, cA, rfl, hA1, hA2⟩ := ha.form
  obtain ⟨AR, cR, rfl, hR1, hR2⟩ := hr.form
  unfold maxLen at hS2 hA2 hR2
  obtain ⟨W, hW⟩ : ∃ W, W = ((w.alloc (.cells #[.int .i64 ver, .int .i64 seq, .int .i64 nid, .slice AS l.length cS] 24)).alloc (.cells #[.int .i64 kind, .int .i64 rver, .int .i64 rseq, .int .i64 rnid, .slice AA add.length cA, .slice AR rem.length cR] 38)).alloc (.cells #[.int .i64 0, .int .i64 0, .int .i64 0, .slice none 0 0] 24) := ⟨_, rfl⟩
  have bS : Blk W w.heap.size 24 #[.int .i64 ver, .int .i64 seq, .int .i64 nid, .slice AS l.length cS] := by rw [hW]; exact ((Blk.new _ _ _).alloc _).alloc _
  have bR : Blk W (w.heap.size + 1) 38 #[.int .i64 kind, .int .i64 rver, .int .i64 rseq, .int .i64 rnid, .slice AA add.length cA, .slice AR rem.length cR] := by
    have := (Blk.new (w.alloc (.cells #[.int .i64 ver, .int .i64 seq, .int .i64 nid, .slice AS l.length cS] 24)) 38 #[.int .i64 kind, .int .i64 rver, .int .i64 rseq, .int .i64 rnid, .slice AA add.length cA, .slice AR rem.length cR]).alloc (.cells #[.int .i64 0, .int .i64 0, .int .i64 0, .slice none 0 0] 24)
    rw [hW]; simpa using this
  have bZ : Blk W (w.heap.size + 2) 24 #[.int .i64 0, .int .i64 0, .int .i64 0, .slice none 0 0] := by
    have := Blk.new ((w.alloc (.cells #[.int .i64 ver, .int .i64 seq, .int .i64 nid, .slice AS l.length cS] 24)).alloc (.cells #[.int .i64 kind, .int .i64 rver, .int .i64 rseq, .int .i64 rnid, .slice AA add.length cA, .slice AR rem.length cR] 38)) 24 #[.int .i64 0, .int .i64 0, .int .i64 0, .slice none 0 0]
    rw [hW]; simpa using this
  have hB : Below w.heap.size w W := by rw [hW]; exact (abel2 _ _ _).alloc (by simp; omega) _
  have hsW := hs.below hB
  have haW := ha.below hB
  have hrW := hr.below hB
  cases hok : snapB ver seq nid l with
  | false =>
    have HE := Lib.hid (applyV_bad (s := ⟨ver, seq, nid, l⟩) (r := ⟨kind, rver, rseq, rnid, add, rem⟩) (.inl hok))
    have C1 := Lib.hid (snapCheck_b' hok hsW hsm hsl W (Below.refl _ _))
    clear hok hs ha hr hsW haW hrW
    have s0 := bS.cell 0
    have s1 := bS.cell 1
    have s2 := bS.cell 2
    have s3 := bS.cell 3
    simp only [List.getElem?_toArray, List.getElem?_cons_zero, List.getElem?_cons_succ] at s0 s1 s2 s3
    go_enter Try.func12, Try.ntmps12
    go_wp2_with fail
    rw [← hW]
    clear hW
    go_wp2_with fail
    refine C1.out.mono ?_
    rintro _ w1 ⟨rfl, hb1⟩
    have bZ1 := bZ.below hb1 bZ.lt
    have hB1 := bst hB hb1
    clear s0 s1 s2 s3 bS bR bZ hB hb1 C1
    have f0 := bZ1.frozen 0
    have f1 := bZ1.frozen 1
    have f2 := bZ1.frozen 2
    have f3 := bZ1.frozen 3
    have c0 := bZ1.cell 0
    have c1 := bZ1.cell 1
    have c2 := bZ1.cell 2
    have c3 := bZ1.cell 3
    simp only [List.getElem?_toArray, List.getElem?_cons_zero, List.getElem?_cons_succ] at c0 c1 c2 c3
    have hlt := bZ1.lt
    have HX := Lib.hid (exitZ rfl bZ1 hB1)
    go_wp2
    obtain ⟨V, hV⟩ : ∃ V, V = (((w1.setCell ⟨w.heap.size + 2, 0, none⟩ (.int .i64 0)).setCell ⟨w.heap.size + 2, 1, none⟩ (.int .i64 0)).setCell ⟨w.heap.size + 2, 2, none⟩ (.int .i64 0)).setCell ⟨w.heap.size + 2, 3, none⟩ (.slice none 0 0) := ⟨_, rfl⟩
    obtain ⟨d0, d1, d2, d3, HXB⟩ := HX.out V hV
    rw [← hV]
    exact bodyPost_ret (v := .tuple #[.agg #[.int .i64 0, .int .i64 0, .int .i64 0, .slice none 0 0], .int .i64 1]) (by simp [results, Try.results12, go_sem, d0, d1, d2, d3]) rfl (retApply_err HE.out HXB)
  | true =>
    have HOK := Lib.hid hok
    obtain ⟨⟨y1, y2, y3, y4, y5, y6, hl256⟩, hE⟩ := snapB_parts hok
    have C1 := Lib.hid (snapCheck_b' hok hsW hsm hsl W (Below.refl _ _))
    have C2 := Lib.hid (fun X (h : Below W.heap.size W X) => recCheck_any kind rver rseq rnid add rem _ _ X (haW.below h) ham hal (hrW.below h) hrl)
    clear hok
    have s0 := bS.cell 0
    have s1 := bS.cell 1
    have s2 := bS.cell 2
    have s3 := bS.cell 3
    simp only [List.getElem?_toArray, List.getElem?_cons_zero, List.getElem?_cons_succ] at s0 s1 s2 s3
    go_enter Try.func12, Try.ntmps12
    go_wp2_with fail
    rw [← hW]
    clear hW
    go_wp2_with fail
    refine C1.out.mono ?_
    rintro _ w1 ⟨rfl, hb1⟩
    have bS1 := bS.below hb1 bS.lt
    have bR1 := bR.below hb1 bR.lt
    have bZ1 := bZ.below hb1 bZ.lt
    have hB1 := bst hB hb1
    have C2' := Lib.hid (C2.out w1 hb1)
    have hs1 := hsW.below hb1
    have ha1 := haW.below hb1
    have hr1 := hrW.below hb1
    clear s0 s1 s2 s3 bS bR bZ hB hb1 C1 C2 hs ha hr hsW haW hrW
    have r0 := bR1.cell 0
    have r1 := bR1.cell 1
    have r2 := bR1.cell 2
    have r3 := bR1.cell 3
    have r4 := bR1.cell 4
    have r5 := bR1.cell 5
    simp only [List.getElem?_toArray, List.getElem?_cons_zero, List.getElem?_cons_succ] at r0 r1 r2 r3 r4 r5
    obtain ⟨n, hn⟩ : ∃ n, recV ⟨kind, rver, rseq, rnid, add, rem⟩ = n := ⟨_, rfl⟩
    rw [hn] at C2'
    have HN := Lib.hid hn
    clear hn
    go_wp2_with fail
    refine C2'.out.mono ?_
    rintro _ w2 ⟨rfl, hb2⟩
    have bS2 := bS1.below hb2 bS1.lt
    have bR2 := bR1.below hb2 bR1.lt
    have bZ2 := bZ1.below hb2 bZ1.lt
    have hB2 := bst hB1 hb2
    have hs2 := hs1.below hb2
    have ha2 := ha1.below hb2
    have hr2 := hr1.below hb2
    clear r0 r1 r2 r3 r4 r5 bS1 bR1 bZ1 hB1 hb2 C2' hs1 ha1 hr1
    by_cases hn0 : n = 0
    case neg =>
      have q1 : (n != 0) = true := by simpa using hn0
      have HE := Lib.hid (applyV_bad (s := ⟨ver, seq, nid, l⟩) (r := ⟨kind, rver, rseq, rnid, add, rem⟩) (.inr (.inl (by rw [HN.out]; exact hn0))))
      clear hn0 hs2 ha2 hr2 bS2 bR2
      have f0 := bZ2.frozen 0
      have f1 := bZ2.frozen 1
      have f2 := bZ2.frozen 2
      have f3 := bZ2.frozen 3
      have c0 := bZ2.cell 0
      have c1 := bZ2.cell 1
      have c2 := bZ2.cell 2
      have c3 := bZ2.cell 3
      simp only [List.getElem?_toArray, List.getElem?_cons_zero, List.getElem?_cons_succ] at c0 c1 c2 c3
      have hlt := bZ2.lt
      have HX := Lib.hid (exitZ rfl bZ2 hB2)
      go_wp2
      obtain ⟨V, hV⟩ : ∃ V, V = (((w2.setCell ⟨w.heap.size + 2, 0, none⟩ (.int .i64 0)).setCell ⟨w.heap.size + 2, 1, none⟩ (.int .i64 0)).setCell ⟨w.heap.size + 2, 2, none⟩ (.int .i64 0)).setCell ⟨w.heap.size + 2, 3, none⟩ (.slice none 0 0) := ⟨_, rfl⟩
      obtain ⟨d0, d1, d2, d3, HXB⟩ := HX.out V hV
      rw [← hV]
      exact bodyPost_ret (v := .tuple #[.agg #[.int .i64 0, .int .i64 0, .int .i64 0, .slice none 0 0], .int .i64 1]) (by simp [results, Try.results12, go_sem, d0, d1, d2, d3]) rfl (retApply_err HE.out HXB)
    have q1 : (n != 0) = false := by simpa using hn0
    have HN0 := Lib.hid (show recV ⟨kind, rver, rseq, rnid, add, rem⟩ = 0 by rw [HN.out]; exact hn0)
    clear hn0 HN
    have s0 := bS2.cell 0
    have s1 := bS2.cell 1
    have s2 := bS2.cell 2
    have s3 := bS2.cell 3
    simp only [List.getElem?_toArray, List.getElem?_cons_zero, List.getElem?_cons_succ] at s0 s1 s2 s3
    have r0 := bR2.cell 0
    have r1 := bR2.cell 1
    have r2 := bR2.cell 2
    have r3 := bR2.cell 3
    have r4 := bR2.cell 4
    have r5 := bR2.cell 5
    simp only [List.getElem?_toArray, List.getElem?_cons_zero, List.getElem?_cons_succ] at r0 r1 r2 r3 r4 r5
    by_cases hk : kind = 2
    case neg =>
      have q2 : (kind != 2) = true := by simpa using hk
      have HE := Lib.hid (applyV_bad (s := ⟨ver, seq, nid, l⟩) (r := ⟨kind, rver, rseq, rnid, add, rem⟩) (.inr (.inr hk)))
      clear hk hs2 ha2 hr2 bS2 bR2
      have f0 := bZ2.frozen 0
      have f1 := bZ2.frozen 1
      have f2 := bZ2.frozen 2
      have f3 := bZ2.frozen 3
      have c0 := bZ2.cell 0
      have c1 := bZ2.cell 1
      have c2 := bZ2.cell 2
      have c3 := bZ2.cell 3
      simp only [List.getElem?_toArray, List.getElem?_cons_zero, List.getElem?_cons_succ] at c0 c1 c2 c3
      have hlt := bZ2.lt
      have HX := Lib.hid (exitZ rfl bZ2 hB2)
      go_wp2
      obtain ⟨V, hV⟩ : ∃ V, V = (((w2.setCell ⟨w.heap.size + 2, 0, none⟩ (.int .i64 0)).setCell ⟨w.heap.size + 2, 1, none⟩ (.int .i64 0)).setCell ⟨w.heap.size + 2, 2, none⟩ (.int .i64 0)).setCell ⟨w.heap.size + 2, 3, none⟩ (.slice none 0 0) := ⟨_, rfl⟩
      obtain ⟨d0, d1, d2, d3, HXB⟩ := HX.out V hV
      rw [← hV]
      exact bodyPost_ret (v := .tuple #[.agg #[.int .i64 0, .int .i64 0, .int .i64 0, .slice none 0 0], .int .i64 1]) (by simp [results, Try.results12, go_sem, d0, d1, d2, d3]) rfl (retApply_err HE.out HXB)
    have q2 : (kind != 2) = false := by simpa using hk
    have HK := Lib.hid hk
    clear hk
    by_cases hv : rver = ver + 1
    case neg =>
      have q3 : (rver != ver + 1) = true := by simpa using hv
      have HE := Lib.hid (applyV_ver (s := ⟨ver, seq, nid, l⟩) (r := ⟨kind, rver, rseq, rnid, add, rem⟩) HOK.out HN0.out HK.out hv)
      clear hv hs2 ha2 hr2 bS2 bR2
      have f0 := bZ2.frozen 0
      have f1 := bZ2.frozen 1
      have f2 := bZ2.frozen 2
      have f3 := bZ2.frozen 3
      have c0 := bZ2.cell 0
      have c1 := bZ2.cell 1
      have c2 := bZ2.cell 2
      have c3 := bZ2.cell 3
      simp only [List.getElem?_toArray, List.getElem?_cons_zero, List.getElem?_cons_succ] at c0 c1 c2 c3
      have hlt := bZ2.lt
      have HX := Lib.hid (exitZ rfl bZ2 hB2)
      go_wp2
      obtain ⟨V, hV⟩ : ∃ V, V = (((w2.setCell ⟨w.heap.size + 2, 0, none⟩ (.int .i64 0)).setCell ⟨w.heap.size + 2, 1, none⟩ (.int .i64 0)).setCell ⟨w.heap.size + 2, 2, none⟩ (.int .i64 0)).setCell ⟨w.heap.size + 2, 3, none⟩ (.slice none 0 0) := ⟨_, rfl⟩
      obtain ⟨d0, d1, d2, d3, HXB⟩ := HX.out V hV
      rw [← hV]
      exact bodyPost_ret (v := .tuple #[.agg #[.int .i64 0, .int .i64 0, .int .i64 0, .slice none 0 0], .int .i64 13]) (by simp [results, Try.results12, go_sem, d0, d1, d2, d3]) rfl (retApply_err HE.out HXB)
    have q3 : (rver != ver + 1) = false := by simpa using hv
    have HV := Lib.hid hv
    clear hv
    by_cases hq : rseq < seq
    case pos =>
      have q4 : decide (rseq < seq) = true := decide_eq_true hq
      have HE := Lib.hid (applyV_range (s := ⟨ver, seq, nid, l⟩) (r := ⟨kind, rver, rseq, rnid, add, rem⟩) HOK.out HN0.out HK.out HV.out (.inl hq))
      clear hq hs2 ha2 hr2 bS2 bR2
      have f0 := bZ2.frozen 0
      have f1 := bZ2.frozen 1
      have f2 := bZ2.frozen 2
      have f3 := bZ2.frozen 3
      have c0 := bZ2.cell 0
      have c1 := bZ2.cell 1
      have c2 := bZ2.cell 2
      have c3 := bZ2.cell 3
      simp only [List.getElem?_toArray, List.getElem?_cons_zero, List.getElem?_cons_succ] at c0 c1 c2 c3
      have hlt := bZ2.lt
      have HX := Lib.hid (exitZ rfl bZ2 hB2)
      go_wp2
      obtain ⟨V, hV⟩ : ∃ V, V = (((w2.setCell ⟨w.heap.size + 2, 0, none⟩ (.int .i64 0)).setCell ⟨w.heap.size + 2, 1, none⟩ (.int .i64 0)).setCell ⟨w.heap.size + 2, 2, none⟩ (.int .i64 0)).setCell ⟨w.heap.size + 2, 3, none⟩ (.slice none 0 0) := ⟨_, rfl⟩
      obtain ⟨d0, d1, d2, d3, HXB⟩ := HX.out V hV
      rw [← hV]
      exact bodyPost_ret (v := .tuple #[.agg #[.int .i64 0, .int .i64 0, .int .i64 0, .slice none 0 0], .int .i64 4]) (by simp [results, Try.results12, go_sem, d0, d1, d2, d3]) rfl (retApply_err HE.out HXB)
    have q4 : decide (rseq < seq) = false := decide_eq_false hq
    by_cases hd : rnid < nid
    case pos =>
      have q5 : decide (rnid < nid) = true := decide_eq_true hd
      have HE := Lib.hid (applyV_range (s := ⟨ver, seq, nid, l⟩) (r := ⟨kind, rver, rseq, rnid, add, rem⟩) HOK.out HN0.out HK.out HV.out (.inr hd))
      clear hq hd hs2 ha2 hr2 bS2 bR2
      have f0 := bZ2.frozen 0
      have f1 := bZ2.frozen 1
      have f2 := bZ2.frozen 2
      have f3 := bZ2.frozen 3
      have c0 := bZ2.cell 0
      have c1 := bZ2.cell 1
      have c2 := bZ2.cell 2
      have c3 := bZ2.cell 3
      simp only [List.getElem?_toArray, List.getElem?_cons_zero, List.getElem?_cons_succ] at c0 c1 c2 c3
      have hlt := bZ2.lt
      have HX := Lib.hid (exitZ rfl bZ2 hB2)
      go_wp2
      obtain ⟨V, hV⟩ : ∃ V, V = (((w2.setCell ⟨w.heap.size + 2, 0, none⟩ (.int .i64 0)).setCell ⟨w.heap.size + 2, 1, none⟩ (.int .i64 0)).setCell ⟨w.heap.size + 2, 2, none⟩ (.int .i64 0)).setCell ⟨w.heap.size + 2, 3, none⟩ (.slice none 0 0) := ⟨_, rfl⟩
      obtain ⟨d0, d1, d2, d3, HXB⟩ := HX.out V hV
      rw [← hV]
      exact bodyPost_ret (v := .tuple #[.agg #[.int .i64 0, .int .i64 0, .int .i64 0, .slice none 0 0], .int .i64 4]) (by simp [results, Try.results12, go_sem, d0, d1, d2, d3]) rfl (retApply_err HE.out HXB)
    have q5 : decide (rnid < nid) = false := decide_eq_false hd
    have HAP := Lib.hid (applyV_go (s := ⟨ver, seq, nid, l⟩) (r := ⟨kind, rver, rseq, rnid, add, rem⟩) HOK.out HN0.out HK.out HV.out (fun h => h.elim hq hd))
    have HW2 := hB2.size
    clear hq hd
    go_wp2_with fail
    have HF := Lib.hid bS2
    have HG := Lib.hid bR2
    have HZ := Lib.hid bZ2
    clear s0 s1 s2 s3 r0 r1 r2 r3 r4 r5
    refine wp_region_inv (by kernel_rfl) (by kernel_rfl) (fun L a w' => ∃ v6 v49 v50 v51 v52 v53 v54 v55 v56 v57 v58 : Value, a = ⟨#[.agg #[.int .i64 ver, .int .i64 seq, .int .i64 nid, .slice AS l.length cS], .agg #[.int .i64 kind, .int .i64 rver, .int .i64 rseq, .int .i64 rnid, .slice AA add.length cA, .slice AR rem.length cR], .pointer (some ⟨w.heap.size, 0, none⟩), .pointer (some ⟨w.heap.size + 1, 0, none⟩), .pointer (some ⟨w.heap.size + 1 + 1, 0, none⟩), .int .i64 0, v6, undef, undef, undef, undef, undef, .bool false, .agg #[.int .i64 ver, .int .i64 seq, .int .i64 nid, .slice AS l.length cS], .bool true, .bool false, .bool false, .agg #[.int .i64 kind, .int .i64 rver, .int .i64 rseq, .int .i64 rnid, .slice AA add.length cA, .slice AR rem.length cR], .int .i64 n, .bool false, .bool false, .bool false, .pointer (some ⟨w.heap.size + 1, 0, none⟩), .int .i64 kind, .bool false, .bool false, undef, .bool false, .pointer (some ⟨w.heap.size + 1, 1, none⟩), .int .i64 rver, .pointer (some ⟨w.heap.size, 0, none⟩), .int .i64 ver, .int .i64 (ver + 1), .bool false, undef, .bool false, .pointer (some ⟨w.heap.size + 1, 2, none⟩), .int .i64 rseq, .pointer (some ⟨w.heap.size, 1, none⟩), .int .i64 seq, .bool false, .bool false, .pointer (some ⟨w.heap.size + 1, 3, none⟩), .int .i64 rnid, .pointer (some ⟨w.heap.size, 2, none⟩), .int .i64 nid, .bool false, .bool false, undef, v49, v50, v51, v52, v53, v54, v55, v56, v57, v58, undef, undef, undef, undef, undef, undef, undef, undef, undef, undef, undef, undef, undef, undef, undef, undef, undef, undef, undef, undef, undef, undef, undef, undef, undef, undef, undef, undef, undef, undef, undef, undef, undef, undef, undef, undef, undef, undef, undef, undef, undef, undef, undef, undef, undef, undef, undef, undef, undef, undef, undef, undef, undef, undef, undef, undef], []⟩ ∧
        Below w2.heap.size w2 w' ∧ Got (L 0) v49 (.pointer (some ⟨w.heap.size + 1, 1, none⟩)) ∧ Got (L 1) v50 (.int .i64 rver) ∧ Got (L 2) v51 (.pointer (some ⟨w.heap.size + 1, 2, none⟩)) ∧ Got (L 3) v52 (.int .i64 rseq) ∧ Got (L 4) v53 (.pointer (some ⟨w.heap.size + 1, 3, none⟩)) ∧ Got (L 5) v54 (.int .i64 rnid) ∧ Got (L 6) v55 (.pointer (some ⟨w.heap.size, 3, none⟩)) ∧ Got (L 7) v56 (.slice AS l.length cS) ∧
        (L 8 = true → w'.ownsRow w2.heap.size 34 12 v57 l.length (ents l)) ∧ Got (L 9) v58 (.agg #[.int .i64 rver, .int .i64 rseq, .int .i64 rnid, v57]) ∧
        (L 9 = true → L 8 = true) ∧ (L 11 = true → L 10 = true ∧ L 9 = true) ∧
        (L 10 = true → ∃ N, v6 = .pointer (some ⟨N, 0, none⟩) ∧ w2.heap.size ≤ N ∧ Blk w' N 24 (if L 11 = true then #[.int .i64 rver, .int .i64 rseq, .int .i64 rnid, v57] else #[.int .i64 0, .int .i64 0, .int .i64 0, .slice none 0 0])))
      ?_ ?_ ?_
    · exact ⟨undef, undef, undef, undef, undef, undef, undef, undef, undef, undef, undef, rfl, (Below.refl _ _).drew, nofun, nofun, nofun, nofun, nofun, nofun, nofun, nofun, nofun, nofun, nofun, nofun, nofun⟩
    · refine ⟨?_, ?_, ?_, ?_, ?_, ?_, ?_, ?_, ?_, ?_, ?_, ?_, trivial⟩
      · rintro L a w' ⟨v6, v49, v50, v51, v52, v53, v54, v55, v56, v57, v58, rfl, hb, g0, g1, g2, g3, g4, g5, g6, g7, g8, g9, k98, k11, gN⟩ hl hd K hK
        dsimp only at hK ⊢
        go_simp
        exact hK _ _ ⟨_, _, _, _, _, _, _, _, _, _, _, rfl, hb, fun _ => rfl, g1, g2, g3, g4, g5, g6, g7, g8, g9, k98, k11, gN⟩
      · rintro L a w' ⟨v6, v49, v50, v51, v52, v53, v54, v55, v56, v57, v58, rfl, hb, g0, g1, g2, g3, g4, g5, g6, g7, g8, g9, k98, k11, gN⟩ hl hd K hK
        simp [Region.binds] at hd
        dsimp only at hK ⊢
        have e0 := g0 (by simp [hd])
        subst e0
        have bb := HG.out.below hb HG.out.lt
        have cc := bb.cell 1
        simp only [List.getElem?_toArray, List.getElem?_cons_zero, List.getElem?_cons_succ] at cc
        go_simp
        exact hK _ _ ⟨_, _, _, _, _, _, _, _, _, _, _, rfl, hb, g0, fun _ => rfl, g2, g3, g4, g5, g6, g7, g8, g9, k98, k11, gN⟩
      · rintro L a w' ⟨v6, v49, v50, v51, v52, v53, v54, v55, v56, v57, v58, rfl, hb, g0, g1, g2, g3, g4, g5, g6, g7, g8, g9, k98, k11, gN⟩ hl hd K hK
        dsimp only at hK ⊢
        go_simp
        exact hK _ _ ⟨_, _, _, _, _, _, _, _, _, _, _, rfl, hb, g0, g1, fun _ => rfl, g3, g4, g5, g6, g7, g8, g9, k98, k11, gN⟩
      · rintro L a w' ⟨v6, v49, v50, v51, v52, v53, v54, v55, v56, v57, v58, rfl, hb, g0, g1, g2, g3, g4, g5, g6, g7, g8, g9, k98, k11, gN⟩ hl hd K hK
        simp [Region.binds] at hd
        dsimp only at hK ⊢
        have e2 := g2 (by simp [hd])
        subst e2
        have bb := HG.out.below hb HG.out.lt
        have cc := bb.cell 2
        simp only [List.getElem?_toArray, List.getElem?_cons_zero, List.getElem?_cons_succ] at cc
        go_simp
        exact hK _ _ ⟨_, _, _, _, _, _, _, _, _, _, _, rfl, hb, g0, g1, g2, fun _ => rfl, g4, g5, g6, g7, g8, g9, k98, k11, gN⟩
      · rintro L a w' ⟨v6, v49, v50, v51, v52, v53, v54, v55, v56, v57, v58, rfl, hb, g0, g1, g2, g3, g4, g5, g6, g7, g8, g9, k98, k11, gN⟩ hl hd K hK
        dsimp only at hK ⊢
        go_simp
        exact hK _ _ ⟨_, _, _, _, _, _, _, _, _, _, _, rfl, hb, g0, g1, g2, g3, fun _ => rfl, g5, g6, g7, g8, g9, k98, k11, gN⟩
      · rintro L a w' ⟨v6, v49, v50, v51, v52, v53, v54, v55, v56, v57, v58, rfl, hb, g0, g1, g2, g3, g4, g5, g6, g7, g8, g9, k98, k11, gN⟩ hl hd K hK
        simp [Region.binds] at hd
        dsimp only at hK ⊢
        have e4 := g4 (by simp [hd])
        subst e4
        have bb := HG.out.below hb HG.out.lt
        have cc := bb.cell 3
        simp only [List.getElem?_toArray, List.getElem?_cons_zero, List.getElem?_cons_succ] at cc
        go_simp
        exact hK _ _ ⟨_, _, _, _, _, _, _, _, _, _, _, rfl, hb, g0, g1, g2, g3, g4, fun _ => rfl, g6, g7, g8, g9, k98, k11, gN⟩
      · rintro L a w' ⟨v6, v49, v50, v51, v52, v53, v54, v55, v56, v57, v58, rfl, hb, g0, g1, g2, g3, g4, g5, g6, g7, g8, g9, k98, k11, gN⟩ hl hd K hK
        dsimp only at hK ⊢
        go_simp
        exact hK _ _ ⟨_, _, _, _, _, _, _, _, _, _, _, rfl, hb, g0, g1, g2, g3, g4, g5, fun _ => rfl, g7, g8, g9, k98, k11, gN⟩
      · rintro L a w' ⟨v6, v49, v50, v51, v52, v53, v54, v55, v56, v57, v58, rfl, hb, g0, g1, g2, g3, g4, g5, g6, g7, g8, g9, k98, k11, gN⟩ hl hd K hK
        simp [Region.binds] at hd
        dsimp only at hK ⊢
        have e6 := g6 (by simp [hd])
        subst e6
        have bb := HF.out.below hb HF.out.lt
        have cc := bb.cell 3
        simp only [List.getElem?_toArray, List.getElem?_cons_zero, List.getElem?_cons_succ] at cc
        go_simp
        exact hK _ _ ⟨_, _, _, _, _, _, _, _, _, _, _, rfl, hb, g0, g1, g2, g3, g4, g5, g6, fun _ => rfl, g8, g9, k98, k11, gN⟩
      · rintro L a w' ⟨v6, v49, v50, v51, v52, v53, v54, v55, v56, v57, v58, rfl, hb, g0, g1, g2, g3, g4, g5, g6, g7, g8, g9, k98, k11, gN⟩ hl hd K hK
        simp [Region.binds] at hd
        dsimp only at hK ⊢
        have e7 := g7 (by simp [hd])
        subst e7
        have h11 : L 11 = false := by cases h : L 11 with | false => rfl | true => have := k98 (k11 h).2; rw [hl] at this; cases this
        have h9 : L 9 = false := by cases h : L 9 with | false => rfl | true => have := k98 h; rw [hl] at this; cases this
        go_wp2_with fail
        refine (clone_any (.slice AS l.length cS) l w' (hs2.below hb) (by omega)).mono ?_
        rintro _ w4 ⟨v4, rfl, hown4, hb4⟩
        exact hK _ _ ⟨_, _, _, _, _, _, _, _, _, _, _, rfl, bst hb hb4, g0, g1, g2, g3, g4, g5, g6, g7, fun _ => own_mono hown4 hb.size, fun h => absurd (show L 9 = true from h) (by rw [h9]; simp), fun _ => rfl, k11, fun h => by
            obtain ⟨N, e1, e2, e3⟩ := gN h
            have e4 := e3.below hb4 e3.lt
            rw [if_neg (by rw [h11]; simp)] at e4
            exact ⟨N, e1, e2, by show Blk _ _ _ (if L 11 = true then _ else _); rw [if_neg (by rw [h11]; simp)]; exact e4⟩⟩
      · rintro L a w' ⟨v6, v49, v50, v51, v52, v53, v54, v55, v56, v57, v58, rfl, hb, g0, g1, g2, g3, g4, g5, g6, g7, g8, g9, k98, k11, gN⟩ hl hd K hK
        simp [Region.binds] at hd
        dsimp only at hK ⊢
        have e1 := g1 (by simp [hd])
        subst e1
        have e3 := g3 (by simp [hd])
        subst e3
        have e5 := g5 (by simp [hd])
        subst e5
        obtain ⟨A4, c4, rfl, _, _⟩ := (Sl.of_own (g8 (by simp [hd]))).form
        go_simp
        exact hK _ _ ⟨_, _, _, _, _, _, _, _, _, _, _, rfl, hb, g0, g1, g2, g3, g4, g5, g6, g7, g8, fun _ => rfl, fun _ => (by show L 8 = true; simp [hd]), fun h => ⟨(k11 h).1, rfl⟩, gN⟩
      · rintro L a w' ⟨v6, v49, v50, v51, v52, v53, v54, v55, v56, v57, v58, rfl, hb, g0, g1, g2, g3, g4, g5, g6, g7, g8, g9, k98, k11, gN⟩ hl hd K hK
        dsimp only at hK ⊢
        have h11 : L 11 = false := by cases h : L 11 with | false => rfl | true => have := (k11 h).1; rw [hl] at this; cases this
        go_simp
        exact hK _ _ ⟨_, _, _, _, _, _, _, _, _, _, _, rfl, hb.alloc hb.size _, g0, g1, g2, g3, g4, g5, g6, g7, fun h => (g8 h).alloc _, g9, k98, fun h => absurd (show L 11 = true from h) (by rw [h11]; simp), fun _ => ⟨w'.heap.size, rfl, hb.size, by show Blk _ _ _ (if L 11 = true then _ else _); rw [if_neg (by rw [h11]; simp)]; exact Blk.new _ _ _⟩⟩
      · rintro L a w' ⟨v6, v49, v50, v51, v52, v53, v54, v55, v56, v57, v58, rfl, hb, g0, g1, g2, g3, g4, g5, g6, g7, g8, g9, k98, k11, gN⟩ hl hd K hK
        simp [Region.binds] at hd
        dsimp only at hK ⊢
        have hd1 : L 9 = true := by simp [hd]
        have hd2 : L 10 = true := by simp [hd]
        have e9 := g9 hd1
        subst e9
        obtain ⟨N, e1, e2, e3⟩ := gN hd2
        subst e1
        rw [if_neg (by rw [hl]; simp)] at e3
        have f0 := e3.frozen 0
        have f1 := e3.frozen 1
        have f2 := e3.frozen 2
        have f3 := e3.frozen 3
        have c0 := e3.cell 0
        have c1 := e3.cell 1
        have c2 := e3.cell 2
        have c3 := e3.cell 3
        simp only [List.getElem?_toArray, List.getElem?_cons_zero, List.getElem?_cons_succ] at c0 c1 c2 c3
        have hlt := e3.lt
        obtain ⟨A4, c4, rfl, _, _⟩ := (Sl.of_own (g8 (k98 hd1))).form
        go_simp
        have kg := grown4 w' N (.int .i64 rver) (.int .i64 rseq) (.int .i64 rnid) (.slice A4 l.length c4)
        have kb := blk4 (.int .i64 rver) (.int .i64 rseq) (.int .i64 rnid) (.slice A4 l.length c4) e3
        have ko := g8 (k98 hd1)
        exact hK _ _ ⟨_, _, _, _, _, _, _, _, _, _, _, rfl, below_row hb kg e2 hb.size, g0, g1, g2, g3, g4, g5, g6, g7, fun _ => own_row ko kg (fun b hb' e => own_blk_ne ko e3 (by decide) (by rw [hb', e])), fun _ => rfl, k98, fun _ => ⟨hd2, hd1⟩, fun _ => ⟨N, rfl, e2, kb⟩⟩
    rintro a w3 ⟨v6, v49, v50, v51, v52, v53, v54, v55, v56, v57, v58, rfl, hb3, g0, g1, g2, g3, g4, g5, g6, g7, g8, g9, k98, k11, gN⟩
    have e0 := g0 rfl
    subst e0
    have e1 := g1 rfl
    subst e1
    have e2 := g2 rfl
    subst e2
    have e3 := g3 rfl
    subst e3
    have e4 := g4 rfl
    subst e4
    have e5 := g5 rfl
    subst e5
    have e6 := g6 rfl
    subst e6
    have e7 := g7 rfl
    subst e7
    have e9 := g9 rfl
    subst e9
    have ho3 := g8 rfl
    obtain ⟨N, e1, hN, bN⟩ := gN rfl
    subst e1
    rw [if_pos rfl] at bN
    clear g8 k98 k11 gN
    have HA2 := Lib.hid ha2
    have HR2 := Lib.hid hr2
    have HB2 := Lib.hid hB2
    have bR3 := bR2.below hb3 bR2.lt
    have r0 := bR3.cell 0
    have r1 := bR3.cell 1
    have r2 := bR3.cell 2
    have r3 := bR3.cell 3
    have r4 := bR3.cell 4
    have r5 := bR3.cell 5
    simp only [List.getElem?_toArray, List.getElem?_cons_zero, List.getElem?_cons_succ] at r0 r1 r2 r3 r4 r5
    obtain ⟨hRH, hRE, hRR, _⟩ := recV_zero HN0.out
    have HAE := Lib.hid hRE
    have hal2 : add.length ≤ 256 := hRH.2.2.1
    have hrl2 : rem.length ≤ 256 := hRH.2.2.2
    have HGL := Lib.hid (GoodL.of hE hl256 hsm)
    clear hRH hRE hRR HF bS2 bR2 bZ2 hB2 hs2 ha2 hr2 y1 y3 y4 y5 y6 hsm hE hsl
    have HO3 := Lib.hid ho3
    have HN3 := Lib.hid bN
    have HB3 := Lib.hid hb3
    clear ho3 bN hb3
    go_wp2
    clear r0 r1 r2 r3 r4 r5
    go_loopw [62] (fun i wr => ∃ (k : Nat) (l' : List Ent) (v' : Value), i = .int .i64 k ∧ k ≤ rem.length ∧ Hid (remAll l rem = remAll l' (rem.drop k)) ∧ Hid (GoodL l') ∧ l'.length ≤ 256 ∧ Below w2.heap.size w2 wr ∧ Blk wr N 24 #[.int .i64 rver, .int .i64 rseq, .int .i64 rnid, v'] ∧ wr.ownsRow w2.heap.size 34 12 v' l'.length (ents l')) (fun i _ => rem.length - (intOf i).toNat)
    case atStart => exact ⟨0, l, _, rfl, Nat.zero_le _, rfl, HGL, hl256, HB3.out, HN3.out, HO3.out⟩
    case round =>
      obtain ⟨k, l', v', rfl, hk, hrem, hgood, hl', hb, bN, ho⟩ := hrel
      obtain ⟨A', c', rfl, hc1, hc2⟩ := (Sl.of_own ho).form
      unfold maxLen at hc2
      by_cases hlt : k < rem.length
      · obtain ⟨ad, x, rfl, hx, hcx⟩ := (HR2.out.below hb).int_at hlt
        have HX := Lib.hid hx
        clear hx
        have n0 := bN.cell 0
        have n1 := bN.cell 1
        have n2 := bN.cell 2
        have n3 := bN.cell 3
        simp only [List.getElem?_toArray, List.getElem?_cons_zero, List.getElem?_cons_succ] at n0 n1 n2 n3
        have HC := Lib.hid (fun X (h : Below wr.heap.size wr X) => index_any (.slice A' l'.length c') l' x X ((Sl.of_own ho).below h) (by omega))
        cases hi : idxE l' x with
        | none =>
          have HE := Lib.hid (HAP.out.trans (applyGo_none (remAll_none hrem.out HX.out hi)))
          rw [idxV_none hi] at HC
          have HB := Lib.hid hb
          clear hi hrem hgood ho bN hb
          go_wp2_with fail
          refine (HC.out _ (Below.refl _ _)).mono ?_
          rintro _ w5 ⟨rfl, hb5⟩
          have hb6 := HB.out.trans (hb5.mono HB.out.size)
          have bZ5 := HZ.out.below hb6 HZ.out.lt
          have hB5 := bst HB2.out hb6
          clear n0 n1 n2 n3 hb5 hb6 hcx
          have f0 := bZ5.frozen 0
          have f1 := bZ5.frozen 1
          have f2 := bZ5.frozen 2
          have f3 := bZ5.frozen 3
          have c0 := bZ5.cell 0
          have c1 := bZ5.cell 1
          have c2 := bZ5.cell 2
          have c3 := bZ5.cell 3
          simp only [List.getElem?_toArray, List.getElem?_cons_zero, List.getElem?_cons_succ] at c0 c1 c2 c3
          have hlt := bZ5.lt
          have HX := Lib.hid (exitZ rfl bZ5 hB5)
          go_wp2
          obtain ⟨V, hV⟩ : ∃ V, V = (((w5.setCell ⟨w.heap.size + 2, 0, none⟩ (.int .i64 0)).setCell ⟨w.heap.size + 2, 1, none⟩ (.int .i64 0)).setCell ⟨w.heap.size + 2, 2, none⟩ (.int .i64 0)).setCell ⟨w.heap.size + 2, 3, none⟩ (.slice none 0 0) := ⟨_, rfl⟩
          obtain ⟨d0, d1, d2, d3, HXB⟩ := HX.out V hV
          rw [← hV]
          exact bodyPost_ret (v := .tuple #[.agg #[.int .i64 0, .int .i64 0, .int .i64 0, .slice none 0 0], .int .i64 6]) (by simp [results, Try.results12, go_sem, d0, d1, d2, d3]) rfl (retApply_err HE.out HXB)
        | some j =>
          have hj := idxE_lt hi
          have HR' := Lib.hid (remAll_next hrem.out HX.out hi)
          have HG' := Lib.hid (hgood.out.erase j)
          rw [idxV_some hi] at HC
          clear hi hrem hgood HX
          obtain ⟨g, rfl⟩ : ∃ g, A' = some ⟨g, 0, none⟩ := by
            rcases ho.2 with ⟨e, h0⟩ | ⟨g, cap, cur, e, _⟩
            · omega
            · injection e with e1; exact ⟨g, e1⟩
          have hgN : g ≠ N := fun e => own_blk_ne ho bN (by decide) (by rw [← e]; rfl)
          have hg2 := (ho.lt g rfl).1
          have HO := Lib.hid ho
          have HNB := Lib.hid bN
          have HB := Lib.hid hb
          clear ho bN hb
          go_wp2_with fail
          refine (HC.out _ (Below.refl _ _)).mono ?_
          rintro _ w5 ⟨rfl, hb5⟩
          have ho5 := own_below HO.out hb5
          have bN5 := HNB.out.below hb5 HNB.out.lt
          have hb6 := HB.out.trans (hb5.mono HB.out.size)
          have HD := Lib.hid (delete_any g c' j w2.heap.size l' w5 ho5 hj (by omega))
          clear n0 n1 n2 n3 hb5 hcx
          have n0 := bN5.cell 0
          have n1 := bN5.cell 1
          have n2 := bN5.cell 2
          have n3 := bN5.cell 3
          simp only [List.getElem?_toArray, List.getElem?_cons_zero, List.getElem?_cons_succ] at n0 n1 n2 n3
          have HO5 := Lib.hid ho5
          have HN5 := Lib.hid bN5
          have HB5 := Lib.hid hb6
          clear ho5 bN5 hb6
          go_wp2_with fail
          refine HD.out.mono ?_
          rintro _ w7 ⟨rfl, ho7, hg7⟩
          have bN7 := HN5.out.row hg7 (Ne.symm hgN)
          have hb7 := below_row HB5.out hg7 hg2 HB5.out.size
          clear n0 n1 n2 n3
          have n3 := bN7.cell 3
          simp only [List.getElem?_toArray, List.getElem?_cons_zero, List.getElem?_cons_succ] at n3
          have f3 := bN7.frozen 3
          have hNlt := bN7.lt
          have HO7 := Lib.hid ho7
          have HN7 := Lib.hid bN7
          have HB7 := Lib.hid hb7
          have hl7 : (l'.eraseIdx j).length = l'.length - 1 := List.length_eraseIdx_of_lt hj
          have HL7 := Lib.hid hl7
          clear ho7 bN7 hb7 hg7 hl7
          go_wp2
          go_roundw
          case rel =>
            have kg := grownBy_set w7 ⟨N, 3, none⟩ (.slice (some ⟨g, 0, none⟩) (l'.length - 1) c')
            have kb := HN7.out.set_ 3 (.slice (some ⟨g, 0, none⟩) (l'.length - 1) c')
            simp only [List.setIfInBounds_toArray, List.set_cons_zero, List.set_cons_succ] at kb
            have ko := own_row HO7.out kg (fun b hb' e => hgN (by have hb2 : some g = some b := hb'; injection hb2 with hb2; exact hb2.trans e))
            refine ⟨k + 1, l'.eraseIdx j, _, by go_num, by omega, HR'.out, HG', by rw [HL7.out]; omega, below_row HB7.out kg hN HB7.out.size, kb, ?_⟩
            rw [HL7.out]; exact ko
          case measure => simp [intOf]; omega
      · have HRE := Lib.hid (remAll_end hrem.out (Nat.le_of_not_lt hlt))
        have HBa := Lib.hid hb
        have HNa := Lib.hid bN
        have HOa := Lib.hid ho
        have bR3 := HG.out.below hb HG.out.lt
        have r0 := bR3.cell 0
        have r1 := bR3.cell 1
        have r2 := bR3.cell 2
        have r3 := bR3.cell 3
        have r4 := bR3.cell 4
        have r5 := bR3.cell 5
        simp only [List.getElem?_toArray, List.getElem?_cons_zero, List.getElem?_cons_succ] at r0 r1 r2 r3 r4 r5
        clear hb bN ho hrem bR3
        obtain ⟨wo, rfl⟩ : ∃ wo : World, wo = wr := ⟨_, rfl⟩
        go_wp2
        clear r0 r1 r2 r3 r4 r5
        go_loopw [84] (fun i wr => ∃ (k2 : Nat) (v2 : Value), i = .int .i64 k2 ∧ k2 ≤ add.length ∧ Hid (dupB l' (add.take k2) = false) ∧ Below w2.heap.size w2 wr ∧ Blk wr N 24 #[.int .i64 rver, .int .i64 rseq, .int .i64 rnid, v2] ∧ wr.ownsRow w2.heap.size 34 12 v2 (l' ++ add.take k2).length (ents (l' ++ add.take k2))) (fun i _ => add.length - (intOf i).toNat)
        case atStart => exact ⟨0, _, rfl, Nat.zero_le _, rfl, HBa.out, HNa.out, by simpa using HOa.out⟩
        case round =>
          obtain ⟨k2, v2, rfl, hk2, hdup, hb, bN, ho⟩ := hrel
          obtain ⟨A2, c2', rfl, hc1', hc2'⟩ := (Sl.of_own ho).form
          unfold maxLen at hc2'
          have hlen2 : (l' ++ add.take k2).length = l'.length + k2 := by rw [List.length_append, List.length_take]; omega
          by_cases hlt2 : k2 < add.length
          · obtain ⟨ad, e, q, rfl, he, hq, hE⟩ := (HA2.out.below hb).ent_load rfl hlt2
            have HE := Lib.hid he
            obtain ⟨L2, hL2⟩ : ∃ L2, l' ++ add.take k2 = L2 := ⟨_, rfl⟩
            rw [hL2] at bN ho hlen2 hc1'
            have HIX := Lib.hid (show (idxE L2 e.id).isSome = (idxE l' e.id).isSome by rw [← hL2]; exact idx_added (entsB_asc HAE.out) he)
            have HTS := Lib.hid (show L2 ++ [e] = l' ++ add.take (k2 + 1) by rw [← hL2]; exact take_snoc l' he)
            have hl2b : L2.length ≤ 600 := by omega
            have HLN := Lib.hid hlen2
            obtain ⟨i1, ro1, li1, ⟨a1, b1, s1, d1⟩, ⟨a2, b2, s2, d2⟩, de1⟩ := e
            obtain ⟨hplt, c0, c1, c2, c3, c4, c5, c6, c7, c8, c9, c10, c11⟩ := hE
            clear he hL2 hlen2
            obtain ⟨Wb, hWb⟩ : ∃ Wb, Wb = wr.alloc (.cells #[.int .i64 i1, .int .i64 ro1, .int .i64 li1, .bool a1, .int .i64 b1, .string s1, .int .i64 d1, .bool a2, .int .i64 b2, .string s2, .int .i64 d2, .int .i64 de1] 34) := ⟨_, rfl⟩
            have bE : Blk Wb wr.heap.size 34 #[.int .i64 i1, .int .i64 ro1, .int .i64 li1, .bool a1, .int .i64 b1, .string s1, .int .i64 d1, .bool a2, .int .i64 b2, .string s2, .int .i64 d2, .int .i64 de1] := by rw [hWb]; exact Blk.new _ _ _
            have hbW : Below w2.heap.size w2 Wb := by rw [hWb]; exact hb.alloc hb.size _
            have bNW : Blk Wb N 24 #[.int .i64 rver, .int .i64 rseq, .int .i64 rnid, .slice A2 L2.length c2'] := by rw [hWb]; exact bN.alloc _
            have hoW : Wb.ownsRow w2.heap.size 34 12 (.slice A2 L2.length c2') L2.length (ents L2) := by rw [hWb]; exact ho.alloc _
            have HC := Lib.hid (index_any (.slice A2 L2.length c2') L2 i1 Wb (Sl.of_own hoW) (by omega))
            have n0 := bNW.cell 0
            have n1 := bNW.cell 1
            have n2 := bNW.cell 2
            have n3 := bNW.cell 3
            simp only [List.getElem?_toArray, List.getElem?_cons_zero, List.getElem?_cons_succ] at n0 n1 n2 n3
            have e0 := bE.cell 0
            simp only [List.getElem?_toArray, List.getElem?_cons_zero] at e0
            have hwrs := hb.size
            cases hi : idxE L2 i1 with
            | some j =>
              have HEX := Lib.hid (HAP.out.trans (applyGo_dup HRE.out (by
                have h2 := HIX.out
                rw [hi] at h2
                cases hi2 : idxE l' i1 with
                | none => rw [hi2] at h2; cases h2
                | some j2 => exact dup_hit HE.out hi2)))
              rw [idxV_some hi] at HC
              have HB := Lib.hid hbW
              clear hi hdup ho bN hb bE hbW bNW hoW HIX HTS
              go_upto_region 19 with (fail)
              rw [← hWb]
              clear hWb
              go_wp2_with fail
              refine HC.out.mono ?_
              rintro _ w5 ⟨rfl, hb5⟩
              have hb6 := HB.out.trans (hb5.mono HB.out.size)
              have bZ5 := HZ.out.below hb6 HZ.out.lt
              have hB5 := bst HB2.out hb6
              clear n0 n1 n2 n3 hb5 hb6 e0 c0 c1 c2 c3 c4 c5 c6 c7 c8 c9 c10 c11
              have f0 := bZ5.frozen 0
              have f1 := bZ5.frozen 1
              have f2 := bZ5.frozen 2
              have f3 := bZ5.frozen 3
              have c0 := bZ5.cell 0
              have c1 := bZ5.cell 1
              have c2 := bZ5.cell 2
              have c3 := bZ5.cell 3
              simp only [List.getElem?_toArray, List.getElem?_cons_zero, List.getElem?_cons_succ] at c0 c1 c2 c3
              have hlt := bZ5.lt
              have HX := Lib.hid (exitZ rfl bZ5 hB5)
              go_wp2
              obtain ⟨V, hV⟩ : ∃ V, V = (((w5.setCell ⟨w.heap.size + 2, 0, none⟩ (.int .i64 0)).setCell ⟨w.heap.size + 2, 1, none⟩ (.int .i64 0)).setCell ⟨w.heap.size + 2, 2, none⟩ (.int .i64 0)).setCell ⟨w.heap.size + 2, 3, none⟩ (.slice none 0 0) := ⟨_, rfl⟩
              obtain ⟨d0, d1, d2, d3, HXB⟩ := HX.out V hV
              rw [← hV]
              exact bodyPost_ret (v := .tuple #[.agg #[.int .i64 0, .int .i64 0, .int .i64 0, .slice none 0 0], .int .i64 5]) (by simp [results, Try.results12, go_sem, d0, d1, d2, d3]) rfl (retApply_err HEX.out HXB)
            | none =>
              have HDN := Lib.hid (dup_next hdup.out HE.out (by
                have h2 := HIX.out
                rw [hi] at h2
                cases hi2 : idxE l' i1 with
                | none => rfl
                | some j2 => rw [hi2] at h2; cases h2))
              rw [idxV_none hi] at HC
              have HB := Lib.hid hbW
              have HNB := Lib.hid bNW
              have HOB := Lib.hid hoW
              have HEB := Lib.hid bE
              clear hi hdup ho bN hb bE hbW bNW hoW HIX
              go_upto_region 19 with (fail)
              rw [← hWb]
              have hWs : Wb.heap.size = wr.heap.size + 1 := by rw [hWb]; simp
              have HWS := Lib.hid hWs
              clear hWb hWs
              go_wp2_with fail
              refine HC.out.mono ?_
              rintro _ w5 ⟨rfl, hb5⟩
              have hb6 := HB.out.trans (hb5.mono HB.out.size)
              have bN5 := HNB.out.below hb5 HNB.out.lt
              have ho5 := own_below HOB.out hb5
              have bE5 := HEB.out.below hb5 HEB.out.lt
              clear n0 n1 n2 n3 hb5 e0 c0 c1 c2 c3 c4 c5 c6 c7 c8 c9 c10 c11
              have n0 := bN5.cell 0
              have n1 := bN5.cell 1
              have n2 := bN5.cell 2
              have n3 := bN5.cell 3
              simp only [List.getElem?_toArray, List.getElem?_cons_zero, List.getElem?_cons_succ] at n0 n1 n2 n3
              have c0 := bE5.cell 0
              have c1 := bE5.cell 1
              have c2 := bE5.cell 2
              have c3 := bE5.cell 3
              have c4 := bE5.cell 4
              have c5 := bE5.cell 5
              have c6 := bE5.cell 6
              have c7 := bE5.cell 7
              have c8 := bE5.cell 8
              have c9 := bE5.cell 9
              have c10 := bE5.cell 10
              have c11 := bE5.cell 11
              simp only [List.getElem?_toArray, List.getElem?_cons_zero, List.getElem?_cons_succ] at c0 c1 c2 c3 c4 c5 c6 c7 c8 c9 c10 c11
              have HB5 := Lib.hid hb6
              have HN5 := Lib.hid bN5
              have hsz5 := hb6.size
              go_wp2_with (at_builtin; go_must (refine app1 _ _ ho5 (Below.refl w2.heap.size w5) (Nat.le_refl _) hsz5 under_entry info_entry rfl (by decide) rfl (one12 _ _ _ _ _ _ _ _ _ _ _ _) (by omega) (by omega) rfl rfl rfl rfl ?_))
              intro g' cap' w7 ho7 hb7' hg7 hor7
              have hb7 := HB5.out.trans hb7'
              have bN7 := HN5.out.grown hg7 (fun e => own_blk_ne ho5 HN5.out (by decide) e)
              have hg'N : g' ≠ N := fun e => own_blk_ne ho7 bN7 (by decide) (by rw [← e]; rfl)
              have HO7 := Lib.hid ho7
              have HN7 := Lib.hid bN7
              have HB7 := Lib.hid hb7
              clear n0 n1 n2 n3 c0 c1 c2 c3 c4 c5 c6 c7 c8 c9 c10 c11 bE5 ho5 bN5 hb6 hg7 hor7 hb7'
              have n3 := bN7.cell 3
              simp only [List.getElem?_toArray, List.getElem?_cons_zero, List.getElem?_cons_succ] at n3
              have f3 := bN7.frozen 3
              have hNlt := bN7.lt
              clear ho7 bN7 hb7
              go_wp2
              go_roundw
              case rel =>
                have kg := grownBy_set w7 ⟨N, 3, none⟩ (.slice (some ⟨g', 0, none⟩) (L2.length + 1) cap')
                have kb := HN7.out.set_ 3 (.slice (some ⟨g', 0, none⟩) (L2.length + 1) cap')
                simp only [List.setIfInBounds_toArray, List.set_cons_zero, List.set_cons_succ] at kb
                have ko := own_row HO7.out kg (fun b hb' e => hg'N (by have hb2 : some g' = some b := hb'; injection hb2 with hb2; exact hb2.trans e))
                have ko2 := own_ents12 ko
                rw [HTS.out] at ko2
                have hLn : (l' ++ add.take (k2 + 1)).length = L2.length + 1 := by rw [← HTS.out]; simp
                refine ⟨k2 + 1, _, by go_num, by omega, HDN.out, below_row HB7.out kg hN HB7.out.size, kb, ?_⟩
                exact ko2
              case measure => simp [intOf]; omega
          · have hfull : add.take k2 = add := List.take_of_length_le (by omega)
            rw [hfull] at bN hdup ho hlen2 hc1'
            have HLG := Lib.hid (HAP.out.trans (applyGo_last HRE.out hdup.out))
            have HASC := Lib.hid (insAll_asc hgood.out.1 (entsB_asc HAE.out) hdup.out)
            have HPERM := Lib.hid (insAll_perm l' add)
            obtain ⟨L3, hL3⟩ : ∃ L3, l' ++ add = L3 := ⟨_, rfl⟩
            rw [hL3] at bN ho hlen2 hc1' HPERM
            have hid : ∀ e ∈ L3, 0 ≤ e.id ∧ e.id ≤ 2147483647 := fun e he => by
              rw [← hL3] at he
              rcases List.mem_append.1 he with h | h
              · have := (hgood.out.2.2 e h).1; omega
              · have := okB_id (entsB_ok HAE.out h); omega
            have hsm3 : ∀ e ∈ insAll l' add, e.small := fun e he => by
              have he2 := (HPERM.out.mem_iff).1 he
              rw [← hL3] at he2
              rcases List.mem_append.1 he2 with h | h
              · exact (hgood.out.2.2 e h).2
              · exact ham e h
            have hl3b : L3.length ≤ 600 := by omega
            have hSl : (insAll l' add).length = L3.length := HPERM.out.length_eq
            obtain ⟨S, hS⟩ : ∃ S, insAll l' add = S := ⟨_, rfl⟩
            rw [hS] at HLG HASC HPERM hsm3 hSl
            have HSL := Lib.hid hSl
            have HB := Lib.hid hb
            clear hS hL3 hlen2 hSl hdup hgood hfull
            have n0 := bN.cell 0
            have n1 := bN.cell 1
            have n2 := bN.cell 2
            have n3 := bN.cell 3
            simp only [List.getElem?_toArray, List.getElem?_cons_zero, List.getElem?_cons_succ] at n0 n1 n2 n3
            by_cases hbig : 256 < L3.length
            · have q6 : decide ((256 : Int) < (L3.length : Int)) = true := decide_eq_true (by omega)
              have HEX := Lib.hid (HLG.out.trans (lastV_full (by rw [HSL.out]; exact hbig)))
              have bZ5 := HZ.out.below hb HZ.out.lt
              have hB5 := bst HB2.out hb
              clear hbig hb ho bN hid hsm3
              have f0 := bZ5.frozen 0
              have f1 := bZ5.frozen 1
              have f2 := bZ5.frozen 2
              have f3 := bZ5.frozen 3
              have c0 := bZ5.cell 0
              have c1 := bZ5.cell 1
              have c2 := bZ5.cell 2
              have c3 := bZ5.cell 3
              simp only [List.getElem?_toArray, List.getElem?_cons_zero, List.getElem?_cons_succ] at c0 c1 c2 c3
              have hlt := bZ5.lt
              have HX := Lib.hid (exitZ rfl bZ5 hB5)
              go_wp2
              obtain ⟨V, hV⟩ : ∃ V, V = (((wr.setCell ⟨w.heap.size + 2, 0, none⟩ (.int .i64 0)).setCell ⟨w.heap.size + 2, 1, none⟩ (.int .i64 0)).setCell ⟨w.heap.size + 2, 2, none⟩ (.int .i64 0)).setCell ⟨w.heap.size + 2, 3, none⟩ (.slice none 0 0) := ⟨_, rfl⟩
              obtain ⟨d0, d1, d2, d3, HXB⟩ := HX.out V hV
              rw [← hV]
              exact bodyPost_ret (v := .tuple #[.agg #[.int .i64 0, .int .i64 0, .int .i64 0, .slice none 0 0], .int .i64 7]) (by simp [results, Try.results12, go_sem, d0, d1, d2, d3]) rfl (retApply_err HEX.out HXB)
            · have q6 : decide ((256 : Int) < (L3.length : Int)) = false := decide_eq_false (by omega)
              have HSO := Lib.hid (sort_any (.slice A2 L3.length c2') w2.heap.size L3 S wr ho hid (by omega) HPERM.out HASC.out hb.size)
              have HOO := Lib.hid ho
              have HNN := Lib.hid bN
              have HNB := Lib.hid (show ¬256 < S.length by rw [HSL.out]; exact hbig)
              clear hbig hb ho bN hid
              go_wp2_with fail
              refine HSO.out.mono ?_
              rintro _ w5 ⟨rfl, ho5, hg5⟩
              have bN5 := HNN.out.grown hg5 (fun e => own_blk_ne HOO.out HNN.out (by decide) e)
              have hb5 := HB.out.grown hg5 HB.out.size (fun k hk => (HOO.out.lt k hk).1)
              clear n0 n1 n2 n3 hg5
              have n0 := bN5.cell 0
              have n1 := bN5.cell 1
              have n2 := bN5.cell 2
              have n3 := bN5.cell 3
              simp only [List.getElem?_toArray, List.getElem?_cons_zero, List.getElem?_cons_succ] at n0 n1 n2 n3
              have HO5 := Lib.hid ho5
              have HN5 := Lib.hid bN5
              have HB5 := Lib.hid hb5
              cases hsb : snapB rver rseq rnid S with
              | false =>
                have HEX := Lib.hid (HLG.out.trans (lastV_bad HNB.out hsb))
                have HCC := Lib.hid (snapCheck_b' hsb (Sl.of_own ho5) hsm3 (by rw [HSL.out]; omega) w5 (Below.refl _ _))
                clear hsb ho5 bN5 hb5 hsm3
                go_wp2_with fail
                refine HCC.out.mono ?_
                rintro _ w6 ⟨rfl, hb6⟩
                have hb7 := HB5.out.trans (hb6.mono HB5.out.size)
                have bZ5 := HZ.out.below hb7 HZ.out.lt
                have hB5 := bst HB2.out hb7
                clear n0 n1 n2 n3 hb6 hb7
                have f0 := bZ5.frozen 0
                have f1 := bZ5.frozen 1
                have f2 := bZ5.frozen 2
                have f3 := bZ5.frozen 3
                have c0 := bZ5.cell 0
                have c1 := bZ5.cell 1
                have c2 := bZ5.cell 2
                have c3 := bZ5.cell 3
                simp only [List.getElem?_toArray, List.getElem?_cons_zero, List.getElem?_cons_succ] at c0 c1 c2 c3
                have hlt := bZ5.lt
                have HX := Lib.hid (exitZ rfl bZ5 hB5)
                go_wp2
                obtain ⟨V, hV⟩ : ∃ V, V = (((w6.setCell ⟨w.heap.size + 2, 0, none⟩ (.int .i64 0)).setCell ⟨w.heap.size + 2, 1, none⟩ (.int .i64 0)).setCell ⟨w.heap.size + 2, 2, none⟩ (.int .i64 0)).setCell ⟨w.heap.size + 2, 3, none⟩ (.slice none 0 0) := ⟨_, rfl⟩
                obtain ⟨d0, d1, d2, d3, HXB⟩ := HX.out V hV
                rw [← hV]
                exact bodyPost_ret (v := .tuple #[.agg #[.int .i64 0, .int .i64 0, .int .i64 0, .slice none 0 0], .int .i64 1]) (by simp [results, Try.results12, go_sem, d0, d1, d2, d3]) rfl (retApply_err HEX.out HXB)
              | true =>
                have HEX := Lib.hid (HLG.out.trans (lastV_ok HNB.out hsb))
                have HCC := Lib.hid (snapCheck_b' hsb (Sl.of_own ho5) hsm3 (by rw [HSL.out]; omega) w5 (Below.refl _ _))
                clear hsb ho5 bN5 hb5 hsm3
                go_wp2_with fail
                refine HCC.out.mono ?_
                rintro _ w6 ⟨rfl, hb6⟩
                have ho6 := own_below HO5.out hb6
                have bN6 := HN5.out.below hb6 HN5.out.lt
                have hb7 := HB5.out.trans (hb6.mono HB5.out.size)
                have bZ6 := HZ.out.below hb7 HZ.out.lt
                have hB6 := bst HB2.out hb7
                clear n0 n1 n2 n3 hb6 hb7
                have n0 := bN6.cell 0
                have n1 := bN6.cell 1
                have n2 := bN6.cell 2
                have n3 := bN6.cell 3
                simp only [List.getElem?_toArray, List.getElem?_cons_zero, List.getElem?_cons_succ] at n0 n1 n2 n3
                have c0 := bZ6.cell 0
                have c1 := bZ6.cell 1
                have c2 := bZ6.cell 2
                have c3 := bZ6.cell 3
                simp only [List.getElem?_toArray, List.getElem?_cons_zero, List.getElem?_cons_succ] at c0 c1 c2 c3
                have f0 := bZ6.frozen 0
                have f1 := bZ6.frozen 1
                have f2 := bZ6.frozen 2
                have f3 := bZ6.frozen 3
                have hlt := bZ6.lt
                have HO6 := Lib.hid (own_mono ho6 HW2)
                have HB6 := Lib.hid hB6
                have HZ6 := Lib.hid bZ6
                clear ho6 bN6 hB6 bZ6
                go_wp2
                have kg := grown4 w6 (w.heap.size + 2) (.int .i64 rver) (.int .i64 rseq) (.int .i64 rnid) (.slice A2 L3.length c2')
                have kb := blk4 (.int .i64 rver) (.int .i64 rseq) (.int .i64 rnid) (.slice A2 L3.length c2') HZ6.out
                have ko := own_row HO6.out kg (fun b hb' e => own_blk_ne HO6.out HZ6.out (by decide) (by rw [hb', e]))
                have kw := below_row HB6.out kg (by omega) HB6.out.size
                obtain ⟨V, hV⟩ : ∃ V, V = (((w6.setCell ⟨w.heap.size + 2, 0, none⟩ (.int .i64 rver)).setCell ⟨w.heap.size + 2, 1, none⟩ (.int .i64 rseq)).setCell ⟨w.heap.size + 2, 2, none⟩ (.int .i64 rnid)).setCell ⟨w.heap.size + 2, 3, none⟩ (.slice A2 L3.length c2') := ⟨_, rfl⟩
                rw [← hV] at kb ko kw ⊢
                have d0 := kb.cell 0
                have d1 := kb.cell 1
                have d2 := kb.cell 2
                have d3 := kb.cell 3
                simp only [List.getElem?_toArray, List.getElem?_cons_zero, List.getElem?_cons_succ] at d0 d1 d2 d3
                exact bodyPost_ret (v := .tuple #[.agg #[.int .i64 rver, .int .i64 rseq, .int .i64 rnid, .slice A2 L3.length c2'], .int .i64 0]) (by simp [results, Try.results12, go_sem, d0, d1, d2, d3]) rfl (by rw [HEX.out]; exact ⟨_, rfl, ko, kw⟩)
end Go.Proofs.Ytoikgjhekemjdaa
