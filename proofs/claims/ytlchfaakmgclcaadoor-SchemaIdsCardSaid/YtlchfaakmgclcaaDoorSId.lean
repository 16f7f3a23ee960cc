/-
  The contracts of schema.Id, ref6.Id, law7.agrees.
-/
import Derived.Test.YtlchfaakmgclcaaDoorCrcTab
import Derived.Test.YtlchfaakmgclcaaDoorSFmt
import Derived.Test.YtlchfaakmgclcaaDoorRSFmt
import Derived.Test.YtlchfaakmgclcaaDoorRNames
namespace Go.Proofs.YtlchfaakmgclcaaDoor
open Go.RowKit Go.Sort
set_option linter.unusedVariables false
def idV (r : List UInt8 × Int) : Int × Int := if r.2 ≠ 0 then (0, r.2) else (sumV r.1, 0)
def RetId (w : World) (r : Int × Int) (e : Ending) (w' : World) : Prop := e = .returned (.tuple #[.int .u32 r.1, .int .i64 r.2]) ∧ Below w.heap.size w w'
theorem RetId.mk_ {w w' : World} {r : Int × Int} {x y : Int} (h1 : x = r.1) (h2 : y = r.2) (hb : Below w.heap.size w w') : RetId w r (.returned (.tuple #[.int .u32 x, .int .i64 y])) w' := by
  subst h1 h2; exact ⟨rfl, hb⟩
theorem keyC_len {l : List Col} {key : Int} (h : ∀ c ∈ l, ColValid c) : (keyC l key).length ≤ 21 := by
  unfold keyC; split
  · rename_i c hc
    have := (h c (List.mem_of_getElem? hc)).nm
    unfold keyL; simp only [List.length_append, List.length_cons, List.length_nil, size_data]; omega
  · simp
theorem sfmt_len (l : List Col) (key : Int) : (sfmtV l key).1.length ≤ 741 := by
  unfold sfmtV
  by_cases h : schkV l key = 0
  · rw [if_neg (by rw [h]; simp)]
    obtain ⟨h1, h2, h3, _⟩ := schk_valid h
    have a := linesC_len h3
    have b := keyC_len (key := key) h3
    show (linesC l ++ keyC l key).length ≤ 741
    rw [List.length_append]; omega
  · rw [if_pos h]; simp
theorem retDec_to {P : Program} {f : FuncId} {args : Array Value} {w : World} {r : List UInt8 × Int} {T : ByteArray} {E : Int} (h1 : T = ⟨r.1.toArray⟩) (h2 : r.2 = E) (hc : Calls P f args w (RetDec w r)) :
    Calls P f args w fun e w' => e = .returned (.tuple #[.string T, .int .i64 E]) ∧ Below w.heap.size w w' := by subst h1 h2; exact hc
theorem retId_to {P : Program} {f : FuncId} {args : Array Value} {w : World} {r : Int × Int} {I G : Int} (h1 : r.1 = I) (h2 : r.2 = G) (hc : Calls P f args w (RetId w r)) :
    Calls P f args w fun e w' => e = .returned (.tuple #[.int .u32 I, .int .i64 G]) ∧ Below w.heap.size w w' := by subst h1 h2; exact hc
set_option maxRecDepth 100000 in
set_option maxHeartbeats 1000000 in
theorem rcrc_any (s : ByteArray) (w : World) (hsz : s.size ≤ 9223372036854775807) : Calls Tryd.prog 23 #[.string s] w (RetU w (sumV s.data.toList)) := by
  have CS := Lib.hid (fun A c X hs => rsum_any A c s X hs hsz)
  go_enter Tryd.func23, Tryd.ntmps23
  go_wp2_with fail
  refine (rtab_any w).mono ?_
  rintro _ w2 ⟨A2, c2, rfl, hs2, hb2⟩
  go_wp2_with fail
  refine (CS.out A2 c2 w2 hs2).mono ?_
  rintro _ w3 ⟨rfl, hb3⟩
  go_wp2
  go_ret
  exact ⟨rfl, bst hb2 hb3⟩
set_option maxRecDepth 100000 in
set_option maxHeartbeats 2000000 in
theorem id_any (v : Value) (l : List Col) (key : Int) (w : World) (ht : Tab w) (hs : Sl w 4 v l.length (cols l)) (hl : l.length ≤ 9223372036854775807) (hnm : ∀ c ∈ l, c.nm.size ≤ 9223372036854775807) :
    Calls Tryd.prog 22 #[.agg #[v, .int .i64 key]] w (RetId w (idV (sfmtV l key))) := by
  obtain ⟨A, c, rfl, hc1, hc2⟩ := hs.form
  have hb := below_new w (.cells #[.slice A l.length c, .int .i64 key] 24)
  have bs := Blk.new w 24 #[.slice A l.length c, .int .i64 key]
  obtain ⟨W0, hW0⟩ : ∃ W, W = w.alloc (.cells #[.slice A l.length c, .int .i64 key] 24) := ⟨_, rfl⟩
  rw [← hW0] at hb bs
  have i0 : W0.cell? ⟨w.heap.size, 0, none⟩ = some (.slice A l.length c) := bs.cell 0
  have i1 : W0.cell? ⟨w.heap.size, 1, none⟩ = some (.int .i64 key) := bs.cell 1
  have HB := Lib.hid hb
  have hlen := sfmt_len l key
  obtain ⟨r, hr⟩ : ∃ r, sfmtV l key = r := ⟨_, rfl⟩
  have CC := sfmt_any _ l key W0 (ht.below hb) (hs.below hb) hl hnm
  rw [hr] at CC hlen ⊢
  obtain ⟨T, hT⟩ : ∃ T : ByteArray, T = ⟨r.1.toArray⟩ := ⟨_, rfl⟩
  have HT := Lib.hid (show T.data.toList = r.1 by rw [hT])
  obtain ⟨E, hE⟩ : ∃ E, r.2 = E := ⟨_, rfl⟩
  have HE := Lib.hid hE
  have CD := Lib.hid (retDec_to hT hE CC)
  have hTs : T.size ≤ 9223372036854775807 := by rw [← sizeD, HT.out]; omega
  clear hb bs CC hT hE hr hlen
  by_cases h0 : E = 0
  case pos =>
    subst h0
    have HI := Lib.hid (show idV r = (sumV T.data.toList, 0) by unfold idV; rw [if_neg (by rw [HE.out]; simp), HT.out])
    go_enter Tryd.func22, Tryd.ntmps22
    go_upto_region 1 with (fail)
    rw [← hW0]
    clear hW0
    go_wp2_with fail
    refine CD.out.mono ?_
    rintro _ w1 ⟨rfl, hb1⟩
    have HB1 := Lib.hid (bst HB.out hb1)
    clear hb1
    go_wp2_with fail
    refine (tab_any w1).mono ?_
    rintro _ w2 ⟨A2, c2, rfl, hs2, hb2⟩
    go_wp2_with fail
    refine (sum_any A2 c2 T w2 hs2 hTs).mono ?_
    rintro _ w3 ⟨rfl, hb3⟩
    have HB3 := Lib.hid (bst HB1.out (bst hb2 hb3))
    clear hb3 hb2
    go_wp2
    go_ret2
    exact RetId.mk_ (by rw [HI.out]) (by rw [HI.out]) HB3.out
  case neg =>
    have HI := Lib.hid (show idV r = (0, E) by unfold idV; rw [if_pos (by rw [HE.out]; exact h0), HE.out])
    have q0 : (E != 0) = true := by simpa using h0
    clear h0
    go_enter Tryd.func22, Tryd.ntmps22
    go_upto_region 1 with (fail)
    rw [← hW0]
    clear hW0
    go_wp2_with fail
    refine CD.out.mono ?_
    rintro _ w1 ⟨rfl, hb1⟩
    have HB1 := Lib.hid (bst HB.out hb1)
    clear hb1
    go_wp2
    go_ret2
    exact RetId.mk_ (by rw [HI.out]) (by rw [HI.out]) HB1.out
set_option maxRecDepth 100000 in
set_option maxHeartbeats 2000000 in
theorem rid_any (v : Value) (l : List Col) (key : Int) (w : World) (hs : Sl w 4 v l.length (cols l)) (hl : l.length ≤ 9223372036854775807) (hnm : ∀ c ∈ l, c.nm.size ≤ 9223372036854775807) :
    Calls Tryd.prog 53 #[.agg #[v, .int .i64 key]] w (RetId w (idV (sfmtV l key))) := by
  obtain ⟨A, c, rfl, hc1, hc2⟩ := hs.form
  have hb := below_new w (.cells #[.slice A l.length c, .int .i64 key] 24)
  have bs := Blk.new w 24 #[.slice A l.length c, .int .i64 key]
  obtain ⟨W0, hW0⟩ : ∃ W, W = w.alloc (.cells #[.slice A l.length c, .int .i64 key] 24) := ⟨_, rfl⟩
  rw [← hW0] at hb bs
  have i0 : W0.cell? ⟨w.heap.size, 0, none⟩ = some (.slice A l.length c) := bs.cell 0
  have i1 : W0.cell? ⟨w.heap.size, 1, none⟩ = some (.int .i64 key) := bs.cell 1
  have HB := Lib.hid hb
  have hlen := sfmt_len l key
  obtain ⟨r, hr⟩ : ∃ r, sfmtV l key = r := ⟨_, rfl⟩
  have CC := rsfmt_any _ l key W0 (hs.below hb) hl hnm
  rw [hr] at CC hlen ⊢
  obtain ⟨T, hT⟩ : ∃ T : ByteArray, T = ⟨r.1.toArray⟩ := ⟨_, rfl⟩
  have HT := Lib.hid (show T.data.toList = r.1 by rw [hT])
  obtain ⟨E, hE⟩ : ∃ E, r.2 = E := ⟨_, rfl⟩
  have HE := Lib.hid hE
  have CD := Lib.hid (retDec_to hT hE CC)
  have hTs : T.size ≤ 9223372036854775807 := by rw [← sizeD, HT.out]; omega
  clear hb bs CC hT hE hr hlen
  by_cases h0 : E = 0
  case pos =>
    subst h0
    have HI := Lib.hid (show idV r = (sumV T.data.toList, 0) by unfold idV; rw [if_neg (by rw [HE.out]; simp), HT.out])
    go_enter Tryd.func53, Tryd.ntmps53
    go_upto_region 1 with (fail)
    rw [← hW0]
    clear hW0
    go_wp2_with fail
    refine CD.out.mono ?_
    rintro _ w1 ⟨rfl, hb1⟩
    have HB1 := Lib.hid (bst HB.out hb1)
    clear hb1
    go_wp2_with fail
    refine (rcrc_any T w1 hTs).mono ?_
    rintro _ w3 ⟨rfl, hb3⟩
    have HB3 := Lib.hid (bst HB1.out hb3)
    clear hb3
    go_wp2
    go_ret2
    exact RetId.mk_ (by rw [HI.out]) (by rw [HI.out]) HB3.out
  case neg =>
    have HI := Lib.hid (show idV r = (0, E) by unfold idV; rw [if_pos (by rw [HE.out]; exact h0), HE.out])
    have q0 : (E != 0) = true := by simpa using h0
    clear h0
    go_enter Tryd.func53, Tryd.ntmps53
    go_upto_region 1 with (fail)
    rw [← hW0]
    clear hW0
    go_wp2_with fail
    refine CD.out.mono ?_
    rintro _ w1 ⟨rfl, hb1⟩
    have HB1 := Lib.hid (bst HB.out hb1)
    clear hb1
    go_wp2
    go_ret2
    exact RetId.mk_ (by rw [HI.out]) (by rw [HI.out]) HB1.out
def RetBl (w : World) (b : Bool) (e : Ending) (w' : World) : Prop := e = .returned (.bool b) ∧ Below w.heap.size w w'
theorem reg_n2 {P : Program} {f : FuncId} {args : Array Value} {w : World} {x : Int} (h : ∀ W, Below w.heap.size w W → Calls P f args W (RetN W x)) : ∀ d os, Calls P f args (grow (redrawn w d) os) fun e w'' => e = .returned (.int .i64 x) ∧ ∃ p : Regrown, w'' = grow (redrawn w p.d) p.os :=
  fun d os => Calls.regrown_of ((h (grow (redrawn w d) os) (below_regrown w d os)).mono fun _ _ h => h)
set_option maxRecDepth 100000 in
set_option maxHeartbeats 4000000 in
theorem agrees_any (v : Value) (l : List Col) (key : Int) (x : ByteArray) (w : World) (ht : Tab w) (hs : Sl w 4 v l.length (cols l)) (hl : l.length ≤ 9223372036854775807) (hnm : ∀ c ∈ l, c.nm.size ≤ 9223372036854775807) :
    Calls Tryd.prog 16 #[.agg #[v, .int .i64 key], .string x] w (RetBl w true) := by
  obtain ⟨A, c, rfl, hc1, hc2⟩ := hs.form
  have hb := below_new w (.cells #[.slice A l.length c, .int .i64 key] 24)
  have bs := Blk.new w 24 #[.slice A l.length c, .int .i64 key]
  obtain ⟨W0, hW0⟩ : ∃ W, W = w.alloc (.cells #[.slice A l.length c, .int .i64 key] 24) := ⟨_, rfl⟩
  rw [← hW0] at hb bs
  have hs0 := hs.below hb
  have i0 : W0.cell? ⟨w.heap.size, 0, none⟩ = some (.slice A l.length c) := bs.cell 0
  have i1 : W0.cell? ⟨w.heap.size, 1, none⟩ = some (.int .i64 key) := bs.cell 1
  have hwz := bs.lt
  have HB := Lib.hid hb
  have HT0 := Lib.hid (ht.below hb)
  obtain ⟨T, hT⟩ : ∃ T : ByteArray, T = ⟨(sfmtV l key).1.toArray⟩ := ⟨_, rfl⟩
  obtain ⟨E, hE⟩ : ∃ E, (sfmtV l key).2 = E := ⟨_, rfl⟩
  obtain ⟨I, hI⟩ : ∃ I, (idV (sfmtV l key)).1 = I := ⟨_, rfl⟩
  obtain ⟨J, hJ⟩ : ∃ J, (idV (sfmtV l key)).2 = J := ⟨_, rfl⟩
  have C1 := Lib.hid (fun X (h : Below W0.heap.size W0 X) => retDec_to hT hE (sfmt_any _ l key X (HT0.out.below h) (hs0.below h) hl hnm))
  have C2 := Lib.hid (fun X (h : Below W0.heap.size W0 X) => retDec_to hT hE (rsfmt_any _ l key X (hs0.below h) hl hnm))
  have C3 := Lib.hid (fun X (h : Below W0.heap.size W0 X) => retId_to hI hJ (id_any _ l key X (HT0.out.below h) (hs0.below h) hl hnm))
  have C4 := Lib.hid (fun X (h : Below W0.heap.size W0 X) => retId_to hI hJ (rid_any _ l key X (hs0.below h) hl hnm))
  have C5 := Lib.hid (fun X (h : Below W0.heap.size W0 X) => schk_any _ l key X (hs0.below h) hl hnm)
  have C6 := Lib.hid (fun X (h : Below W0.heap.size W0 X) => rschk_any _ l key X (hs0.below h) hl hnm)
  have C7 := Lib.hid (fun X (h : Below W0.heap.size W0 X) => find_any _ l key x X (hs0.below h) hl)
  have C8 := Lib.hid (fun X (h : Below W0.heap.size W0 X) => rfind_any _ l key x X (hs0.below h) hl)
  clear hb bs hs0 hT hE hI hJ
  go_enter Tryd.func16, Tryd.ntmps16
  go_upto_region 1 with (fail)
  rw [← hW0]
  clear hW0
  go_wp2_with fail
  refine (C1.out _ (Below.refl _ _)).mono ?_
  rintro _ w1 ⟨rfl, hb1⟩
  have a0 := (hb1.cell (p := ⟨w.heap.size, 0, none⟩) hwz).trans i0
  have a1 := (hb1.cell (p := ⟨w.heap.size, 1, none⟩) hwz).trans i1
  have HB1 := Lib.hid hb1
  clear hb1
  go_wp2_with fail
  refine (C2.out _ HB1.out).mono ?_
  rintro _ w2 ⟨rfl, hb2⟩
  have HB2 := Lib.hid (bst HB1.out hb2)
  have b0 := (HB2.out.cell (p := ⟨w.heap.size, 0, none⟩) hwz).trans i0
  have b1 := (HB2.out.cell (p := ⟨w.heap.size, 1, none⟩) hwz).trans i1
  clear hb2 a0 a1
  go_wp2_with fail
  refine (C3.out _ HB2.out).mono ?_
  rintro _ w3 ⟨rfl, hb3⟩
  have HB3 := Lib.hid (bst HB2.out hb3)
  have a0 := (HB3.out.cell (p := ⟨w.heap.size, 0, none⟩) hwz).trans i0
  have a1 := (HB3.out.cell (p := ⟨w.heap.size, 1, none⟩) hwz).trans i1
  clear hb3 b0 b1
  go_wp2_with fail
  refine (C4.out _ HB3.out).mono ?_
  rintro _ W ⟨rfl, hb4⟩
  have HB4 := Lib.hid (bst HB3.out hb4)
  have e0 := cell_regrown ((HB4.out.cell (p := ⟨w.heap.size, 0, none⟩) hwz).trans i0)
  have e1 := cell_regrown ((HB4.out.cell (p := ⟨w.heap.size, 1, none⟩) hwz).trans i1)
  have A1 := Lib.hid (reg_n2 (w := W) (fun X h => C5.out X (bst HB4.out h)))
  have A2 := Lib.hid (reg_n2 (w := W) (fun X h => C6.out X (bst HB4.out h)))
  have A3 := Lib.hid (reg_n2 (w := W) (fun X h => C7.out X (bst HB4.out h)))
  have A4 := Lib.hid (reg_n2 (w := W) (fun X h => C8.out X (bst HB4.out h)))
  have HBW := Lib.hid (bst HB.out HB4.out)
  clear hb4 a0 a1 i0 i1 C1 C2 C3 C4 C5 C6 C7 C8
  go_wp2_with fail
  refine wp_region_quiet_below (by kernel_rfl) (by kernel_rfl) ?_
  repeat (go_big_quiet_step ((first | (with_reducible exact A1.out _ _) | (with_reducible exact A2.out _ _) | (with_reducible exact A3.out _ _) | (with_reducible exact A4.out _ _))))
  refine wpQuiet_nil ?_
  intro _ hw'
  obtain ⟨⟨dq, osq⟩, hw''⟩ := hw'
  subst hw''
  go_wp2
  go_ret
  exact ⟨by simp, bst HBW.out (below_regrown W dq osq)⟩
end Go.Proofs.YtlchfaakmgclcaaDoor
