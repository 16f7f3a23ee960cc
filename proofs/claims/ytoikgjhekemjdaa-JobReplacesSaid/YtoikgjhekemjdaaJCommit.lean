/-
  The contract of job.Commit.
-/
import Derived.Test.YtoikgjhekemjdaaJInputs
import Derived.Test.YtoikgjhekemjdaaApplyMeans
import Derived.Test.YtoikgjhekemjdaaApply
import Derived.Test.YtoikgjhekemjdaaSnapGen
namespace Go.Proofs.Ytoikgjhekemjdaa
open Go.RowKit Go.Sort
/-- No input stands twice, and each is an entry of the version. -/
def fitP (ins l : List Ent) : Prop := (ins.map Ent.id).Nodup ∧ freshV ins l = true
def RetCommit (w : World) (x q n nx : Int) (l ins us : List Ent) (e : Ending) (w' : World) : Prop :=
  (∃ err : Int, e = .returned (.tuple #[.agg #[.int .i64 0, .int .i64 0, .int .i64 0, .int .i64 0, .slice none 0 0, .slice none 0 0], .int .i64 err]) ∧ err ≠ 0 ∧ (err = 16 ↔ ¬ fitP ins l) ∧ Below w.heap.size w w') ∨
  (∃ (rem : List Int) (z : Snp) (va vr : Value), e = .returned (.tuple #[.agg #[.int .i64 2, .int .i64 (x + 1), .int .i64 q, .int .i64 nx, va, vr], .int .i64 0]) ∧ fitP ins l ∧ rem.Perm (ins.map Ent.id) ∧ applyV ⟨x, q, n, l⟩ ⟨2, x + 1, q, nx, us, rem⟩ = (0, z) ∧
    w'.ownsRow w.heap.size 34 12 va us.length (ents us) ∧ w'.ownsRow w.heap.size 3 1 vr rem.length (ints rem) ∧ Below w.heap.size w w')
theorem applyV_no16 (s : Snp) (r : Rcd) : (applyV s r).1 ≠ 16 := by
  unfold applyV lastV
  repeat' split
  all_goals first | decide | (show (0 : Int) ≠ 16; decide)
theorem not_fit_dup {ins l : List Ent} {k : Nat} {e : Ent} (he : ins[k]? = some e) (h : ((ins.take k).map Ent.id).contains e.id = true) : ¬ fitP ins l := fun ⟨hn, _⟩ => by
  rw [List.contains_iff_mem] at h
  have hk := (List.getElem?_eq_some_iff.1 he).1
  have e1 : ins = ins.take k ++ ins.drop k := (List.take_append_drop k ins).symm
  rw [e1, List.map_append, List.nodup_append] at hn
  refine hn.2.2 e.id h e.id (List.mem_map.2 ⟨e, ?_, rfl⟩) rfl
  rw [List.mem_iff_getElem?]; exact ⟨0, by rw [List.getElem?_drop]; simpa using he⟩
theorem own_ints1' {w : World} {base : Nat} {e : TypeId} {v : Value} {l : List Int} {y : Int} {R : Nat} (hR : l.length = R) (h : w.ownsRow base e 1 v (R + 1) (ints l ++ (#[Value.int .i64 y] : Array Value).toList)) : w.ownsRow base e 1 v (l ++ [y]).length (ints (l ++ [y])) := by subst hR; exact own_ints h
theorem take_snoc_id {ins : List Ent} {k : Nat} {e : Ent} (he : ins[k]? = some e) : (ins.take (k + 1)).map Ent.id = (ins.take k).map Ent.id ++ [e.id] := by
  rw [List.take_add_one, he]; simp
theorem nodup_snoc {ins : List Ent} {k : Nat} {e : Ent} (he : ins[k]? = some e) (hn : ((ins.take k).map Ent.id).Nodup) (h : ((ins.take k).map Ent.id).contains e.id = false) : ((ins.take (k + 1)).map Ent.id).Nodup := by
  rw [take_snoc_id he, List.nodup_append]
  refine ⟨hn, by simp, fun a ha b hb => ?_⟩
  simp at hb; subst hb
  intro e1; subst e1
  rw [← List.contains_iff_mem, h] at ha; cases ha
set_option maxRecDepth 100000 in
set_option maxHeartbeats 8000000 in
theorem commit_any (x q n nx : Int) (vs vi vo : Value) (l ins us : List Ent) (w : World) (hs : Sl w 12 vs l.length (ents l)) (hsm : ∀ e ∈ l, e.small) (hi : Sl w 12 vi ins.length (ents ins)) (hil : ins.length ≤ 1000)
    (ho : Sl w 12 vo us.length (ents us)) (hos : ∀ e ∈ us, e.small) (hol : us.length ≤ 1000) (hB : snapB x q n l = true) (hnx : n ≤ nx) :
    Calls Try.prog 33 #[.agg #[.int .i64 x, .int .i64 q, .int .i64 n, vs], vi, vo, .int .i64 nx] w (RetCommit w x q n nx l ins us) := by
  obtain ⟨AS, cS, rfl, hS1, hS2⟩ := hs.form
  obtain ⟨AI, cI, rfl, hI1, hI2⟩ := hi.form
  obtain ⟨AO, cO, rfl, hO1, hO2⟩ := ho.form
  have hll : l.length ≤ 256 := (snapB_parts hB).1.2.2.2.2.2.2
  have hx0 : 0 ≤ x := (snapB_parts hB).1.1
  have hx1 : x ≤ 2147483647 := (snapB_parts hB).1.2.1
  obtain ⟨W, hW⟩ : ∃ W, W = (w.alloc (.cells #[.int .i64 x, .int .i64 q, .int .i64 n, .slice AS l.length cS] 24)).alloc (.cells #[.int .i64 0, .int .i64 0, .int .i64 0, .int .i64 0, .slice none 0 0, .slice none 0 0] 38) := ⟨_, rfl⟩
  have bS : Blk W w.heap.size 24 #[.int .i64 x, .int .i64 q, .int .i64 n, .slice AS l.length cS] := by rw [hW]; exact (Blk.new _ _ _).alloc _
  have bZ : Blk W (w.heap.size + 1) 38 #[.int .i64 0, .int .i64 0, .int .i64 0, .int .i64 0, .slice none 0 0, .slice none 0 0] := by
    have := Blk.new (w.alloc (.cells #[.int .i64 x, .int .i64 q, .int .i64 n, .slice AS l.length cS] 24)) 38 #[.int .i64 0, .int .i64 0, .int .i64 0, .int .i64 0, .slice none 0 0, .slice none 0 0]
    rw [hW]; simpa using this
  have HBW := Lib.hid (show Below w.heap.size w W by rw [hW]; exact abel2 _ _ _)
  have SS := Lib.hid (hs.below HBW.out)
  have SI := Lib.hid (hi.below HBW.out)
  have SO := Lib.hid (ho.below HBW.out)
  have HC := Lib.hid (snapCheck_b' hB SS.out hsm (by omega) W (Below.refl _ _))
  have BS := Lib.hid bS
  have BZ := Lib.hid bZ
  have HSB := Lib.hid hB
  have hwz : W.heap.size = w.heap.size + 2 := by rw [hW]; simp
  have HWZ := Lib.hid hwz
  clear hs hi ho hB bS bZ hwz
  go_enter Try.func33, Try.ntmps33
  go_upto_region 1 with (fail)
  rw [← hW]
  clear hW
  have bb := BS.out
  have s0 := bb.cell 0
  have s1 := bb.cell 1
  have s2 := bb.cell 2
  have s3 := bb.cell 3
  simp only [List.getElem?_toArray, List.getElem?_cons_zero, List.getElem?_cons_succ] at s0 s1 s2 s3
  clear bb
  go_wp2_with fail
  refine HC.out.mono ?_
  rintro _ w2 ⟨rfl, hb2⟩
  have HB2 := Lib.hid hb2
  clear hb2 HC
  clear s0 s1 s2 s3
  go_upto_region 3 with (fail)
  refine wp_region_inv (by kernel_rfl) (by kernel_rfl) (fun L a w' => ∃ u10 u19 u20 u21 u22 u23 u24 u25 u26 u27 u28 u29 u30 : Value, a = ⟨#[.agg #[.int .i64 x, .int .i64 q, .int .i64 n, .slice AS l.length cS], .slice AI ins.length cI, .slice AO us.length cO, .int .i64 nx, .pointer (some ⟨w.heap.size, 0, none⟩), undef, undef, undef, .pointer (some ⟨w.heap.size + 1, 0, none⟩), .int .i64 0, u10, undef, undef, undef, undef, .agg #[.int .i64 x, .int .i64 q, .int .i64 n, .slice AS l.length cS], .bool true, .bool false, undef, u19, u20, u21, u22, u23, u24, u25, u26, u27, u28, u29, u30, undef, undef, undef, undef, undef, undef, undef, undef, undef, undef, undef, undef, undef, undef, undef, undef, undef, undef, undef, undef, undef, undef, undef, undef, undef, undef, undef, undef, undef, undef, undef, undef, undef, undef, undef, undef, undef, undef, undef], []⟩ ∧
      Below w2.heap.size w2 w' ∧ Got (L 0) u19 (.pointer (some ⟨w.heap.size, 0, none⟩)) ∧ Got (L 1) u20 (.int .i64 x) ∧ Got (L 2) u21 (.int .i64 (x + 1)) ∧ Got (L 3) u22 (.pointer (some ⟨w.heap.size, 1, none⟩)) ∧ Got (L 4) u23 (.int .i64 q) ∧ Got (L 5) u24 (.int .i64 nx) ∧ Got (L 6) u25 (.pointer (some ⟨w.heap.size, 2, none⟩)) ∧ Got (L 7) u26 (.int .i64 n) ∧ Got (L 8) u27 (.int .i64 nx) ∧ Got (L 9) u28 (.slice AO us.length cO) ∧ (L 10 = true → w'.ownsRow w2.heap.size 34 12 u29 us.length (ents us)) ∧ Got (L 11) u30 (.agg #[.int .i64 2, .int .i64 (x + 1), .int .i64 q, .int .i64 nx, u29, (.slice none 0 0)]) ∧ (L 11 = true → L 10 = true) ∧ (L 13 = true → L 12 = true ∧ L 11 = true) ∧ (L 12 = true → ∃ N, u10 = .pointer (some ⟨N, 0, none⟩) ∧ w2.heap.size ≤ N ∧ Blk w' N 38 (if L 13 = true then #[.int .i64 2, .int .i64 (x + 1), .int .i64 q, .int .i64 nx, u29, (.slice none 0 0)] else #[.int .i64 0, .int .i64 0, .int .i64 0, .int .i64 0, .slice none 0 0, .slice none 0 0])))
    ?_ ?_ ?_
  · exact ⟨_, _, _, _, _, _, _, _, _, _, _, _, _, rfl, (Below.refl _ _).drew, nofun, nofun, nofun, nofun, nofun, nofun, nofun, nofun, nofun, nofun, nofun, nofun, nofun, nofun, nofun⟩
  · refine ⟨?_, ?_, ?_, ?_, ?_, ?_, ?_, ?_, ?_, ?_, ?_, ?_, ?_, ?_, trivial⟩
    · rintro L a w' ⟨u10, u19, u20, u21, u22, u23, u24, u25, u26, u27, u28, u29, u30, rfl, hb, g0, g1, g2, g3, g4, g5, g6, g7, g8, g9, g10, g11, g12, g13, g14⟩ hl hd K hK
      dsimp only at hK ⊢
      go_simp
      exact hK _ _ ⟨_, _, _, _, _, _, _, _, _, _, _, _, _, rfl, hb, fun _ => rfl, g1, g2, g3, g4, g5, g6, g7, g8, g9, g10, g11, g12, g13, g14⟩
    · rintro L a w' ⟨u10, u19, u20, u21, u22, u23, u24, u25, u26, u27, u28, u29, u30, rfl, hb, g0, g1, g2, g3, g4, g5, g6, g7, g8, g9, g10, g11, g12, g13, g14⟩ hl hd K hK
      simp [Region.binds] at hd
      dsimp only at hK ⊢
      have e0 := g0 (by simp [hd])
      subst e0
      have bb := (BS.out.below HB2.out BS.out.lt).below hb (by have := BS.out.lt; have := HB2.out.size; omega)
      have cc := bb.cell 0
      simp only [List.getElem?_toArray, List.getElem?_cons_zero] at cc
      go_simp
      exact hK _ _ ⟨_, _, _, _, _, _, _, _, _, _, _, _, _, rfl, hb, g0, fun _ => rfl, g2, g3, g4, g5, g6, g7, g8, g9, g10, g11, g12, g13, g14⟩
    · rintro L a w' ⟨u10, u19, u20, u21, u22, u23, u24, u25, u26, u27, u28, u29, u30, rfl, hb, g0, g1, g2, g3, g4, g5, g6, g7, g8, g9, g10, g11, g12, g13, g14⟩ hl hd K hK
      simp [Region.binds] at hd
      dsimp only at hK ⊢
      have e1 := g1 (by simp [hd])
      subst e1
      have wx : IntKind.i64.wrap (x + 1) = x + 1 := IntWalk.i64_in _ (by omega)
      go_simp
      exact hK _ _ ⟨_, _, _, _, _, _, _, _, _, _, _, _, _, rfl, hb, g0, g1, fun _ => rfl, g3, g4, g5, g6, g7, g8, g9, g10, g11, g12, g13, g14⟩
    · rintro L a w' ⟨u10, u19, u20, u21, u22, u23, u24, u25, u26, u27, u28, u29, u30, rfl, hb, g0, g1, g2, g3, g4, g5, g6, g7, g8, g9, g10, g11, g12, g13, g14⟩ hl hd K hK
      dsimp only at hK ⊢
      go_simp
      exact hK _ _ ⟨_, _, _, _, _, _, _, _, _, _, _, _, _, rfl, hb, g0, g1, g2, fun _ => rfl, g4, g5, g6, g7, g8, g9, g10, g11, g12, g13, g14⟩
    · rintro L a w' ⟨u10, u19, u20, u21, u22, u23, u24, u25, u26, u27, u28, u29, u30, rfl, hb, g0, g1, g2, g3, g4, g5, g6, g7, g8, g9, g10, g11, g12, g13, g14⟩ hl hd K hK
      simp [Region.binds] at hd
      dsimp only at hK ⊢
      have e3 := g3 (by simp [hd])
      subst e3
      have bb := (BS.out.below HB2.out BS.out.lt).below hb (by have := BS.out.lt; have := HB2.out.size; omega)
      have cc := bb.cell 1
      simp only [List.getElem?_toArray, List.getElem?_cons_zero, List.getElem?_cons_succ] at cc
      go_simp
      exact hK _ _ ⟨_, _, _, _, _, _, _, _, _, _, _, _, _, rfl, hb, g0, g1, g2, g3, fun _ => rfl, g5, g6, g7, g8, g9, g10, g11, g12, g13, g14⟩
    · rintro L a w' ⟨u10, u19, u20, u21, u22, u23, u24, u25, u26, u27, u28, u29, u30, rfl, hb, g0, g1, g2, g3, g4, g5, g6, g7, g8, g9, g10, g11, g12, g13, g14⟩ hl hd K hK
      dsimp only at hK ⊢
      go_simp
      exact hK _ _ ⟨_, _, _, _, _, _, _, _, _, _, _, _, _, rfl, hb, g0, g1, g2, g3, g4, fun _ => rfl, g6, g7, g8, g9, g10, g11, g12, g13, g14⟩
    · rintro L a w' ⟨u10, u19, u20, u21, u22, u23, u24, u25, u26, u27, u28, u29, u30, rfl, hb, g0, g1, g2, g3, g4, g5, g6, g7, g8, g9, g10, g11, g12, g13, g14⟩ hl hd K hK
      dsimp only at hK ⊢
      go_simp
      exact hK _ _ ⟨_, _, _, _, _, _, _, _, _, _, _, _, _, rfl, hb, g0, g1, g2, g3, g4, g5, fun _ => rfl, g7, g8, g9, g10, g11, g12, g13, g14⟩
    · rintro L a w' ⟨u10, u19, u20, u21, u22, u23, u24, u25, u26, u27, u28, u29, u30, rfl, hb, g0, g1, g2, g3, g4, g5, g6, g7, g8, g9, g10, g11, g12, g13, g14⟩ hl hd K hK
      simp [Region.binds] at hd
      dsimp only at hK ⊢
      have e6 := g6 (by simp [hd])
      subst e6
      have bb := (BS.out.below HB2.out BS.out.lt).below hb (by have := BS.out.lt; have := HB2.out.size; omega)
      have cc := bb.cell 2
      simp only [List.getElem?_toArray, List.getElem?_cons_zero, List.getElem?_cons_succ] at cc
      go_simp
      exact hK _ _ ⟨_, _, _, _, _, _, _, _, _, _, _, _, _, rfl, hb, g0, g1, g2, g3, g4, g5, g6, fun _ => rfl, g8, g9, g10, g11, g12, g13, g14⟩
    · rintro L a w' ⟨u10, u19, u20, u21, u22, u23, u24, u25, u26, u27, u28, u29, u30, rfl, hb, g0, g1, g2, g3, g4, g5, g6, g7, g8, g9, g10, g11, g12, g13, g14⟩ hl hd K hK
      simp [Region.binds] at hd
      dsimp only at hK ⊢
      have e5 := g5 (by simp [hd])
      subst e5
      have e7 := g7 (by simp [hd])
      subst e7
      go_simp
      exact hK _ _ ⟨_, _, _, _, _, _, _, _, _, _, _, _, _, rfl, hb, g0, g1, g2, g3, g4, g5, g6, g7, fun _ => congrArg (Value.int .i64) (Int.max_eq_left hnx), g9, g10, g11, g12, g13, g14⟩
    · rintro L a w' ⟨u10, u19, u20, u21, u22, u23, u24, u25, u26, u27, u28, u29, u30, rfl, hb, g0, g1, g2, g3, g4, g5, g6, g7, g8, g9, g10, g11, g12, g13, g14⟩ hl hd K hK
      dsimp only at hK ⊢
      go_simp
      exact hK _ _ ⟨_, _, _, _, _, _, _, _, _, _, _, _, _, rfl, hb, g0, g1, g2, g3, g4, g5, g6, g7, g8, fun _ => rfl, g10, g11, g12, g13, g14⟩
    · rintro L a w' ⟨u10, u19, u20, u21, u22, u23, u24, u25, u26, u27, u28, u29, u30, rfl, hb, g0, g1, g2, g3, g4, g5, g6, g7, g8, g9, g10, g11, g12, g13, g14⟩ hl hd K hK
      simp [Region.binds] at hd
      dsimp only at hK ⊢
      have e9 := g9 (by simp [hd])
      subst e9
      have h13 : L 13 = false := by
        cases h : L 13 with
        | false => rfl
        | true => have := g12 (g13 h).2; rw [hl] at this; cases this
      have h11 : L 11 = false := by
        cases h : L 11 with
        | false => rfl
        | true => have := g12 h; rw [hl] at this; cases this
      go_wp2_with fail
      refine (clone_any (.slice AO us.length cO) us w' ((SO.out.below HB2.out).below hb) (by omega)).mono ?_
      rintro _ w4 ⟨v4, rfl, hown4, hb4⟩
      exact hK _ _ ⟨_, _, _, _, _, _, _, _, _, _, _, _, _, rfl, bst hb hb4, g0, g1, g2, g3, g4, g5, g6, g7, g8, g9, fun _ => own_mono hown4 hb.size, fun h => absurd (show L 11 = true from h) (by rw [h11]; simp), fun _ => rfl, g13, fun h => by
            obtain ⟨N, e1, e2, e3⟩ := g14 h
            have e4 := e3.below hb4 e3.lt
            rw [if_neg (by rw [h13]; simp)] at e4
            exact ⟨N, e1, e2, by show Blk _ _ _ (if L 13 = true then _ else _); rw [if_neg (by rw [h13]; simp)]; exact e4⟩⟩
    · rintro L a w' ⟨u10, u19, u20, u21, u22, u23, u24, u25, u26, u27, u28, u29, u30, rfl, hb, g0, g1, g2, g3, g4, g5, g6, g7, g8, g9, g10, g11, g12, g13, g14⟩ hl hd K hK
      simp [Region.binds] at hd
      dsimp only at hK ⊢
      have e2 := g2 (by simp [hd])
      subst e2
      have e4 := g4 (by simp [hd])
      subst e4
      have e8 := g8 (by simp [hd])
      subst e8
      obtain ⟨A4, c4, rfl, _, _⟩ := (Sl.of_own (g10 (by simp [hd]))).form
      go_simp
      exact hK _ _ ⟨_, _, _, _, _, _, _, _, _, _, _, _, _, rfl, hb, g0, g1, g2, g3, g4, g5, g6, g7, g8, g9, g10, fun _ => rfl, fun _ => (by show L 10 = true; simp [hd]), fun h => ⟨(g13 h).1, rfl⟩, g14⟩
    · rintro L a w' ⟨u10, u19, u20, u21, u22, u23, u24, u25, u26, u27, u28, u29, u30, rfl, hb, g0, g1, g2, g3, g4, g5, g6, g7, g8, g9, g10, g11, g12, g13, g14⟩ hl hd K hK
      dsimp only at hK ⊢
      have h13 : L 13 = false := by
        cases h : L 13 with
        | false => rfl
        | true => have := (g13 h).1; rw [hl] at this; cases this
      go_simp
      exact hK _ _ ⟨_, _, _, _, _, _, _, _, _, _, _, _, _, rfl, hb.alloc hb.size _, g0, g1, g2, g3, g4, g5, g6, g7, g8, g9, fun h => (g10 h).alloc _, g11, g12, fun h => absurd (show L 13 = true from h) (by rw [h13]; simp), fun _ => ⟨w'.heap.size, rfl, hb.size, by show Blk _ _ _ (if L 13 = true then _ else _); rw [if_neg (by rw [h13]; simp)]; exact Blk.new _ _ _⟩⟩
    · rintro L a w' ⟨u10, u19, u20, u21, u22, u23, u24, u25, u26, u27, u28, u29, u30, rfl, hb, g0, g1, g2, g3, g4, g5, g6, g7, g8, g9, g10, g11, g12, g13, g14⟩ hl hd K hK
      simp [Region.binds] at hd
      dsimp only at hK ⊢
      have hd1 : L 11 = true := by simp [hd]
      have hd2 : L 12 = true := by simp [hd]
      have e11 := g11 hd1
      subst e11
      obtain ⟨N, e1, e2, e3⟩ := g14 hd2
      subst e1
      rw [if_neg (by rw [hl]; simp)] at e3
      have f0 := e3.frozen 0
      have f1 := e3.frozen 1
      have f2 := e3.frozen 2
      have f3 := e3.frozen 3
      have f4 := e3.frozen 4
      have f5 := e3.frozen 5
      have c0 := e3.cell 0
      have c1 := e3.cell 1
      have c2 := e3.cell 2
      have c3 := e3.cell 3
      have c4 := e3.cell 4
      have c5 := e3.cell 5
      simp only [List.getElem?_toArray, List.getElem?_cons_zero, List.getElem?_cons_succ] at c0 c1 c2 c3 c4 c5
      have hlt := e3.lt
      obtain ⟨A4, k4, rfl, _, _⟩ := (Sl.of_own (g10 (g12 hd1))).form
      go_simp
      have kg := grown6 w' N (.int .i64 2) (.int .i64 (x + 1)) (.int .i64 q) (.int .i64 nx) (.slice A4 us.length k4) (.slice none 0 0)
      have kb := blk6 (.int .i64 2) (.int .i64 (x + 1)) (.int .i64 q) (.int .i64 nx) (.slice A4 us.length k4) (.slice none 0 0) e3
      have ko := g10 (g12 hd1)
      exact hK _ _ ⟨_, _, _, _, _, _, _, _, _, _, _, _, _, rfl, below_row hb kg e2 hb.size, g0, g1, g2, g3, g4, g5, g6, g7, g8, g9, fun _ => own_row ko kg (fun b hb' e => own_blk_ne ko e3 (by decide) (by rw [hb', e])), fun _ => rfl, g12, fun _ => ⟨hd2, hd1⟩, fun _ => ⟨N, rfl, e2, kb⟩⟩
  rintro a w3 ⟨u10, u19, u20, u21, u22, u23, u24, u25, u26, u27, u28, u29, u30, rfl, hb, g0, g1, g2, g3, g4, g5, g6, g7, g8, g9, g10, g11, g12, g13, g14⟩
  have e0 := g0 rfl
  subst e0
  have e1 := g1 rfl
  subst e1
  have e2 := g2 rfl
  subst e2
  have e3 := g3 rfl
  subst e3
  have e4 := g4 rfl
  subst e4
  have e5 := g5 rfl
  subst e5
  have e6 := g6 rfl
  subst e6
  have e7 := g7 rfl
  subst e7
  have e8 := g8 rfl
  subst e8
  have e9 := g9 rfl
  subst e9
  have e11 := g11 rfl
  subst e11
  obtain ⟨N, e1, hN, bN⟩ := g14 rfl
  subst e1
  rw [if_pos rfl] at bN
  obtain ⟨A4, k4, rfl, hk41, hk42⟩ := (Sl.of_own (g10 rfl)).form
  have hs2 := HB2.out.size
  have hw2 : w.heap.size + 2 ≤ w2.heap.size := by have := HWZ.out; omega
  have BN3 := Lib.hid bN
  have OA3 := Lib.hid (g10 rfl)
  have HB3 := Lib.hid hb
  have ZZ3 := Lib.hid ((BZ.out.below HB2.out BZ.out.lt).below hb (by omega))
  have SS3 := Lib.hid ((BS.out.below HB2.out BS.out.lt).below hb (by omega))
  clear g0 g1 g2 g3 g4 g5 g6 g7 g8 g9 g10 g11 g12 g13 g14 bN hb
  go_wp2
  go_loopw [33] (fun i wr => ∃ (k : Nat) (rem : List Int) (vr : Value), i = .int .i64 k ∧ k ≤ ins.length ∧ rem.length = k ∧ Hid (rem = (ins.take k).map Ent.id) ∧ Hid (rem.Nodup) ∧ Blk wr N 38 #[.int .i64 2, .int .i64 (x + 1), .int .i64 q, .int .i64 nx, (.slice A4 us.length k4), vr] ∧ wr.ownsRow w2.heap.size 3 1 vr rem.length (ints rem) ∧ wr.ownsRow w2.heap.size 34 12 (.slice A4 us.length k4) us.length (ents us) ∧ Blk wr (w.heap.size + 1) 38 #[.int .i64 0, .int .i64 0, .int .i64 0, .int .i64 0, .slice none 0 0, .slice none 0 0] ∧ Blk wr w.heap.size 24 #[.int .i64 x, .int .i64 q, .int .i64 n, .slice AS l.length cS] ∧ Below w2.heap.size w2 wr) (fun i _ => ins.length - (intOf i).toNat)
  case atStart => exact ⟨0, [], .slice none 0 0, rfl, Nat.zero_le _, rfl, Lib.hid rfl, Lib.hid List.nodup_nil, BN3.out, World.ownsRow_nil _ _ _ _, OA3.out, ZZ3.out, SS3.out, HB3.out⟩
  case round =>
    obtain ⟨k, rem, vr, rfl, hk, hrk, hrem, hnd, bN, hor, hoa, bZ, bS, hbel⟩ := hrel
    obtain ⟨AR, cR, rfl, hcR1, hcR2⟩ := (Sl.of_own hor).form
    obtain ⟨R, hR⟩ : ∃ R, rem.length = R := ⟨_, rfl⟩
    have HR := Lib.hid hR
    have HRK := Lib.hid (show R = k by omega)
    have hR1 : R ≤ 1000 := by omega
    have BW := Lib.hid (show Below w.heap.size w wr from HBW.out.trans ((HB2.out.trans (hbel.mono hs2)).mono HBW.out.size))
    have BN := Lib.hid bN
    have OR := Lib.hid hor
    have OA := Lib.hid hoa
    have ZZ0 := Lib.hid bZ
    have SB := Lib.hid bS
    have BL := Lib.hid hbel
    have HNW : N < wr.heap.size := bN.lt
    by_cases hlt : k < ins.length
    · obtain ⟨ad, e, p, rfl, he, hp, hE⟩ := ((SI.out.below HB2.out).below hbel).ent_load rfl hlt
      obtain ⟨hplt, c0, c1, c2, c3, c4, c5, c6, c7, c8, c9, c10, c11⟩ := hE
      have HE := Lib.hid he
      have HLT := Lib.hid hlt
      clear he bN hor hoa bZ bS hbel hrk hR
      obtain ⟨U, hU⟩ : ∃ U, U = wr.alloc (.cells #[.int .i64 e.id, .int .i64 e.rows, .int .i64 e.live, .bool e.lo.null, .int .i64 e.lo.n, .string e.lo.s, .int .i64 e.lo.seq, .bool e.hi.null, .int .i64 e.hi.n, .string e.hi.s, .int .i64 e.hi.seq, .int .i64 e.del] 34) := ⟨_, rfl⟩
      have BE := Lib.hid (show Blk U wr.heap.size 34 #[.int .i64 e.id, .int .i64 e.rows, .int .i64 e.live, .bool e.lo.null, .int .i64 e.lo.n, .string e.lo.s, .int .i64 e.lo.seq, .bool e.hi.null, .int .i64 e.hi.n, .string e.hi.s, .int .i64 e.hi.seq, .int .i64 e.del] by rw [hU]; exact Blk.new _ _ _)
      have BU := Lib.hid (show Below wr.heap.size wr U by rw [hU]; exact abel _ _)
      have HCI := Lib.hid (contI_any _ rem e.id U ((Sl.of_own OR.out).below BU.out) (by have := HR.out; omega))
      have n5 := (BN.out.below BU.out BN.out.lt).cell 5
      have e0 := BE.out.cell 0
      simp only [List.getElem?_toArray, List.getElem?_cons_zero, List.getElem?_cons_succ] at n5 e0
      rw [HR.out] at n5 HCI
      go_upto_region 7 with (fail)
      rw [← hU]
      clear hU
      go_wp2_with fail
      refine HCI.out.mono ?_
      cases hcon : rem.contains e.id with
      | true =>
        have HNF := Lib.hid (not_fit_dup (l := l) HE.out (by rw [← hrem.out]; exact hcon))
        clear hcon
        rintro _ w5 ⟨rfl, hb5⟩
        have ZZ := Lib.hid ((ZZ0.out.below BU.out ZZ0.out.lt).below hb5 (by have := ZZ0.out.lt; have := BU.out.size; omega))
        have BW := Lib.hid (bst (bst BW.out BU.out) hb5)
        clear hb5 n5 e0 c0 c1 c2 c3 c4 c5 c6 c7 c8 c9 c10 c11
        have bb := ZZ.out
        have z0 := bb.cell 0
        have z1 := bb.cell 1
        have z2 := bb.cell 2
        have z3 := bb.cell 3
        have z4 := bb.cell 4
        have z5 := bb.cell 5
        simp only [List.getElem?_toArray, List.getElem?_cons_zero, List.getElem?_cons_succ] at z0 z1 z2 z3 z4 z5
        clear bb
        have fz0 := ZZ.out.frozen 0
        have fz1 := ZZ.out.frozen 1
        have fz2 := ZZ.out.frozen 2
        have fz3 := ZZ.out.frozen 3
        have fz4 := ZZ.out.frozen 4
        have fz5 := ZZ.out.frozen 5
        have hltz := ZZ.out.lt
        go_wp2
        have kg := grown6 w5 (w.heap.size + 1) (.int .i64 0) (.int .i64 0) (.int .i64 0) (.int .i64 0) (.slice none 0 0) (.slice none 0 0)
        have kb := blk6 (.int .i64 0) (.int .i64 0) (.int .i64 0) (.int .i64 0) (.slice none 0 0) (.slice none 0 0) ZZ.out
        have kw := below_row BW.out kg (by omega) BW.out.size
        obtain ⟨V, hV⟩ : ∃ V, V = (((((w5.setCell ⟨w.heap.size + 1, 0, none⟩ (.int .i64 0)).setCell ⟨w.heap.size + 1, 1, none⟩ (.int .i64 0)).setCell ⟨w.heap.size + 1, 2, none⟩ (.int .i64 0)).setCell ⟨w.heap.size + 1, 3, none⟩ (.int .i64 0)).setCell ⟨w.heap.size + 1, 4, none⟩ (.slice none 0 0)).setCell ⟨w.heap.size + 1, 5, none⟩ (.slice none 0 0) := ⟨_, rfl⟩
        rw [← hV] at kb kw ⊢
        have bb := kb
        have d0 := bb.cell 0
        have d1 := bb.cell 1
        have d2 := bb.cell 2
        have d3 := bb.cell 3
        have d4 := bb.cell 4
        have d5 := bb.cell 5
        simp only [List.getElem?_toArray, List.getElem?_cons_zero, List.getElem?_cons_succ] at d0 d1 d2 d3 d4 d5
        clear bb
        exact bodyPost_ret (v := .tuple #[.agg #[.int .i64 0, .int .i64 0, .int .i64 0, .int .i64 0, .slice none 0 0, .slice none 0 0], .int .i64 16]) (by simp [results, Try.results33, go_sem, d0, d1, d2, d3, d4, d5]) rfl (.inl ⟨16, rfl, by decide, ⟨fun _ => HNF.out, fun _ => rfl⟩, kw⟩)
      | false =>
        have HNF := Lib.hid (show ((ins.take (k + 1)).map Ent.id).Nodup from nodup_snoc HE.out (by rw [← hrem.out]; exact hnd.out) (by rw [← hrem.out]; exact hcon))
        have HRM := Lib.hid (show rem ++ [e.id] = (ins.take (k + 1)).map Ent.id by rw [take_snoc_id HE.out, ← hrem.out])
        clear hcon
        rintro _ w5 ⟨rfl, hb5⟩
        have B5 := Lib.hid (bst BU.out hb5)
        have BN5 := Lib.hid (BN.out.below B5.out BN.out.lt)
        have OR5 := Lib.hid (own_below OR.out B5.out)
        have OA5 := Lib.hid (own_below OA.out B5.out)
        have ZZ5 := Lib.hid (ZZ0.out.below B5.out ZZ0.out.lt)
        have SB5 := Lib.hid (SB.out.below B5.out SB.out.lt)
        have BL5 := Lib.hid (BL.out.trans (B5.out.mono BL.out.size))
        have BE5 := Lib.hid (BE.out.below hb5 BE.out.lt)
        clear hb5 n5 e0 c0 c1 c2 c3 c4 c5 c6 c7 c8 c9 c10 c11
        rw [HR.out] at BN5 OR5
        have n5 := BN5.out.cell 5
        have e0 := BE5.out.cell 0
        simp only [List.getElem?_toArray, List.getElem?_cons_zero, List.getElem?_cons_succ] at n5 e0
        have hsz5 := BL5.out.size
        go_wp2_with (at_builtin; go_must (refine app1 _ _ OR5.out (Below.refl w2.heap.size w5) (Nat.le_refl _) hsz5 under_i64 info_i64 rfl (by decide) rfl (oneInt _ _) (by omega) (by omega) rfl rfl rfl rfl ?_))
        intro g6 cap6 w6 oR6 hb6 hg6 hor6
        have BN6 := Lib.hid (BN5.out.grown hg6 (fun e => own_blk_ne OR5.out BN5.out (by decide) e))
        have OA6 := Lib.hid (own_grown OA5.out hg6 (fun b hb2 e => own_ne OA5.out OR5.out (by decide) b hb2 e))
        have ZZ6 := Lib.hid (ZZ5.out.grown hg6 (fun e => own_blk_ne OR5.out ZZ5.out (by decide) e))
        have SB6 := Lib.hid (SB5.out.grown hg6 (fun e => own_blk_ne OR5.out SB5.out (by decide) e))
        have BL6 := Lib.hid (BL5.out.trans hb6)
        have OR6 := Lib.hid oR6
        have hNb6 := own_blk_ne oR6 BN6.out (by decide)
        clear oR6 hb6 hg6 hor6 n5 e0
        have n5 := BN6.out.cell 5
        simp only [List.getElem?_toArray, List.getElem?_cons_zero, List.getElem?_cons_succ] at n5
        have f5 := BN6.out.frozen 5
        have hN6 := BN6.out.lt
        go_wp2
        have kg : w6.grownBy (w6.setCell ⟨N, 5, none⟩ (.slice (some ⟨g6, 0, none⟩) (R + 1) cap6)) (some N) := grownBy_set w6 ⟨N, 5, none⟩ _
        have bb := BN6.out.set_ 5 (.slice (some ⟨g6, 0, none⟩) (R + 1) cap6)
        simp only [List.setIfInBounds_toArray, List.set_cons_zero, List.set_cons_succ] at bb
        have BB := Lib.hid bb
        have KG := Lib.hid kg
        clear bb kg n5 f5 hN6
        have hRk := HRK.out
        subst hRk
        go_roundw
        case rel => exact ⟨R + 1, rem ++ [e.id], _, by go_num, HLT.out, by simp [HR.out], HRM, (show Hid (rem ++ [e.id]).Nodup from Lib.hid (HRM.out ▸ HNF.out)), BB.out, own_row (own_ints1' HR.out OR6.out) KG.out (fun b hb2 e2 => own_blk_ne OR6.out BN6.out (by decide) (by rw [hb2, e2])), own_row OA6.out KG.out (fun b hb2 e2 => own_blk_ne OA6.out BN6.out (by decide) (by rw [hb2, e2])), ZZ6.out.row KG.out (by omega), SB6.out.row KG.out (by omega), below_row BL6.out KG.out hN BL6.out.size⟩
        case measure => have := HLT.out; simp [intOf]; omega
    · have HRM := Lib.hid (show rem = ins.map Ent.id by rw [hrem.out, show k = ins.length by omega, List.take_length])
      clear bN hor hoa bZ bS hbel hrk hR
      have HF := Lib.hid (fresh_any x q n (.slice AS l.length cS) (.slice AI ins.length cI) ins l wr ((SS.out.below HB2.out).below BL.out) (by omega) ((SI.out.below HB2.out).below BL.out) (by omega))
      have bb := SB.out
      have s0 := bb.cell 0
      have s1 := bb.cell 1
      have s2 := bb.cell 2
      have s3 := bb.cell 3
      simp only [List.getElem?_toArray, List.getElem?_cons_zero, List.getElem?_cons_succ] at s0 s1 s2 s3
      clear bb
      go_wp2_with fail
      refine HF.out.mono ?_
      clear s0 s1 s2 s3 HF
      cases hfr : freshV ins l with
      | false =>
        have HNF := Lib.hid (show ¬ fitP ins l from fun h => by have := h.2; rw [hfr] at this; cases this)
        clear hfr
        rintro _ w5 ⟨rfl, hb5⟩
        have ZZ := Lib.hid (ZZ0.out.below hb5 ZZ0.out.lt)
        have BW := Lib.hid (bst BW.out hb5)
        clear hb5
        have bb := ZZ.out
        have z0 := bb.cell 0
        have z1 := bb.cell 1
        have z2 := bb.cell 2
        have z3 := bb.cell 3
        have z4 := bb.cell 4
        have z5 := bb.cell 5
        simp only [List.getElem?_toArray, List.getElem?_cons_zero, List.getElem?_cons_succ] at z0 z1 z2 z3 z4 z5
        clear bb
        have fz0 := ZZ.out.frozen 0
        have fz1 := ZZ.out.frozen 1
        have fz2 := ZZ.out.frozen 2
        have fz3 := ZZ.out.frozen 3
        have fz4 := ZZ.out.frozen 4
        have fz5 := ZZ.out.frozen 5
        have hltz := ZZ.out.lt
        go_wp2
        have kg := grown6 w5 (w.heap.size + 1) (.int .i64 0) (.int .i64 0) (.int .i64 0) (.int .i64 0) (.slice none 0 0) (.slice none 0 0)
        have kb := blk6 (.int .i64 0) (.int .i64 0) (.int .i64 0) (.int .i64 0) (.slice none 0 0) (.slice none 0 0) ZZ.out
        have kw := below_row BW.out kg (by omega) BW.out.size
        obtain ⟨V, hV⟩ : ∃ V, V = (((((w5.setCell ⟨w.heap.size + 1, 0, none⟩ (.int .i64 0)).setCell ⟨w.heap.size + 1, 1, none⟩ (.int .i64 0)).setCell ⟨w.heap.size + 1, 2, none⟩ (.int .i64 0)).setCell ⟨w.heap.size + 1, 3, none⟩ (.int .i64 0)).setCell ⟨w.heap.size + 1, 4, none⟩ (.slice none 0 0)).setCell ⟨w.heap.size + 1, 5, none⟩ (.slice none 0 0) := ⟨_, rfl⟩
        rw [← hV] at kb kw ⊢
        have bb := kb
        have d0 := bb.cell 0
        have d1 := bb.cell 1
        have d2 := bb.cell 2
        have d3 := bb.cell 3
        have d4 := bb.cell 4
        have d5 := bb.cell 5
        simp only [List.getElem?_toArray, List.getElem?_cons_zero, List.getElem?_cons_succ] at d0 d1 d2 d3 d4 d5
        clear bb
        exact bodyPost_ret (v := .tuple #[.agg #[.int .i64 0, .int .i64 0, .int .i64 0, .int .i64 0, .slice none 0 0, .slice none 0 0], .int .i64 16]) (by simp [results, Try.results33, go_sem, d0, d1, d2, d3, d4, d5]) rfl (.inl ⟨16, rfl, by decide, ⟨fun _ => HNF.out, fun _ => rfl⟩, kw⟩)
      | true =>
        have HFT := Lib.hid (show fitP ins l from ⟨HRM.out ▸ hnd.out, hfr⟩)
        clear hfr
        rintro _ w5 ⟨rfl, hb5⟩
        have BN5 := Lib.hid (BN.out.below hb5 BN.out.lt)
        have OR5 := Lib.hid (own_below OR.out hb5)
        have OA5 := Lib.hid (own_below OA.out hb5)
        have ZZ5 := Lib.hid (ZZ0.out.below hb5 ZZ0.out.lt)
        have SB5 := Lib.hid (SB.out.below hb5 SB.out.lt)
        have BL5 := Lib.hid (BL.out.trans (hb5.mono BL.out.size))
        clear hb5
        have HSI := Lib.hid (sortI_any (.slice AR rem.length cR) w2.heap.size rem w5 OR5.out (by have := HR.out; omega))
        rw [HR.out] at HSI BN5
        have n5 := BN5.out.cell 5
        simp only [List.getElem?_toArray, List.getElem?_cons_zero, List.getElem?_cons_succ] at n5
        go_wp2_with fail
        refine HSI.out.mono ?_
        rintro _ w6 ⟨rfl, rem2, hp, oR6, hg6⟩
        rw [HR.out] at OR5
        have hl2 : rem2.length = R := hp.length_eq.trans HR.out
        have HL2 := Lib.hid hl2
        have BN6 := Lib.hid (BN5.out.grown hg6 (fun e => own_blk_ne OR5.out BN5.out (by decide) e))
        have OA6 := Lib.hid (own_grown OA5.out hg6 (fun b hb2 e => own_ne OA5.out OR5.out (by decide) b hb2 e))
        have ZZ6 := Lib.hid (ZZ5.out.grown hg6 (fun e => own_blk_ne OR5.out ZZ5.out (by decide) e))
        have SB6 := Lib.hid (SB5.out.grown hg6 (fun e => own_blk_ne OR5.out SB5.out (by decide) e))
        have BL6 := Lib.hid (BL5.out.grown hg6 BL5.out.size (fun b hb => (OR5.out.lt b hb).1))
        have OR6 := Lib.hid oR6
        have HP := Lib.hid hp
        clear hp oR6 hg6 n5 hl2
        have HA := Lib.hid (apply_any x q n l 2 (x + 1) q nx us rem2 (.slice AS l.length cS) (.slice A4 us.length k4) (.slice AR R cR) w6 ((SS.out.below HB2.out).below BL6.out) hsm (by omega) (Sl.of_own OA6.out) hos (by omega) (Sl.of_own OR6.out) (by have := HL2.out; omega))
        obtain ⟨res, hres⟩ : ∃ res, applyV ⟨x, q, n, l⟩ ⟨2, x + 1, q, nx, us, rem2⟩ = res := ⟨_, rfl⟩
        have H16 := Lib.hid (hres ▸ applyV_no16 ⟨x, q, n, l⟩ ⟨2, x + 1, q, nx, us, rem2⟩)
        rw [hres] at HA
        have HRES := Lib.hid hres
        clear hres
        have bb := SB6.out
        have s0 := bb.cell 0
        have s1 := bb.cell 1
        have s2 := bb.cell 2
        have s3 := bb.cell 3
        simp only [List.getElem?_toArray, List.getElem?_cons_zero, List.getElem?_cons_succ] at s0 s1 s2 s3
        clear bb
        have bb := BN6.out
        have n0 := bb.cell 0
        have n1 := bb.cell 1
        have n2 := bb.cell 2
        have n3 := bb.cell 3
        have n4 := bb.cell 4
        have n5 := bb.cell 5
        simp only [List.getElem?_toArray, List.getElem?_cons_zero, List.getElem?_cons_succ] at n0 n1 n2 n3 n4 n5
        clear bb
        go_wp2_with fail
        refine HA.out.mono ?_
        rintro _ w7 ⟨vz, rfl, oz, hb7⟩
        obtain ⟨er, zx, zq, zn, zl⟩ := res
        simp only at oz H16 ⊢
        obtain ⟨AZ, cZ, rfl, _, _⟩ := (Sl.of_own oz).form
        clear s0 s1 s2 s3 n0 n1 n2 n3 n4 n5 oz HA
        obtain ⟨w8, hw8⟩ : ∃ w8, w8 = w7.alloc (.cells #[.int .i64 zx, .int .i64 zq, .int .i64 zn, .slice AZ zl.length cZ] 24) := ⟨_, rfl⟩
        have B8 := Lib.hid (show Below w6.heap.size w6 w8 by rw [hw8]; exact hb7.alloc hb7.size _)
        have BN8 := Lib.hid (BN6.out.below B8.out BN6.out.lt)
        have OR8 := Lib.hid (own_below OR6.out B8.out)
        have OA8 := Lib.hid (own_below OA6.out B8.out)
        have ZZ := Lib.hid (ZZ6.out.below B8.out ZZ6.out.lt)
        have BL8 := Lib.hid (BL6.out.trans (B8.out.mono BL6.out.size))
        have BW := Lib.hid (show Below w.heap.size w w8 from HBW.out.trans ((HB2.out.trans (BL8.out.mono hs2)).mono HBW.out.size))
        clear hb7
        go_upto_region 15 with (fail)
        rw [← hw8]
        clear hw8
        by_cases he : er = 0
        · subst he
          have bb := BN8.out
          have n0 := bb.cell 0
          have n1 := bb.cell 1
          have n2 := bb.cell 2
          have n3 := bb.cell 3
          have n4 := bb.cell 4
          have n5 := bb.cell 5
          simp only [List.getElem?_toArray, List.getElem?_cons_zero, List.getElem?_cons_succ] at n0 n1 n2 n3 n4 n5
          clear bb
          have bb := ZZ.out
          have z0 := bb.cell 0
          have z1 := bb.cell 1
          have z2 := bb.cell 2
          have z3 := bb.cell 3
          have z4 := bb.cell 4
          have z5 := bb.cell 5
          simp only [List.getElem?_toArray, List.getElem?_cons_zero, List.getElem?_cons_succ] at z0 z1 z2 z3 z4 z5
          clear bb
          have fz0 := ZZ.out.frozen 0
          have fz1 := ZZ.out.frozen 1
          have fz2 := ZZ.out.frozen 2
          have fz3 := ZZ.out.frozen 3
          have fz4 := ZZ.out.frozen 4
          have fz5 := ZZ.out.frozen 5
          have hltz := ZZ.out.lt
          go_wp2
          have kg := grown6 w8 (w.heap.size + 1) (.int .i64 2) (.int .i64 (x + 1)) (.int .i64 q) (.int .i64 nx) (.slice A4 us.length k4) (.slice AR R cR)
          have kb := blk6 (.int .i64 2) (.int .i64 (x + 1)) (.int .i64 q) (.int .i64 nx) (.slice A4 us.length k4) (.slice AR R cR) ZZ.out
          have kw := below_row BW.out kg (by omega) BW.out.size
          have ka := own_row (OA8.out) kg (fun b hb e => own_blk_ne (OA8.out) ZZ.out (by decide) (by rw [hb, e]))
          have kr := own_row (OR8.out) kg (fun b hb e => own_blk_ne (OR8.out) ZZ.out (by decide) (by rw [hb, e]))
          obtain ⟨V, hV⟩ : ∃ V, V = (((((w8.setCell ⟨w.heap.size + 1, 0, none⟩ (.int .i64 2)).setCell ⟨w.heap.size + 1, 1, none⟩ (.int .i64 (x + 1))).setCell ⟨w.heap.size + 1, 2, none⟩ (.int .i64 q)).setCell ⟨w.heap.size + 1, 3, none⟩ (.int .i64 nx)).setCell ⟨w.heap.size + 1, 4, none⟩ (.slice A4 us.length k4)).setCell ⟨w.heap.size + 1, 5, none⟩ (.slice AR R cR) := ⟨_, rfl⟩
          rw [← hV] at kb kw ka kr ⊢
          have bb := kb
          have d0 := bb.cell 0
          have d1 := bb.cell 1
          have d2 := bb.cell 2
          have d3 := bb.cell 3
          have d4 := bb.cell 4
          have d5 := bb.cell 5
          simp only [List.getElem?_toArray, List.getElem?_cons_zero, List.getElem?_cons_succ] at d0 d1 d2 d3 d4 d5
          clear bb
          exact bodyPost_ret (v := .tuple #[.agg #[.int .i64 2, .int .i64 (x + 1), .int .i64 q, .int .i64 nx, (.slice A4 us.length k4), (.slice AR R cR)], .int .i64 0]) (by simp [results, Try.results33, go_sem, d0, d1, d2, d3, d4, d5]) rfl (.inr ⟨rem2, _, _, _, rfl, HFT.out, HRM.out ▸ HP.out, HRES.out, own_mono ka (by omega), own_mono kr (by omega), kw⟩)
        · have t1 : (er != 0) = true := by simpa using he
          have HNE := Lib.hid he
          clear he
          have bb := ZZ.out
          have z0 := bb.cell 0
          have z1 := bb.cell 1
          have z2 := bb.cell 2
          have z3 := bb.cell 3
          have z4 := bb.cell 4
          have z5 := bb.cell 5
          simp only [List.getElem?_toArray, List.getElem?_cons_zero, List.getElem?_cons_succ] at z0 z1 z2 z3 z4 z5
          clear bb
          have fz0 := ZZ.out.frozen 0
          have fz1 := ZZ.out.frozen 1
          have fz2 := ZZ.out.frozen 2
          have fz3 := ZZ.out.frozen 3
          have fz4 := ZZ.out.frozen 4
          have fz5 := ZZ.out.frozen 5
          have hltz := ZZ.out.lt
          go_wp2
          have kg := grown6 w8 (w.heap.size + 1) (.int .i64 0) (.int .i64 0) (.int .i64 0) (.int .i64 0) (.slice none 0 0) (.slice none 0 0)
          have kb := blk6 (.int .i64 0) (.int .i64 0) (.int .i64 0) (.int .i64 0) (.slice none 0 0) (.slice none 0 0) ZZ.out
          have kw := below_row BW.out kg (by omega) BW.out.size
          obtain ⟨V, hV⟩ : ∃ V, V = (((((w8.setCell ⟨w.heap.size + 1, 0, none⟩ (.int .i64 0)).setCell ⟨w.heap.size + 1, 1, none⟩ (.int .i64 0)).setCell ⟨w.heap.size + 1, 2, none⟩ (.int .i64 0)).setCell ⟨w.heap.size + 1, 3, none⟩ (.int .i64 0)).setCell ⟨w.heap.size + 1, 4, none⟩ (.slice none 0 0)).setCell ⟨w.heap.size + 1, 5, none⟩ (.slice none 0 0) := ⟨_, rfl⟩
          rw [← hV] at kb kw ⊢
          have bb := kb
          have d0 := bb.cell 0
          have d1 := bb.cell 1
          have d2 := bb.cell 2
          have d3 := bb.cell 3
          have d4 := bb.cell 4
          have d5 := bb.cell 5
          simp only [List.getElem?_toArray, List.getElem?_cons_zero, List.getElem?_cons_succ] at d0 d1 d2 d3 d4 d5
          clear bb
          exact bodyPost_ret (v := .tuple #[.agg #[.int .i64 0, .int .i64 0, .int .i64 0, .int .i64 0, .slice none 0 0, .slice none 0 0], .int .i64 er]) (by simp [results, Try.results33, go_sem, d0, d1, d2, d3, d4, d5]) rfl (.inl ⟨er, rfl, HNE.out, ⟨fun h => absurd h H16.out, fun h => absurd HFT.out h⟩, kw⟩)
end Go.Proofs.Ytoikgjhekemjdaa
