/-
  The walk of the law SnapshotChecks.
-/
import Derived.Test.YtdffmkbcjnonaaaSnapGen
import Derived.Test.YtdffmkbcjnonaaaApp
import Derived.Test.YtdffmkbcjnonaaaPick
import Derived.Test.YtdffmkbcjnonaaaValPut
import Derived.Test.YtdffmkbcjnonaaaStore
import Derived.Deep.DeepCutAuto
import Derived.Deep.CutBlock
namespace Go.Proofs.Ytdffmkbcjnonaaa
open Go.RowKit Go.Sort
theorem reg_bw {P : Program} {f : FuncId} {args : Array Value} {w : World} {b : Bool} (h : ∀ X, Below w.heap.size w X → Calls P f args X (RetB1' X b)) : ∀ d os, Calls P f args (grow (redrawn w d) os) fun e w'' => e = .returned (.bool b) ∧ ∃ p : Regrown, w'' = grow (redrawn w p.d) p.os :=
  fun d os => Calls.regrown_of ((h _ (below_regrown w d os)).mono fun _ _ h => h)
theorem snapCheck_b {x q n : Int} {v : Value} {l : List Ent} {b : Bool} (hb : snapB x q n l = b) {wc : World} (hs : Sl wc 12 v l.length (ents l)) (hw : ∀ e ∈ l, e.small) (hl : l.length ≤ 9223372036854775807) :
    ∀ X, Below wc.heap.size wc X → Calls Try.prog 18 #[.agg #[.int .i64 x, .int .i64 q, .int .i64 n, v]] X (RetB1' X b) := by subst hb; exact fun X hX => snapCheck_any x q n v l X (hs.below hX) hw hl
theorem rsnapCheck_b {x q n : Int} {v : Value} {l : List Ent} {b : Bool} (hb : snapB x q n l = b) {wc : World} (hs : Sl wc 12 v l.length (ents l)) (hw : ∀ e ∈ l, e.small) (hl : l.length ≤ 9223372036854775807) :
    ∀ X, Below wc.heap.size wc X → Calls Try.prog 19 #[.agg #[.int .i64 x, .int .i64 q, .int .i64 n, v]] X (RetB1' X b) := by subst hb; exact fun X hX => rsnapCheck_any x q n v l X (hs.below hX) hw hl
theorem add_flat (g n : Nat) : (⟨g, 0, none⟩ : Addr).add n = ⟨g, n, none⟩ := by unfold Addr.add; split <;> simp_all
def Smalls (l : List Ent) : Prop := ∀ e ∈ l, e.small
theorem one_ents (l : List Ent) : ∀ y ∈ ents l, y.oneCell' = true := by
  intro y hy
  simp only [ents, List.mem_flatMap] at hy
  obtain ⟨e, _, he⟩ := hy
  simp only [Ent.cells, List.mem_cons, List.not_mem_nil, or_false] at he
  rcases he with rfl | rfl | rfl | rfl | rfl | rfl | rfl | rfl | rfl | rfl | rfl | rfl <;> rfl
/-- The state behind the changes of a version x: raw, s and x lie there, each with its entries. -/
def CheckState (w : World) (g0 g1 g2 : Nat) (raw s : Array Value) (vr vs : Value) (lr ls : List Ent) (wx : World) : Prop :=
  ∃ (x q n : Int) (v : Value) (l : List Ent), Blk wx g2 24 #[.int .i64 x, .int .i64 q, .int .i64 n, v] ∧ Sl wx 12 v l.length (ents l) ∧ Smalls l ∧ l.length ≤ 6 ∧
    Blk wx g0 24 raw ∧ Blk wx g1 24 s ∧ Sl wx 12 vr lr.length (ents lr) ∧ Sl wx 12 vs ls.length (ents ls) ∧ Below w.heap.size w wx
theorem ents_set {l : List Ent} {k c : Nat} {e e' : Ent} {u : Value} (he : l[k]? = some e) (hc : c < 12) (hu : e.cells.set c u = e'.cells) : (ents l).set (k * 12 + c) u = ents (l.set k e') := by
  induction l generalizing k with
  | nil => simp at he
  | cons x r ih =>
    cases k with
    | zero =>
      simp at he; subst he
      rw [ents_cons, List.set_cons_zero, ents_cons, List.set_append_left _ _ (by rw [Ent.cells_length]; omega), Nat.zero_mul, Nat.zero_add, hu]
    | succ k =>
      rw [ents_cons, List.set_cons_succ, ents_cons, List.set_append_right _ _ (by rw [Ent.cells_length]; omega), Ent.cells_length, show (k + 1) * 12 + c - 12 = k * 12 + c by omega, ih (by simpa using he)]
theorem Smalls.set {l : List Ent} {k : Nat} {e : Ent} (h : Smalls l) (he : e.small) : Smalls (l.set k e) := fun x hx => by
  rcases List.mem_or_eq_of_mem_set hx with h' | rfl
  · exact h x h'
  · exact he
/-- What is kept when a cell of the version x, or one of its entries, is changed. -/
theorem CheckState.head {w w4 : World} {g0 g1 g2 : Nat} {raw s : Array Value} {vr vs v3 : Value} {lr ls l : List Ent} {a b c : Int} (b4 : Blk w4 g2 24 #[.int .i64 a, .int .i64 b, .int .i64 c, v3]) (hown : w4.ownsRow w.heap.size 34 12 v3 l.length (ents l)) (hsm : Smalls l) (hl : l.length ≤ 6)
    (b40 : Blk w4 g0 24 raw) (b41 : Blk w4 g1 24 s) (hsr : Sl w 12 vr lr.length (ents lr)) (hs : w4.ownsRow w.heap.size 34 12 vs ls.length (ents ls)) (hb : Below w.heap.size w w4) : CheckState w g0 g1 g2 raw s vr vs lr ls w4 :=
  ⟨a, b, c, v3, l, b4, Sl.of_own hown, hsm, hl, b40, b41, hsr.below hb, Sl.of_own hs, hb⟩
set_option maxRecDepth 100000 in
set_option maxHeartbeats 4000000 in
theorem snapshotChecks_walk (x q n : Int) (v z : Value) (l : List Ent) (zs : List Int) (how at_ vv : Int) (w : World)
    (hs : Sl w 12 v l.length (ents l)) (hsm : Smalls l) (hl : l.length ≤ 9223372036854775807)
    (hz : Sl w 1 z zs.length (ints zs)) (hzl : zs.length ≤ 9223372036854775807) (hzr : ∀ x ∈ zs, -9223372036854775808 ≤ x ∧ x ≤ 9223372036854775807) :
    Calls Try.prog 3 #[.agg #[.int .i64 x, .int .i64 q, .int .i64 n, v], z, .int .i64 how, .int .i64 at_, .int .i64 vv] w (RetB1' w true) := by
  obtain ⟨A, c, rfl, _, _⟩ := hs.form
  have HK := Lib.hid (fun (W : World) (h : Below w.heap.size w W) => ksnap_any z zs W (hz.below h) hzl hzr)
  obtain ⟨Az, cz, rfl, _, _⟩ := hz.form
  clear hz hzl hzr
  obtain ⟨W, hW⟩ : ∃ W, W = w.alloc (.cells #[.int .i64 x, .int .i64 q, .int .i64 n, .slice A l.length c] 24) := ⟨_, rfl⟩
  have b0 : Blk W w.heap.size 24 #[.int .i64 x, .int .i64 q, .int .i64 n, .slice A l.length c] := by rw [hW]; exact Blk.new _ _ _
  have hb0 : Below w.heap.size w W := by rw [hW]; exact abel _ _
  have hsW := hs.below hb0
  go_enter Try.func3, Try.ntmps3
  go_wp2_with fail
  rw [← hW]
  clear hW
  refine (HK.out W hb0).mono ?_
  rintro e w1 ⟨sx, sq, sn, sv, sl, rfl, k1, k2, k3, k4, k5, k6, hlen, hG, hown, hb1⟩
  obtain ⟨As, cs, rfl, _, _⟩ := (Sl.of_own hown).form
  have b0' := b0.below hb1 b0.lt
  have hbel1 := bst hb0 hb1
  have hs1 := hsW.below hb1
  have HSB := Lib.hid (gen_snapB k1 k2 k3 k4 k5 k6 hlen hG)
  have HSM := Lib.hid (show Smalls sl from fun e he => Ent.gen_small (hG.mem e he).1)
  have hb0z := hb0.size
  clear b0 hb0 hsW hb1 hG k1 k2 k3 k4 k5 k6
  go_upto_region 3 with (fail)
  obtain ⟨W2, hW2⟩ : ∃ W2, W2 = (w1.alloc (.cells #[.int .i64 sx, .int .i64 sq, .int .i64 sn, .slice As sl.length cs] 24)).alloc (.cells #[.int .i64 sx, .int .i64 sq, .int .i64 sn, .slice As sl.length cs] 24) := ⟨_, rfl⟩
  have b11 : Blk W2 w1.heap.size 24 #[.int .i64 sx, .int .i64 sq, .int .i64 sn, .slice As sl.length cs] := by rw [hW2]; exact (Blk.new _ _ _).alloc _
  have b12 : Blk W2 (w1.heap.size + 1) 24 #[.int .i64 sx, .int .i64 sq, .int .i64 sn, .slice As sl.length cs] := by
    have := Blk.new (w1.alloc (.cells #[.int .i64 sx, .int .i64 sq, .int .i64 sn, .slice As sl.length cs] 24)) 24 #[.int .i64 sx, .int .i64 sq, .int .i64 sn, .slice As sl.length cs]
    rw [hW2]; simpa using this
  have b10 : Blk W2 w.heap.size 24 #[.int .i64 x, .int .i64 q, .int .i64 n, .slice A l.length c] := by rw [hW2]; exact (b0'.alloc _).alloc _
  have hbW2 : Below w.heap.size w W2 := by rw [hW2]; exact (hbel1.alloc hbel1.size _).alloc (by have := hbel1.size; simp; omega) _
  have hsW2 : Sl W2 12 (.slice A l.length c) l.length (ents l) := by rw [hW2]; exact (hs1.alloc _).alloc _
  have hownW2 : W2.ownsRow w.heap.size 34 12 (.slice As sl.length cs) sl.length (ents sl) := by rw [hW2]; exact own_mono ((hown.alloc _).alloc _) hb0z
  have hoW2 := Sl.of_own hownW2
  have hz1 := hbel1.size
  rw [← hW2]
  clear hW2 b0' hbel1 hs1 hown
  have c113 : W2.cell? ⟨w1.heap.size, 3, none⟩ = some (.slice As sl.length cs) := b11.cell 3
  go_wp2_with (at_builtin; go_must (refine appN _ _ (World.ownsRow_nil W2 w.heap.size 34 12) hoW2 hbW2.size under_entry info_entry rfl (by decide) (one_ents _) (by omega) (by omega) rfl rfl rfl rfl ?_))
  intro v3 w3 hown3 hg3 hor3
  obtain ⟨A3, c3, rfl, _, _⟩ := (Sl.of_own hown3).form
  have HDis := Lib.hid (show ∀ b b', (Value.slice As sl.length cs).ownBlock = some b → (Value.slice A3 sl.length c3).ownBlock = some b' → b ≠ b' from fun b b' h h' e => by
    have h1 := (hownW2.lt b h).2
    rcases hor3 with h2 | h2
    · rw [h2] at h'; simp [Value.ownBlock] at h'
    · rw [h2] at h'; injection h' with h'; omega)
  clear hor3
  have hg3' : Only w.heap.size W2 w3 := ⟨hg3.os, hg3.tape, hg3.output, hg3.size, fun i hi _ => hg3.block i hi (by simp [Value.ownBlock])⟩
  have hb3 : Below W2.heap.size W2 w3 := ⟨hg3.os, hg3.tape, hg3.output, hg3.size, fun i hi => hg3.block i hi (by simp [Value.ownBlock])⟩
  have b20 := b10.below hb3 b10.lt
  have b21 := b11.below hb3 b11.lt
  have b22 := b12.below hb3 b12.lt
  have hs3 := hsW2.below hb3
  have ho3 := own_below hownW2 hb3
  have hbel3 := bst hbW2 hb3
  clear hg3 hg3' b10 b11 b12 hsW2 hoW2 hownW2 c113
  have f3 := b22.frozen 3
  have c123 := b22.cell 3
  simp only [List.getElem?_toArray, List.getElem?_cons_zero, List.getElem?_cons_succ] at c123
  have hbn3 : ∀ b, (Value.slice A3 sl.length c3).ownBlock = some b → b ≠ w1.heap.size + 1 := fun b hb e => own_blk_ne hown3 b22 (by decide) (by rw [hb, e])
  have hbnS : ∀ b, (Value.slice As sl.length cs).ownBlock = some b → b ≠ w1.heap.size + 1 := fun b hb e => own_blk_ne ho3 b22 (by decide) (by rw [hb, e])
  go_wp2_with fail
  refine (pick_any how 6 _ (by omega) (by omega)).mono ?_
  rintro e w' ⟨rfl, rfl⟩
  have p1 := pick_lo how 6 (by omega)
  have p2 := pick_hi how 6 (by omega)
  obtain ⟨ph, hph⟩ : ∃ ph, pick how 6 = ph := ⟨_, rfl⟩
  rw [hph] at p1 p2 ⊢
  clear hph
  go_upto_block 0 with (fail)
  have kg : w3.grownBy (w3.setCell ⟨w1.heap.size + 1, 3, none⟩ (.slice A3 sl.length c3)) (some (w1.heap.size + 1)) := grownBy_set w3 ⟨w1.heap.size + 1, 3, none⟩ (.slice A3 sl.length c3)
  have b4 := b22.set_ 3 (.slice A3 sl.length c3)
  simp only [List.setIfInBounds_toArray, List.set_cons_zero, List.set_cons_succ] at b4
  have b40 := b20.row kg (by omega)
  have b41 := b21.row kg (by omega)
  have hown4 := own_row hown3 kg hbn3
  have hownS4 := own_row ho3 kg hbnS
  have hbel4 := below_row hbel3 kg (by omega) hbel3.size
  obtain ⟨w4, hw4⟩ : ∃ w4, w4 = w3.setCell ⟨w1.heap.size + 1, 3, none⟩ (.slice A3 sl.length c3) := ⟨_, rfl⟩
  rw [← hw4] at b4 b40 b41 hown4 hownS4 hbel4 ⊢
  clear hw4 kg b20 b21 b22 hown3 ho3 hbel3 f3 c123 hs3 hb3 hbW2
  go_cut [13] (fun _ wx => CheckState w w.heap.size w1.heap.size (w1.heap.size + 1) #[.int .i64 x, .int .i64 q, .int .i64 n, .slice A l.length c] #[.int .i64 sx, .int .i64 sq, .int .i64 sn, .slice As sl.length cs] (.slice A l.length c) (.slice As sl.length cs) l sl wx)
  case first =>
    rcases (show ph = 0 ∨ ph = 1 ∨ ph = 2 ∨ 3 ≤ ph from by omega) with rfl | rfl | rfl | h3
    · skip
      have d := b4.cell 0
      have f := b4.frozen 0
      simp only [List.getElem?_toArray, List.getElem?_cons_zero, List.getElem?_cons_succ] at d
      go_wp2_with fail
      refine (pick_any vv 3 _ (by omega) (by omega)).mono ?_
      rintro e w' ⟨rfl, rfl⟩
      have y1 := pick_lo vv 3 (by omega)
      have y2 := pick_hi vv 3 (by omega)
      obtain ⟨y, hy⟩ : ∃ y, pick vv 3 = y := ⟨_, rfl⟩
      rw [hy] at y1 y2 ⊢
      clear hy
      go_wp2
      go_meet
      have kg : w4.grownBy (w4.setCell ⟨w1.heap.size + 1, 0, none⟩ (.int .i64 (y - 1))) (some (w1.heap.size + 1)) := grownBy_set w4 ⟨w1.heap.size + 1, 0, none⟩ (.int .i64 (y - 1))
      have b5 := b4.set_ 0 (.int .i64 (y - 1))
      simp only [List.setIfInBounds_toArray, List.set_cons_zero, List.set_cons_succ] at b5
      exact CheckState.head b5 (own_row hown4 kg hbn3) HSM.out hlen (b40.row kg (by omega)) (b41.row kg (by omega)) hs (own_row hownS4 kg hbnS) (below_row hbel4 kg (by omega) hbel4.size)
    · skip
      have d := b4.cell 1
      have f := b4.frozen 1
      simp only [List.getElem?_toArray, List.getElem?_cons_zero, List.getElem?_cons_succ] at d
      go_wp2_with fail
      refine (pick_any vv 5 _ (by omega) (by omega)).mono ?_
      rintro e w' ⟨rfl, rfl⟩
      have y1 := pick_lo vv 5 (by omega)
      have y2 := pick_hi vv 5 (by omega)
      obtain ⟨y, hy⟩ : ∃ y, pick vv 5 = y := ⟨_, rfl⟩
      rw [hy] at y1 y2 ⊢
      clear hy
      go_wp2
      go_meet
      have kg : w4.grownBy (w4.setCell ⟨w1.heap.size + 1, 1, none⟩ (.int .i64 (y - 1))) (some (w1.heap.size + 1)) := grownBy_set w4 ⟨w1.heap.size + 1, 1, none⟩ (.int .i64 (y - 1))
      have b5 := b4.set_ 1 (.int .i64 (y - 1))
      simp only [List.setIfInBounds_toArray, List.set_cons_zero, List.set_cons_succ] at b5
      exact CheckState.head b5 (own_row hown4 kg hbn3) HSM.out hlen (b40.row kg (by omega)) (b41.row kg (by omega)) hs (own_row hownS4 kg hbnS) (below_row hbel4 kg (by omega) hbel4.size)
    · skip
      have d := b4.cell 2
      have f := b4.frozen 2
      simp only [List.getElem?_toArray, List.getElem?_cons_zero, List.getElem?_cons_succ] at d
      go_wp2_with fail
      refine (pick_any vv 30 _ (by omega) (by omega)).mono ?_
      rintro e w' ⟨rfl, rfl⟩
      have y1 := pick_lo vv 30 (by omega)
      have y2 := pick_hi vv 30 (by omega)
      obtain ⟨y, hy⟩ : ∃ y, pick vv 30 = y := ⟨_, rfl⟩
      rw [hy] at y1 y2 ⊢
      clear hy
      go_wp2
      go_meet
      have kg : w4.grownBy (w4.setCell ⟨w1.heap.size + 1, 2, none⟩ (.int .i64 y)) (some (w1.heap.size + 1)) := grownBy_set w4 ⟨w1.heap.size + 1, 2, none⟩ (.int .i64 y)
      have b5 := b4.set_ 2 (.int .i64 y)
      simp only [List.setIfInBounds_toArray, List.set_cons_zero, List.set_cons_succ] at b5
      exact CheckState.head b5 (own_row hown4 kg hbn3) HSM.out hlen (b40.row kg (by omega)) (b41.row kg (by omega)) hs (own_row hownS4 kg hbnS) (below_row hbel4 kg (by omega) hbel4.size)
    · have r0 : (ph == 0) = false := by simp; omega
      have r1 : (ph == 1) = false := by simp; omega
      have r2 : (ph == 2) = false := by simp; omega
      have d3 : w4.cell? ⟨w1.heap.size + 1, 3, none⟩ = some (.slice A3 sl.length c3) := b4.cell 3
      by_cases hl0 : 0 < sl.length
      · have y1 := pick_lo at_ (sl.length : Int) (by omega)
        have y2 := pick_hi at_ (sl.length : Int) (by omega)
        have PK := Lib.hid (reg_same (w := w4) (fun X => pick_any at_ (sl.length : Int) X (by omega) (by omega)))
        obtain ⟨k, hk⟩ := Int.eq_ofNat_of_zero_le y1
        rw [hk] at y2 PK
        have hkl : k < sl.length := by omega
        clear hk y1
        obtain ⟨g, cap, cur, hv3, hbg, hgb, _⟩ : ∃ g cap cur, Value.slice A3 sl.length c3 = .slice (some ⟨g, 0, none⟩) sl.length cap ∧ w.heap.size ≤ g ∧ Blk w4 g 34 cur ∧ True := by
          rcases hown4.2 with ⟨h1, _⟩ | ⟨g, cap, cur, h1, h2, h3, _⟩
          · injection h1 with _ h1; omega
          · exact ⟨g, cap, cur, h1, h2, h3, trivial⟩
        injection hv3 with hA3 _ hc3
        subst hA3 hc3
        have hgne : g ≠ w1.heap.size + 1 := hbn3 g rfl
        obtain ⟨ad, e, p, hA, he, hp, hE⟩ := (Sl.of_own hown4).ent_load rfl hkl
        injection hA with hA
        subst hA
        have hp' : p = ⟨g, k * 12, none⟩ := by rw [← hp]; exact add_flat g (k * 12)
        clear hp
        subst hp'
        have d3r := cell_regrown d3
        go_wp2_with fail
        refine wp_region_quiet_below (by kernel_rfl) (by kernel_rfl) ?_
        repeat (go_big_quiet_step ((with_reducible exact PK.out _ _)))
        refine wpQuiet_nil ?_
        intro _ hw'
        obtain ⟨⟨dq, osq⟩, hw''⟩ := hw'
        subst hw''
        have hq := below_regrown w4 dq osq
        have b5 := b4.below hq b4.lt
        have b50 := b40.below hq b40.lt
        have b51 := b41.below hq b41.lt
        have hg5 := hgb.below hq hgb.lt
        have hown5 := own_below hown4 hq
        have hownS5 := own_below hownS4 hq
        have hE5 := hE.below hq
        have hbel5 := bst hbel4 hq
        obtain ⟨w5, hw5⟩ : ∃ w5, w5 = grow (redrawn w4 dq) osq := ⟨_, rfl⟩
        rw [← hw5] at b5 b50 b51 hg5 hown5 hownS5 hE5 hbel5 ⊢
        clear hw5 hq d3r d3 b4 b40 b41 hgb hown4 hownS4 hE hbel4 PK
        go_wp2_with fail
        refine (pick_any _ 4 _ (by omega) (by omega)).mono ?_
        rintro _ _ ⟨rfl, rfl⟩
        have p3 := pick_lo (wrap64 (how.tdiv 6)) 4 (by omega)
        have p4 := pick_hi (wrap64 (how.tdiv 6)) 4 (by omega)
        obtain ⟨ph2, hph2⟩ : ∃ ph2, pick (wrap64 (how.tdiv 6)) 4 = ph2 := ⟨_, rfl⟩
        rw [hph2] at p3 p4 ⊢
        clear hph2
        have hes := HSM.out e (List.mem_of_getElem? he)
        rcases (show ph2 = 0 ∨ ph2 = 1 ∨ ph2 = 2 ∨ 3 ≤ ph2 from by omega) with rfl | rfl | rfl | h4
        · have d : w5.cell? ⟨g, k * 12, none⟩ = some _ := hE5.c0
          have f : w5.frozen? ⟨g, k * 12, none⟩ = false := hg5.frozen _
          go_wp2_with fail
          refine (pick_any vv 45 _ (by omega) (by omega)).mono ?_
          rintro _ _ ⟨rfl, rfl⟩
          obtain ⟨y, hy⟩ : ∃ y, pick vv 45 = y := ⟨_, rfl⟩
          rw [hy]
          clear hy
          go_wp2
          go_meet
          obtain ⟨hst, hgr⟩ := hown5.stored (k * 12) (.int .i64 y)
          rw [show k * 12 = k * 12 + 0 by omega, ents_set (e' := ⟨y, e.rows, e.live, e.lo, e.hi, e.del⟩) he (by omega) rfl, ← show k * 12 = k * 12 + 0 by omega] at hst
          exact CheckState.head (l := sl.set k ⟨y, e.rows, e.live, e.lo, e.hi, e.del⟩) (b5.row hgr (Ne.symm hgne)) (by rw [List.length_set]; exact hst) (HSM.out.set hes) (by rw [List.length_set]; exact hlen) (b50.row hgr (fun e => own_blk_ne hown5 b50 (by decide) (by rw [e]; rfl))) (b51.row hgr (fun e => own_blk_ne hown5 b51 (by decide) (by rw [e]; rfl))) hs (own_row hownS5 hgr (fun b hb => HDis.out b g hb rfl)) (below_row hbel5 hgr hbg hbel5.size)
        · have d : w5.cell? ⟨g, k * 12 + 11, none⟩ = some _ := hE5.c11
          have f : w5.frozen? ⟨g, k * 12 + 11, none⟩ = false := hg5.frozen _
          go_wp2_with fail
          refine (pick_any vv 45 _ (by omega) (by omega)).mono ?_
          rintro _ _ ⟨rfl, rfl⟩
          obtain ⟨y, hy⟩ : ∃ y, pick vv 45 = y := ⟨_, rfl⟩
          rw [hy]
          clear hy
          go_wp2
          go_meet
          obtain ⟨hst, hgr⟩ := hown5.stored (k * 12 + 11) (.int .i64 y)
          rw [show k * 12 + 11 = k * 12 + 11 by omega, ents_set (e' := ⟨e.id, e.rows, e.live, e.lo, e.hi, y⟩) he (by omega) rfl, ← show k * 12 + 11 = k * 12 + 11 by omega] at hst
          exact CheckState.head (l := sl.set k ⟨e.id, e.rows, e.live, e.lo, e.hi, y⟩) (b5.row hgr (Ne.symm hgne)) (by rw [List.length_set]; exact hst) (HSM.out.set hes) (by rw [List.length_set]; exact hlen) (b50.row hgr (fun e => own_blk_ne hown5 b50 (by decide) (by rw [e]; rfl))) (b51.row hgr (fun e => own_blk_ne hown5 b51 (by decide) (by rw [e]; rfl))) hs (own_row hownS5 hgr (fun b hb => HDis.out b g hb rfl)) (below_row hbel5 hgr hbg hbel5.size)
        · have d : w5.cell? ⟨g, k * 12 + 2, none⟩ = some _ := hE5.c2
          have f : w5.frozen? ⟨g, k * 12 + 2, none⟩ = false := hg5.frozen _
          go_wp2_with fail
          refine (pick_any vv 9 _ (by omega) (by omega)).mono ?_
          rintro _ _ ⟨rfl, rfl⟩
          obtain ⟨y, hy⟩ : ∃ y, pick vv 9 = y := ⟨_, rfl⟩
          rw [hy]
          clear hy
          go_wp2
          go_meet
          obtain ⟨hst, hgr⟩ := hown5.stored (k * 12 + 2) (.int .i64 y)
          rw [show k * 12 + 2 = k * 12 + 2 by omega, ents_set (e' := ⟨e.id, e.rows, y, e.lo, e.hi, e.del⟩) he (by omega) rfl, ← show k * 12 + 2 = k * 12 + 2 by omega] at hst
          exact CheckState.head (l := sl.set k ⟨e.id, e.rows, y, e.lo, e.hi, e.del⟩) (b5.row hgr (Ne.symm hgne)) (by rw [List.length_set]; exact hst) (HSM.out.set hes) (by rw [List.length_set]; exact hlen) (b50.row hgr (fun e => own_blk_ne hown5 b50 (by decide) (by rw [e]; rfl))) (b51.row hgr (fun e => own_blk_ne hown5 b51 (by decide) (by rw [e]; rfl))) hs (own_row hownS5 hgr (fun b hb => HDis.out b g hb rfl)) (below_row hbel5 hgr hbg hbel5.size)
        · have r3 : (ph2 == 0) = false := by simp; omega
          have r4 : (ph2 == 1) = false := by simp; omega
          have r5 : (ph2 == 2) = false := by simp; omega
          have d : w5.cell? ⟨g, k * 12 + 10, none⟩ = some _ := hE5.c10
          have f : w5.frozen? ⟨g, k * 12 + 10, none⟩ = false := hg5.frozen _
          go_wp2_with fail
          refine (pick_any vv 14 _ (by omega) (by omega)).mono ?_
          rintro _ _ ⟨rfl, rfl⟩
          obtain ⟨y, hy⟩ : ∃ y, pick vv 14 = y := ⟨_, rfl⟩
          rw [hy]
          clear hy
          go_wp2
          go_meet
          obtain ⟨hst, hgr⟩ := hown5.stored (k * 12 + 10) (.int .i64 y)
          rw [show k * 12 + 10 = k * 12 + 10 by omega, ents_set (e' := ⟨e.id, e.rows, e.live, e.lo, ⟨e.hi.null, e.hi.n, e.hi.s, y⟩, e.del⟩) he (by omega) rfl, ← show k * 12 + 10 = k * 12 + 10 by omega] at hst
          exact CheckState.head (l := sl.set k ⟨e.id, e.rows, e.live, e.lo, ⟨e.hi.null, e.hi.n, e.hi.s, y⟩, e.del⟩) (b5.row hgr (Ne.symm hgne)) (by rw [List.length_set]; exact hst) (HSM.out.set hes) (by rw [List.length_set]; exact hlen) (b50.row hgr (fun e => own_blk_ne hown5 b50 (by decide) (by rw [e]; rfl))) (b51.row hgr (fun e => own_blk_ne hown5 b51 (by decide) (by rw [e]; rfl))) hs (own_row hownS5 hgr (fun b hb => HDis.out b g hb rfl)) (below_row hbel5 hgr hbg hbel5.size)
      · have hd : decide ((0 : Int) < (sl.length : Int)) = false := decide_eq_false (by omega)
        have hd' : decide (0 < sl.length) = false := decide_eq_false (by omega)
        go_wp2
        go_meet
        exact CheckState.head b4 hown4 HSM.out hlen b40 b41 hs hownS4 hbel4
  case rest =>
    obtain ⟨x', q', n', v', l', e12, hs12, hsm', hl6, e10, e11, hsr, hss, hbx⟩ := hcut
    obtain ⟨A', c', rfl, _, _⟩ := hs12.form
    obtain ⟨B1, hB1⟩ : ∃ b, snapB x q n l = b := ⟨_, rfl⟩
    obtain ⟨B2, hB2⟩ : ∃ b, snapB x' q' n' l' = b := ⟨_, rfl⟩
    have D1 := Lib.hid (reg_bw (w := wc) (fun X _ => awake20_any X))
    have D2 := Lib.hid (reg_bw (snapCheck_b HSB.out hss HSM.out (by omega)))
    have D3 := Lib.hid (reg_bw (snapCheck_b hB1 hsr hsm hl))
    have D4 := Lib.hid (reg_bw (rsnapCheck_b hB1 hsr hsm hl))
    have D5 := Lib.hid (reg_bw (snapCheck_b hB2 hs12 hsm' (by omega)))
    have D6 := Lib.hid (reg_bw (rsnapCheck_b hB2 hs12 hsm' (by omega)))
    have HBX := Lib.hid hbx
    have m00 := cell_regrown (e10.cell 0)
    have m01 := cell_regrown (e10.cell 1)
    have m02 := cell_regrown (e10.cell 2)
    have m03 := cell_regrown (e10.cell 3)
    have m10 := cell_regrown (e11.cell 0)
    have m11 := cell_regrown (e11.cell 1)
    have m12 := cell_regrown (e11.cell 2)
    have m13 := cell_regrown (e11.cell 3)
    have m20 := cell_regrown (e12.cell 0)
    have m21 := cell_regrown (e12.cell 1)
    have m22 := cell_regrown (e12.cell 2)
    have m23 := cell_regrown (e12.cell 3)
    clear e10 e11 e12 hsr hss hs12 hsm' hbx hB1 hB2 hsm
    go_wp2_with fail
    refine wp_region_quiet_below (by kernel_rfl) (by kernel_rfl) ?_
    repeat (go_big_quiet_step ((first | (with_reducible exact D1.out _ _) | (with_reducible exact D2.out _ _) | (with_reducible exact D3.out _ _) | (with_reducible exact D4.out _ _) | (with_reducible exact D5.out _ _) | (with_reducible exact D6.out _ _))))
    refine wpQuiet_nil ?_
    intro _ hw'
    obtain ⟨⟨dq, osq⟩, hw''⟩ := hw'
    subst hw''
    go_wp2
    go_ret
    exact ⟨by simp, bst HBX.out (below_regrown wc dq osq)⟩
end Go.Proofs.Ytdffmkbcjnonaaa
