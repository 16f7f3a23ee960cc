/-
  The contract of keep.Snapshot.
-/
import Derived.Test.YtoikgjhekemjdaaKEntries
namespace Go.Proofs.Ytoikgjhekemjdaa
open Go.RowKit
def RetSnap (w : World) (e : Ending) (w' : World) : Prop :=
  ∃ (x q n : Int) (v : Value) (l : List Ent), e = .returned (.agg #[.int .i64 x, .int .i64 q, .int .i64 n, v]) ∧ 0 ≤ x ∧ x ≤ 49 ∧ 3 ≤ q ∧ q ≤ 11 ∧ 30 ≤ n ∧ n ≤ 38 ∧ l.length ≤ 6 ∧ GenL (3 * l.length) l ∧ w'.ownsRow w.heap.size 34 12 v l.length (ents l) ∧ Below w.heap.size w w'
set_option maxRecDepth 100000 in
set_option maxHeartbeats 4000000 in
theorem ksnap_any (v : Value) (zs : List Int) (w : World) (hs : Sl w 1 v zs.length (ints zs)) (hl : zs.length ≤ 9223372036854775807) (hr : ∀ x ∈ zs, -9223372036854775808 ≤ x ∧ x ≤ 9223372036854775807) :
    Calls Try.prog 16 #[v] w (RetSnap w) := by
  have HE := Lib.hid (fun (W : World) (h : Below w.heap.size w W) => kentries_any v zs 6 W (hs.below h) hl hr (by omega) (by omega))
  have HF := Lib.hid (fun (W : World) (h : Below w.heap.size w W) => from_any v zs W (hs.below h) hl hr)
  obtain ⟨A, c, rfl, _, _⟩ := hs.form
  clear hs hl hr
  obtain ⟨W, hW⟩ : ∃ W, W = w.alloc (.cells #[.int .i64 0, .int .i64 0, .int .i64 0, .slice none 0 0] 24) := ⟨_, rfl⟩
  have b0 : Blk W w.heap.size 24 #[.int .i64 0, .int .i64 0, .int .i64 0, .slice none 0 0] := by rw [hW]; exact Blk.new _ _ _
  have hb0 : Below w.heap.size w W := by rw [hW]; exact abel _ _
  have hz0 : W.heap.size = w.heap.size + 1 := by rw [hW]; simp
  go_enter Try.func16, Try.ntmps16
  go_wp2_with fail
  rw [← hW]
  clear hW
  refine (HE.out W hb0).mono ?_
  rintro e w1 ⟨v1, l, rfl, hlen, hG, hown, hb1⟩
  have b1 := b0.below hb1 b0.lt
  have hbel1 := bst hb0 hb1
  have hz1 := hb1.size
  go_wp2_with fail
  refine (HF.out w1 hbel1).mono ?_
  rintro e w2 ⟨g, rfl, hb2, hsrc⟩
  have b2 := b1.below hb2 b1.lt
  have hown2 := own_below hown hb2
  have hbel2 := bst hbel1 hb2
  have hge := hsrc.ge
  have hz2 := hb2.size
  clear hb1 hb2 b1 hown hbel1 b0 hb0
  go_wp2_with fail
  refine (next_any _ g 50 zs w2 hsrc (by omega) (by omega)).mono ?_
  rintro e w3 ⟨rfl, ho3, hs3⟩
  have x1 := nxt_lo 50 zs (by omega)
  have x2 := nxt_hi 50 zs (by omega)
  obtain ⟨x, hx⟩ : ∃ x, nxt 50 zs = x := ⟨_, rfl⟩
  rw [hx] at x1 x2 ⊢
  have b3 := b2.grown ho3 (by intro e; injection e with e; omega)
  have hown3 := own_only hown2 hsrc (by decide) ho3
  have hbel3 := below_only hbel2 ho3 (by omega) hbel2.size
  have hz3 := ho3.size
  clear hx ho3 hsrc hown2 hbel2 b2
  go_wp2_with fail
  refine (next_any _ g 9 _ w3 hs3 (by omega) (by omega)).mono ?_
  rintro e w4 ⟨rfl, ho4, hs4⟩
  have q1 := nxt_lo 9 zs.tail (by omega)
  have q2 := nxt_hi 9 zs.tail (by omega)
  obtain ⟨q, hq⟩ : ∃ q, nxt 9 zs.tail = q := ⟨_, rfl⟩
  rw [hq] at q1 q2 ⊢
  have b4 := b3.grown ho4 (by intro e; injection e with e; omega)
  have hown4 := own_only hown3 hs3 (by decide) ho4
  have hbel4 := below_only hbel3 ho4 (by omega) hbel3.size
  have hz4 := ho4.size
  clear hq ho4 hs3 hown3 hbel3 b3
  go_wp2_with fail
  refine (next_any _ g 9 _ w4 hs4 (by omega) (by omega)).mono ?_
  rintro e w5 ⟨rfl, ho5, hs5⟩
  have n1 := nxt_lo 9 zs.tail.tail (by omega)
  have n2 := nxt_hi 9 zs.tail.tail (by omega)
  obtain ⟨n, hn⟩ : ∃ n, nxt 9 zs.tail.tail = n := ⟨_, rfl⟩
  rw [hn] at n1 n2 ⊢
  have b5 := b4.grown ho5 (by intro e; injection e with e; omega)
  have HO := Lib.hid (own_only hown4 hs4 (by decide) ho5)
  have HB := Lib.hid (below_only hbel4 ho5 (by omega) hbel4.size)
  clear hn ho5 hs4 hown4 hbel4 b4 hs5
  have f0 := b5.frozen 0
  have f1 := b5.frozen 1
  have f2 := b5.frozen 2
  have f3 := b5.frozen 3
  have c0 := b5.cell 0
  have c1 := b5.cell 1
  have c2 := b5.cell 2
  have c3 := b5.cell 3
  simp only [List.getElem?_toArray, List.getElem?_cons_zero, List.getElem?_cons_succ] at c0 c1 c2 c3
  obtain ⟨A2, cp2, rfl, _, _⟩ := (Sl.of_own HO.out).form
  go_wp2
  have kb := blk4 (.int .i64 x) (.int .i64 (3 + q)) (.int .i64 (30 + n)) (.slice A2 l.length cp2) b5
  have kg := grown4 w5 w.heap.size (.int .i64 x) (.int .i64 (3 + q)) (.int .i64 (30 + n)) (.slice A2 l.length cp2)
  have hbel6 := below_row HB.out kg (Nat.le_refl _) HB.out.size
  have hown6 := own_row HO.out kg (fun b hb => by have := (HO.out.lt b hb).1; omega)
  obtain ⟨X, hX⟩ : ∃ X, X = (((w5.setCell ⟨w.heap.size, 0, none⟩ (.int .i64 x)).setCell ⟨w.heap.size, 1, none⟩ (.int .i64 (3 + q))).setCell ⟨w.heap.size, 2, none⟩ (.int .i64 (30 + n))).setCell ⟨w.heap.size, 3, none⟩ (.slice A2 l.length cp2) := ⟨_, rfl⟩
  rw [← hX] at kb hbel6 hown6 ⊢
  clear hX kg c0 c1 c2 c3 f0 f1 f2 f3
  have c0 := kb.cell 0
  have c1 := kb.cell 1
  have c2 := kb.cell 2
  have c3 := kb.cell 3
  simp only [List.getElem?_toArray, List.getElem?_cons_zero, List.getElem?_cons_succ] at c0 c1 c2 c3
  exact bodyPost_ret (v := .agg #[.int .i64 x, .int .i64 (3 + q), .int .i64 (30 + n), .slice A2 l.length cp2]) (by simp [results, Try.results16, go_sem, c0, c1, c2, c3]) rfl ⟨x, 3 + q, 30 + n, _, l, rfl, by omega, by omega, by omega, by omega, by omega, by omega, by omega, hG, own_mono hown6 (by omega), hbel6⟩
end Go.Proofs.Ytoikgjhekemjdaa
