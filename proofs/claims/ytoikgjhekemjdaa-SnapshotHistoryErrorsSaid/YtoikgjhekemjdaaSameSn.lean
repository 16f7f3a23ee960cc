/-
  keep.SameSnapshot at equal versions; the law's has.
-/
import Derived.Test.YtoikgjhekemjdaaSameE
namespace Go.Proofs.Ytoikgjhekemjdaa
open Go.RowKit Go.Sort
set_option maxRecDepth 100000 in
set_option maxHeartbeats 2000000 in
theorem sameSnap_any (x q n : Int) (v v' : Value) (l : List Ent) (w : World) (hs : Sl w 12 v l.length (ents l)) (hs' : Sl w 12 v' l.length (ents l)) (hl : l.length ≤ 9223372036854775807) :
    Calls Try.prog 15 #[.agg #[.int .i64 x, .int .i64 q, .int .i64 n, v], .agg #[.int .i64 x, .int .i64 q, .int .i64 n, v']] w (RetBe w true) := by
  obtain ⟨A, c, rfl, _, _⟩ := hs.form
  obtain ⟨A', c', rfl, _, _⟩ := hs'.form
  obtain ⟨W, hW⟩ : ∃ W, W = (w.alloc (.cells #[.int .i64 x, .int .i64 q, .int .i64 n, .slice A l.length c] 24)).alloc (.cells #[.int .i64 x, .int .i64 q, .int .i64 n, .slice A' l.length c'] 24) := ⟨_, rfl⟩
  have hb : Below w.heap.size w W := by rw [hW]; exact abel2 _ _ _
  have b0 : Blk W w.heap.size 24 #[.int .i64 x, .int .i64 q, .int .i64 n, .slice A l.length c] := by rw [hW]; exact (Blk.new _ _ _).alloc _
  have b1 : Blk W (w.heap.size + 1) 24 #[.int .i64 x, .int .i64 q, .int .i64 n, .slice A' l.length c'] := by
    have := Blk.new (w.alloc (.cells #[.int .i64 x, .int .i64 q, .int .i64 n, .slice A l.length c] 24)) 24 #[.int .i64 x, .int .i64 q, .int .i64 n, .slice A' l.length c']
    rw [hW]; simpa using this
  have c0 := b0.cell 0
  have c1 := b0.cell 1
  have c2 := b0.cell 2
  have c3 := b0.cell 3
  have d0 := b1.cell 0
  have d1 := b1.cell 1
  have d2 := b1.cell 2
  have d3 := b1.cell 3
  simp only [List.getElem?_toArray, List.getElem?_cons_zero, List.getElem?_cons_succ] at c0 c1 c2 c3 d0 d1 d2 d3
  have HC := Lib.hid (sameE_any (.slice A l.length c) (.slice A' l.length c') l l W (hs.below hb) (hs'.below hb) hl)
  rw [sameEnts_refl] at HC
  have HB := Lib.hid hb
  clear hb b0 b1 hs hs'
  go_enter Try.func15, Try.ntmps15
  go_upto_region 1 with (fail)
  rw [← hW]
  clear hW
  go_wp2_with fail
  refine HC.out.mono ?_
  rintro _ w2 ⟨rfl, m, rfl⟩
  go_wp2
  go_ret
  exact RetBe.mk_ rfl (below_drewN HB.out m)
/-- Whether a list has an entry. -/
def hasE (l : List Ent) (e : Ent) : Bool := l.any fun y => eqE e y
theorem hasE_iff {l : List Ent} {e : Ent} : hasE l e = true ↔ e ∈ l := by
  unfold hasE; rw [List.any_eq_true]
  constructor
  · rintro ⟨y, hy, h⟩; rw [eqE_iff.1 h]; exact hy
  · intro h; exact ⟨e, h, eqE_iff.2 rfl⟩
theorem hasE_false {l : List Ent} {e : Ent} : hasE l e = false ↔ e ∉ l := by rw [← Bool.not_eq_true, hasE_iff]
set_option maxRecDepth 100000 in
set_option maxHeartbeats 2000000 in
theorem has20_any (v : Value) (l : List Ent) (i1 ro1 li1 b1 d1 b2 d2 de1 : Int) (a1 a2 : Bool) (s1 s2 : ByteArray) (w : World) (hs : Sl w 12 v l.length (ents l)) (hl : l.length ≤ 9223372036854775807) :
    Calls Try.prog 20 #[v, .agg #[.int .i64 i1, .int .i64 ro1, .int .i64 li1, .bool a1, .int .i64 b1, .string s1, .int .i64 d1, .bool a2, .int .i64 b2, .string s2, .int .i64 d2, .int .i64 de1]] w (RetBe w (hasE l ⟨i1, ro1, li1, ⟨a1, b1, s1, d1⟩, ⟨a2, b2, s2, d2⟩, de1⟩)) := by
  obtain ⟨A, c, rfl, _, _⟩ := hs.form
  obtain ⟨W, hW⟩ : ∃ W, W = w.alloc (.cells #[.int .i64 i1, .int .i64 ro1, .int .i64 li1, .bool a1, .int .i64 b1, .string s1, .int .i64 d1, .bool a2, .int .i64 b2, .string s2, .int .i64 d2, .int .i64 de1] 34) := ⟨_, rfl⟩
  have hB : Below w.heap.size w W := by rw [hW]; exact abel _ _
  have hE0 : EntAt W ⟨w.heap.size, 0, none⟩ ⟨i1, ro1, li1, ⟨a1, b1, s1, d1⟩, ⟨a2, b2, s2, d2⟩, de1⟩ := EntAt.of_blk (by rw [hW]; exact Blk.new _ _ _)
  have hsW := hs.below hB
  go_enter Try.func20, Try.ntmps20
  go_upto_region 1 with (fail)
  rw [← hW]
  clear hW hs
  go_wp2
  go_loopw [9] (fun i wr => ∃ k : Nat, k ≤ l.length ∧ i = .int .i64 k ∧ Below W.heap.size W wr ∧ Hid (∀ (j : Nat) (y : Ent), l[j]? = some y → j < k → eqE ⟨i1, ro1, li1, ⟨a1, b1, s1, d1⟩, ⟨a2, b2, s2, d2⟩, de1⟩ y = false)) (fun i _ => l.length - (intOf i).toNat)
  case atStart => exact ⟨0, by omega, rfl, Below.refl _ _, Lib.hid fun j d _ hj => absurd hj (Nat.not_lt_zero _)⟩
  case round =>
    obtain ⟨k, hk, rfl, hbel, hno⟩ := hrel
    by_cases hlt : k < l.length
    · obtain ⟨ad, e, p, rfl, he, hp, hE⟩ := (hsW.below hbel).ent_load rfl hlt
      obtain ⟨_, x0, x1, x2, x3, x4, x5, x6, x7, x8, x9, x10, x11⟩ := hE0.below hbel
      simp only at x0 x1 x2 x3 x4 x5 x6 x7 x8 x9 x10 x11
      obtain ⟨hplt, c0, c1, c2, c3, c4, c5, c6, c7, c8, c9, c10, c11⟩ := hE
      have hlt0 := (hE0.below hbel).lt
      have EQ := eql_ent ⟨i1, ro1, li1, ⟨a1, b1, s1, d1⟩, ⟨a2, b2, s2, d2⟩, de1⟩ e
      simp only at EQ
      have HB := Lib.hid (bst hB hbel)
      have HBW := Lib.hid hbel
      have HE := Lib.hid he
      clear he hbel
      cases hq : eqE ⟨i1, ro1, li1, ⟨a1, b1, s1, d1⟩, ⟨a2, b2, s2, d2⟩, de1⟩ e with
      | true =>
        rw [hq] at EQ
        have HF := Lib.hid (show hasE l ⟨i1, ro1, li1, ⟨a1, b1, s1, d1⟩, ⟨a2, b2, s2, d2⟩, de1⟩ = true from List.any_eq_true.2 ⟨e, List.mem_of_getElem? HE.out, hq⟩)
        clear hq
        go_wp2
        go_ret
        exact RetBe.mk_ HF.out (HB.out.alloc HB.out.size _)
      | false =>
        rw [hq] at EQ
        have HN := Lib.hid (show ∀ (j : Nat) (y : Ent), l[j]? = some y → j < k + 1 → eqE ⟨i1, ro1, li1, ⟨a1, b1, s1, d1⟩, ⟨a2, b2, s2, d2⟩, de1⟩ y = false from fun j d hd hj => by
          by_cases ej : j = k
          · subst ej; rw [HE.out] at hd; injection hd with hd; rw [← hd]; exact hq
          · exact hno.out j d hd (by omega))
        clear hq
        go_wp2
        go_roundw
        case rel => exact ⟨k + 1, by omega, by go_num, HBW.out.alloc HBW.out.size _, HN⟩
        case measure => simp [intOf]; omega
    · have HF := Lib.hid (show hasE l ⟨i1, ro1, li1, ⟨a1, b1, s1, d1⟩, ⟨a2, b2, s2, d2⟩, de1⟩ = false from by
        unfold hasE; rw [List.any_eq_false]
        intro y hy
        obtain ⟨j, hj⟩ := List.mem_iff_getElem?.1 hy
        rw [hno.out j y hj (by have := (List.getElem?_eq_some_iff.1 hj).1; omega)]; simp)
      go_wp2
      go_ret
      exact RetBe.mk_ HF.out (bst hB hbel)
end Go.Proofs.Ytoikgjhekemjdaa
