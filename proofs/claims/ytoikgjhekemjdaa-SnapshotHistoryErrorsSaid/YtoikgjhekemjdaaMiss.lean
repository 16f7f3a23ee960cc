/-
  The contract of snapshot.missing.
-/
import Derived.Test.YtoikgjhekemjdaaJobKit
import Derived.Test.YtoikgjhekemjdaaChkSpec
namespace Go.Proofs.Ytoikgjhekemjdaa
open Go.RowKit Go.Sort
theorem miss_next {l o : List Ent} {k : Nat} {e : Ent} (h : l[k]? = some e) : missE (l.take (k + 1)) o = if hasE o e = true then missE (l.take k) o else missE (l.take k) o ++ [e] := by
  have : l.take (k + 1) = l.take k ++ [e] := by rw [List.take_add_one, h]; rfl
  unfold missE
  rw [this, List.filter_append]
  cases hh : hasE o e <;> simp [hh]
theorem miss_end {l o : List Ent} {k : Nat} (h : l.length ≤ k) : missE (l.take k) o = missE l o := by rw [List.take_of_length_le h]
set_option maxRecDepth 100000 in
set_option maxHeartbeats 8000000 in
theorem missing_any (va vo : Value) (a o : List Ent) (w : World) (ha : Sl w 12 va a.length (ents a)) (ho : Sl w 12 vo o.length (ents o)) (hal : a.length ≤ 1000000) (hol : o.length ≤ 1000000) :
    Calls Try.prog 56 #[va, vo] w (RetEnts0 w (missE a o)) := by
  obtain ⟨A, c, rfl, hc1, hc2⟩ := ha.form
  obtain ⟨B, d, rfl, hd1, hd2⟩ := ho.form
  go_enter Try.func56, Try.ntmps56
  go_wp2
  go_loopw [5, 10] (fun vx i wr => ∃ k : Nat, k ≤ a.length ∧ i = .int .i64 k ∧ wr.ownsRow w.heap.size 34 12 vx (missE (a.take k) o).length (ents (missE (a.take k) o)) ∧ Below w.heap.size w wr) (fun _ i _ => a.length - (intOf i).toNat)
  case atStart => exact ⟨0, by omega, rfl, World.ownsRow_nil _ _ _ _, Below.refl _ _⟩
  case round =>
    obtain ⟨k, hk, rfl, hown, hbel⟩ := hrel
    by_cases hlt : k < a.length
    · obtain ⟨ad, e, q, rfl, he, hp, hE⟩ := (ha.below hbel).ent_load rfl hlt
      obtain ⟨hplt, c0, c1, c2, c3, c4, c5, c6, c7, c8, c9, c10, c11⟩ := hE
      have HM := Lib.hid (miss_next (o := o) he)
      have HE := Lib.hid he
      have HLT := Lib.hid hlt
      have HMK := Lib.hid (Nat.le_trans (miss_len (a.take k) o) (Nat.le_trans (List.length_take_le k a) (Nat.le_of_lt hlt)))
      clear he
      go_upto_region 5 with (fail)
      obtain ⟨w1, hw1⟩ : ∃ w1, w1 = wr.alloc (.cells #[.int .i64 e.id, .int .i64 e.rows, .int .i64 e.live, .bool e.lo.null, .int .i64 e.lo.n, .string e.lo.s, .int .i64 e.lo.seq, .bool e.hi.null, .int .i64 e.hi.n, .string e.hi.s, .int .i64 e.hi.seq, .int .i64 e.del] 34) := ⟨_, rfl⟩
      have BE := Lib.hid (show Blk w1 wr.heap.size 34 #[.int .i64 e.id, .int .i64 e.rows, .int .i64 e.live, .bool e.lo.null, .int .i64 e.lo.n, .string e.lo.s, .int .i64 e.lo.seq, .bool e.hi.null, .int .i64 e.hi.n, .string e.hi.s, .int .i64 e.hi.seq, .int .i64 e.del] by rw [hw1]; exact Blk.new _ _ _)
      have hb1 : Below wr.heap.size wr w1 := by rw [hw1]; exact abel _ _
      have O1 := Lib.hid (own_below hown hb1)
      have B1 := Lib.hid (hbel.trans (hb1.mono hbel.size))
      have HC := Lib.hid (contE_any e (.slice B o.length d) o w1 (ho.below B1.out) hol)
      clear c0 c1 c2 c3 c4 c5 c6 c7 c8 c9 c10 c11 hb1 hown hbel
      rw [← hw1]
      clear hw1
      have bb := BE.out
      have n0 := bb.cell 0
      have n1 := bb.cell 1
      have n2 := bb.cell 2
      have n3 := bb.cell 3
      have n4 := bb.cell 4
      have n5 := bb.cell 5
      have n6 := bb.cell 6
      have n7 := bb.cell 7
      have n8 := bb.cell 8
      have n9 := bb.cell 9
      have n10 := bb.cell 10
      have n11 := bb.cell 11
      simp only [List.getElem?_toArray, List.getElem?_cons_zero, List.getElem?_cons_succ] at n0 n1 n2 n3 n4 n5 n6 n7 n8 n9 n10 n11
      clear bb
      go_wp2_with fail
      refine HC.out.mono ?_
      rintro _ w2 ⟨rfl, hb2⟩
      have BE2 := Lib.hid (BE.out.below hb2 BE.out.lt)
      have O2 := Lib.hid (own_below O1.out hb2)
      have B2 := Lib.hid (B1.out.trans (hb2.mono B1.out.size))
      clear hb2
      have HH := HM.out
      clear HC
      clear n0 n1 n2 n3 n4 n5 n6 n7 n8 n9 n10 n11
      obtain ⟨h, hh⟩ : ∃ h, hasE o e = h := ⟨_, rfl⟩
      rw [hh] at HH
      rw [show (o.any fun y => eqE e y) = h from hh]
      clear hh
      cases h with
      | true =>
        rw [if_pos rfl] at HH
        have HN := Lib.hid HH
        clear HH
        go_wp2
        go_roundw
        case rel => exact ⟨k + 1, HLT.out, by go_num, by rw [HN.out]; exact O2.out, B2.out⟩
        case measure => have := HLT.out; simp [intOf]; omega
      | false =>
        rw [if_neg (by simp)] at HH
        have HN := Lib.hid HH
        clear HH
        have bb := BE2.out
        have n0 := bb.cell 0
        have n1 := bb.cell 1
        have n2 := bb.cell 2
        have n3 := bb.cell 3
        have n4 := bb.cell 4
        have n5 := bb.cell 5
        have n6 := bb.cell 6
        have n7 := bb.cell 7
        have n8 := bb.cell 8
        have n9 := bb.cell 9
        have n10 := bb.cell 10
        have n11 := bb.cell 11
        simp only [List.getElem?_toArray, List.getElem?_cons_zero, List.getElem?_cons_succ] at n0 n1 n2 n3 n4 n5 n6 n7 n8 n9 n10 n11
        clear bb
        have hsz := B2.out.size
        have hmk := HMK.out
        go_wp2_with (at_builtin; go_must (refine app1 _ _ O2.out (Below.refl w.heap.size w2) (Nat.le_refl _) hsz under_entry info_entry rfl (by decide) rfl (one12 _ _ _ _ _ _ _ _ _ _ _ _) (by omega) (by omega) rfl rfl rfl rfl ?_))
        intro g' cap' w9 ho9 hb9 hg9 hor9
        have O9 := Lib.hid (own_ents (e := e) rfl ho9)
        have B9 := Lib.hid (B2.out.trans hb9)
        clear ho9 hb9 hg9 hor9 hmk
        clear n0 n1 n2 n3 n4 n5 n6 n7 n8 n9 n10 n11
        go_wp2
        go_roundw
        case rel => exact ⟨k + 1, HLT.out, by go_num, by rw [HN.out]; simpa using O9.out, B9.out⟩
        case measure => have := HLT.out; simp [intOf]; omega
    · obtain ⟨Ax, cx, rfl, _, _⟩ := (Sl.of_own hown).form
      have HF := Lib.hid (show RetEnts0 w (missE a o) (.returned (.slice Ax (missE (a.take k) o).length cx)) wr from ⟨_, rfl, by rw [← miss_end (o := o) (l := a) (k := k) (by omega)]; exact hown, hbel⟩)
      clear hown hbel
      go_wp2
      go_ret
      exact HF.out
end Go.Proofs.Ytoikgjhekemjdaa
