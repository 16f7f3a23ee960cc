/-
  The contract of keep.Ranges.
-/
import Derived.Test.YtcjekbncllccbaaKRank
import Derived.Deep.DeepCutAuto
import Derived.Deep.CutBlock
namespace Go.Proofs.Ytcjekbncllccbaa
open Go.RowKit
structure Rg where
  lo : Rk
  hi : Rk
def Rg.cells (r : Rg) : List Value := [.bool r.lo.null, .int .i64 r.lo.n, .string r.lo.s, .int .i64 r.lo.seq, .bool r.hi.null, .int .i64 r.hi.n, .string r.hi.s, .int .i64 r.hi.seq]
def rngs (l : List Rg) : List Value := l.flatMap Rg.cells
theorem Rg.cells_length (r : Rg) : r.cells.length = 8 := rfl
theorem rngs_length (l : List Rg) : (rngs l).length = l.length * 8 := by
  induction l with
  | nil => rfl
  | cons e r ih => simp only [rngs, List.flatMap_cons, List.length_append, Rg.cells_length, List.length_cons] at ih ⊢; omega
theorem rngs_snoc (a : List Rg) (e : Rg) : rngs (a ++ [e]) = rngs a ++ e.cells := by simp [rngs]
theorem rngs_get {l : List Rg} {k j : Nat} {e : Rg} (h : l[k]? = some e) (hj : j < 8) : (rngs l)[k * 8 + j]? = e.cells[j]? := by
  induction l generalizing k with
  | nil => simp at h
  | cons x r ih =>
    rw [show rngs (x :: r) = x.cells ++ rngs r from rfl]
    cases k with
    | zero =>
      simp at h; subst h
      rw [List.getElem?_append_left (by rw [Rg.cells_length]; omega)]; simp
    | succ k =>
      rw [List.getElem?_append_right (by rw [Rg.cells_length]; omega), Rg.cells_length, show (k + 1) * 8 + j - 8 = k * 8 + j by omega]
      exact ih (by simpa using h)
/-- A range that the statements' helpers make: its ends, in order. -/
def Rg.gen (r : Rg) : Prop := r.lo.gen ∧ r.hi.gen ∧ (r.lo.n < r.hi.n ∨ r.lo.n = r.hi.n ∧ r.lo.seq ≤ r.hi.seq)
theorem info_range : (Try.prog.info? 44).map (fun i => (i.zero, i.size, i.bytes)) = some (some (.agg #[.bool false, .int .i64 0, .string { data := #[] }, .int .i64 0, .bool false, .int .i64 0, .string { data := #[] }, .int .i64 0]), 8, 80) := by kernel_rfl
theorem under_range : Try.prog.underlying 31 = some (.slice 44) := Try.underlying31
def rk0 (n q : Int) : Rk := ⟨false, n, { data := #[] }, q⟩
theorem cmpR_gen (n q m p : Int) : cmpR 1 (rk0 n q) (rk0 m p) = if n < m then -1 else if m < n then 1 else ordI q p := by
  have h : cmpV 1 false n { data := #[] } false m { data := #[] } = ordI n m := rfl
  have h' : ordI n m = if n < m then -1 else if m < n then 1 else 0 := rfl
  unfold cmpR
  simp only [rk0, h, h']
  by_cases a : n < m
  · simp [a]
  · by_cases b : m < n
    · simp [a, b]
    · simp [a, b]
theorem cmpR_gen_pos {n q m p : Int} (h : 0 < cmpR 1 (rk0 n q) (rk0 m p)) : m < n ∨ m = n ∧ p ≤ q := by
  rw [cmpR_gen] at h; unfold ordI at h
  split at h
  · omega
  · split at h
    · omega
    · split at h
      · omega
      · split at h <;> omega
theorem cmpR_gen_le {n q m p : Int} (h : ¬0 < cmpR 1 (rk0 n q) (rk0 m p)) : n < m ∨ n = m ∧ q ≤ p := by
  rw [cmpR_gen] at h; unfold ordI at h
  split at h
  · omega
  · split at h
    · omega
    · split at h
      · omega
      · split at h <;> omega
theorem one8 (a e : Bool) (b d f h : Int) (c g : ByteArray) : ∀ u ∈ (#[Value.bool a, .int .i64 b, .string c, .int .i64 d, .bool e, .int .i64 f, .string g, .int .i64 h] : Array Value).toList, u.oneCell' = true := by
  intro u hu
  simp only [List.mem_cons, List.not_mem_nil, or_false] at hu
  rcases hu with rfl | rfl | rfl | rfl | rfl | rfl | rfl | rfl <;> rfl
theorem blk4 {w : World} {A : Nat} {T : TypeId} {x y z u : Value} (a b c d : Value) (h : Blk w A T #[x, y, z, u]) :
    Blk ((((w.setCell ⟨A, 0, none⟩ a).setCell ⟨A, 1, none⟩ b).setCell ⟨A, 2, none⟩ c).setCell ⟨A, 3, none⟩ d) A T #[a, b, c, d] := (((h.set_ 0 a).set_ 1 b).set_ 2 c).set_ 3 d
theorem far4 {w : World} {A : Nat} {T : TypeId} (a b c d : Value) {g : Nat} {cs : Array Value} (hg : g ≠ A) (h : Blk w g T cs) :
    Blk ((((w.setCell ⟨A, 0, none⟩ a).setCell ⟨A, 1, none⟩ b).setCell ⟨A, 2, none⟩ c).setCell ⟨A, 3, none⟩ d) g T cs := (((h.far (by exact hg) a).far (by exact hg) b).far (by exact hg) c).far (by exact hg) d
theorem grown4 (w : World) (A : Nat) (a b c d : Value) : w.grownBy ((((w.setCell ⟨A, 0, none⟩ a).setCell ⟨A, 1, none⟩ b).setCell ⟨A, 2, none⟩ c).setCell ⟨A, 3, none⟩ d) (some A) :=
  grown_trans' (grown_trans' (grown_trans' (grownBy_set w ⟨A, 0, none⟩ a) (grownBy_set _ ⟨A, 1, none⟩ b)) (grownBy_set _ ⟨A, 2, none⟩ c)) (grownBy_set _ ⟨A, 3, none⟩ d)
theorem own_rngs {w : World} {base : Nat} {e : TypeId} {v : Value} {l : List Rg} {r : Rg} {us : List Value} (hu : us = r.cells) (h : w.ownsRow base e 8 v (l.length + 1) (rngs l ++ us)) : w.ownsRow base e 8 v (l ++ [r]).length (rngs (l ++ [r])) := by
  subst hu; rw [rngs_snoc, List.length_append]; exact h
def RetRgs (w : World) (n : Int) (e : Ending) (w' : World) : Prop :=
  ∃ (v : Value) (rs : List Rg), e = .returned v ∧ (rs.length : Int) ≤ n ∧ (∀ r ∈ rs, r.gen) ∧ w'.ownsRow w.heap.size 44 8 v rs.length (rngs rs) ∧ Below w.heap.size w w'
set_option maxRecDepth 100000 in
set_option maxHeartbeats 4000000 in
theorem kranges_any (v : Value) (zs : List Int) (n : Int) (w : World) (hs : Sl w 1 v zs.length (ints zs)) (hl : zs.length ≤ 9223372036854775807) (hr : ∀ x ∈ zs, -9223372036854775808 ≤ x ∧ x ≤ 9223372036854775807) (hn0 : 0 ≤ n) (hn1 : n ≤ 1000) :
    Calls Try.prog 41 #[v, .int .i64 n] w (RetRgs w n) := by
  have HF := Lib.hid (from_any v zs w hs hl hr)
  obtain ⟨A, c, rfl, _, _⟩ := hs.form
  clear hs hl hr
  go_enter Try.func41, Try.ntmps41
  go_wp2_with fail
  refine HF.out.mono ?_
  rintro e w1 ⟨g, rfl, hb1, hsrc⟩
  go_wp2_with fail
  refine (next_any _ g (n + 1) zs w1 hsrc (by omega) (by omega)).mono ?_
  rintro e w2 ⟨rfl, ho, hs2⟩
  have m1 := nxt_lo (n + 1) zs (by omega)
  have m2 := nxt_hi (n + 1) zs (by omega)
  obtain ⟨k, hk⟩ := Int.eq_ofNat_of_zero_le m1
  rw [hk] at m2 ⊢
  have hge := hsrc.ge
  have HB2 := Lib.hid (below_only hb1 ho hge hb1.size)
  have HS2 := Lib.hid hs2
  clear hk m1 hs2 ho hsrc hb1 HF
  go_wp2
  go_loopw [6, 7] (fun v i wr => ∃ (k : Nat) (rs : List Rg) (rest : List Int), i = .int .i64 k ∧ (rs.length : Int) + k ≤ n ∧ (∀ r ∈ rs, r.gen) ∧ wr.ownsRow w.heap.size 44 8 v rs.length (rngs rs) ∧ Src wr w.heap.size 86 g rest ∧ Below w.heap.size w wr) (fun _ i _ => (intOf i).toNat)
  case atStart => exact ⟨k, [], _, rfl, by simp; omega, by simp, World.ownsRow_nil _ _ _ _, HS2.out, HB2.out⟩
  case round =>
    rename_i u6 _ _
    obtain ⟨k, rs, rest, rfl, hlen, hgen, hown, hsrc, hbel⟩ := hrel
    rcases k with _ | j
    · have HR := Lib.hid (show RetRgs w n (.returned u6) wr from ⟨_, rs, rfl, by omega, hgen, hown, hbel⟩)
      clear hgen hown hsrc hbel
      go_wp2
      go_ret
      exact HR.out
    · go_wp2_with fail
      refine (krank_any _ g rest wr hsrc).mono ?_
      rintro e w3 ⟨n1, q1, rest1, rfl, a1, a2, a3, a4, ho1, hs1⟩
      have hown1 := own_only hown hsrc (by decide) ho1
      have hbel1 := below_only hbel ho1 hge hbel.size
      clear hown hbel ho1 hsrc
      go_wp2_with fail
      refine (krank_any _ g rest1 w3 hs1).mono ?_
      rintro e w4 ⟨n2, q2, rest2, rfl, d1, d2, d3, d4, ho2, hs2⟩
      have hown2 := own_only hown1 hs1 (by decide) ho2
      have hbel2 := below_only hbel1 ho2 hge hbel1.size
      clear hown1 hbel1 ho2 hs1
      obtain ⟨kc, hkc⟩ : ∃ kc, cmpR 1 (rk0 n1 q1) (rk0 n2 q2) = kc := ⟨_, rfl⟩
      have C := Lib.hid (fun X => by have := rcmpRank_any 1 (rk0 n1 q1) (rk0 n2 q2) X; rw [hkc] at this; exact this)
      go_wp2_with fail
      refine (C.out _).mono ?_
      rintro e w5 ⟨rfl, hb5⟩
      have b1 : Blk w5 w4.heap.size 37 #[.bool false, .int .i64 n1, .string { data := #[] }, .int .i64 q1] := ((Blk.new _ _ _).alloc _).below hb5 (by simp; omega)
      have b2 : Blk w5 (w4.heap.size + 1) 37 #[.bool false, .int .i64 n2, .string { data := #[] }, .int .i64 q2] := by
        have h := Blk.new (w4.alloc (.cells #[.bool false, .int .i64 n1, .string { data := #[] }, .int .i64 q1] 37)) 37 #[.bool false, .int .i64 n2, .string { data := #[] }, .int .i64 q2]
        exact (show Blk _ (w4.heap.size + 1) _ _ by simpa using h).below hb5 (by simp)
      have hs5 := ((hs2.alloc _).alloc _).below hb5
      have HNO := Lib.hid (show ∀ b, u6.ownBlock = some b → b < w4.heap.size from fun b hb => (hown2.lt b hb).2)
      have hg4 := hs2.lt
      have hown5 := own_below ((hown2.alloc _).alloc _) hb5
      have hbel5 : Below w.heap.size w w5 := bst ((hbel2.alloc hbel2.size _).alloc (by have := hbel2.size; simp; omega) _) hb5
      have hge4 := hbel2.size
      clear hs2 hown2 hbel2 hb5 C
      by_cases hsw : 0 < kc
      · have HG := Lib.hid (show ∀ r ∈ rs ++ [⟨rk0 n2 q2, rk0 n1 q1⟩], Rg.gen r by
          intro r hr
          rcases List.mem_append.1 hr with h | h
          · exact hgen r h
          · simp at h; subst h
            have := cmpR_gen_pos (hkc ▸ hsw)
            exact ⟨⟨rfl, by show 0 ≤ n2; omega, by show n2 ≤ 11; omega, rfl, by show 0 ≤ q2; omega, by show q2 ≤ 2; omega⟩, ⟨rfl, by show 0 ≤ n1; omega, by show n1 ≤ 11; omega, rfl, by show 0 ≤ q1; omega, by show q1 ≤ 2; omega⟩, this⟩)
        have hd : decide (0 < kc) = true := by simpa using hsw
        have f0 := b1.frozen 0
        have f1 := b1.frozen 1
        have f2 := b1.frozen 2
        have f3 := b1.frozen 3
        have f4 := b2.frozen 0
        have f5 := b2.frozen 1
        have f6 := b2.frozen 2
        have f7 := b2.frozen 3
        have c0 := b1.cell 0
        have c1 := b1.cell 1
        have c2 := b1.cell 2
        have c3 := b1.cell 3
        have c4 := b2.cell 0
        have c5 := b2.cell 1
        have c6 := b2.cell 2
        have c7 := b2.cell 3
        simp only [List.getElem?_toArray, List.getElem?_cons_zero, List.getElem?_cons_succ] at c0 c1 c2 c3 c4 c5 c6 c7
        have HB1 := Lib.hid b1
        have HB2x := Lib.hid b2
        have HO4 := Lib.hid hown5
        have HS4 := Lib.hid hs5
        have HL4 := Lib.hid hbel5
        clear hkc hgen b1 b2 hown5 hs5 hbel5
        go_upto_region 9 with (fail)
        have k1 := far4 (A := w4.heap.size + 1) (.bool false) (.int .i64 n1) (.string { data := #[] }) (.int .i64 q1) (by omega) (blk4 (.bool false) (.int .i64 n2) (.string { data := #[] }) (.int .i64 q2) HB1.out)
        have k2 := blk4 (.bool false) (.int .i64 n1) (.string { data := #[] }) (.int .i64 q1) (far4 (A := w4.heap.size) (.bool false) (.int .i64 n2) (.string { data := #[] }) (.int .i64 q2) (by omega) HB2x.out)
        have kg1 := grown4 w5 w4.heap.size (.bool false) (.int .i64 n2) (.string { data := #[] }) (.int .i64 q2)
        have kg2 := grown4 ((((w5.setCell ⟨w4.heap.size, 0, none⟩ (.bool false)).setCell ⟨w4.heap.size, 1, none⟩ (.int .i64 n2)).setCell ⟨w4.heap.size, 2, none⟩ (.string { data := #[] })).setCell ⟨w4.heap.size, 3, none⟩ (.int .i64 q2)) (w4.heap.size + 1) (.bool false) (.int .i64 n1) (.string { data := #[] }) (.int .i64 q1)
        have ho1 := own_grown HO4.out kg1 (fun b hb => by intro e; injection e with e; have := HNO.out b hb; omega)
        have ho2 := own_grown ho1 kg2 (fun b hb => by intro e; injection e with e; have := HNO.out b hb; omega)
        have hsr1 := HS4.out.grown kg1 (by intro e; injection e; omega) (fun k hk => by injection hk; omega)
        have hsr2 := hsr1.grown kg2 (by intro e; injection e; omega) (fun k hk => by injection hk; omega)
        have hbl := (HL4.out.grown kg1 HL4.out.size (fun k hk => by injection hk; omega)).grown kg2 (by simp [World.setCell]; exact HL4.out.size) (fun k hk => by injection hk; omega)
        obtain ⟨X, hX⟩ : ∃ X, X = (((((((w5.setCell ⟨w4.heap.size, 0, none⟩ (.bool false)).setCell ⟨w4.heap.size, 1, none⟩ (.int .i64 n2)).setCell ⟨w4.heap.size, 2, none⟩ (.string { data := #[] })).setCell ⟨w4.heap.size, 3, none⟩ (.int .i64 q2)).setCell ⟨w4.heap.size + 1, 0, none⟩ (.bool false)).setCell ⟨w4.heap.size + 1, 1, none⟩ (.int .i64 n1)).setCell ⟨w4.heap.size + 1, 2, none⟩ (.string { data := #[] })).setCell ⟨w4.heap.size + 1, 3, none⟩ (.int .i64 q1) := ⟨_, rfl⟩
        rw [← hX] at k1 k2 kg2 ho2 hsr2 hbl ⊢
        clear hX kg1 kg2 ho1 hsr1
        clear c0 c1 c2 c3 c4 c5 c6 c7 f0 f1 f2 f3 f4 f5 f6 f7
        have c0 := k1.cell 0
        have c1 := k1.cell 1
        have c2 := k1.cell 2
        have c3 := k1.cell 3
        have c4 := k2.cell 0
        have c5 := k2.cell 1
        have c6 := k2.cell 2
        have c7 := k2.cell 3
        simp only [List.getElem?_toArray, List.getElem?_cons_zero, List.getElem?_cons_succ] at c0 c1 c2 c3 c4 c5 c6 c7
        have HO5 := Lib.hid ho2
        have HS5 := Lib.hid hsr2
        clear k1 k2 ho2 hsr2
        go_wp2_with (at_builtin; go_must (refine app1 _ _ HO5.out hbl (Nat.le_refl _) hbl.size under_range info_range rfl (by decide) rfl (one8 _ _ _ _ _ _ _ _) (by omega) (by omega) rfl rfl rfl rfl ?_))
        intro g' cap' w7 hown7 hbel7 hgr7 _
        clear hbl
        go_wp2
        go_roundw
        case rel => exact ⟨j, rs ++ [⟨rk0 n2 q2, rk0 n1 q1⟩], rest2, by go_num, by simp; omega, HG.out, own_rngs (r := ⟨rk0 n2 q2, rk0 n1 q1⟩) rfl hown7, HS5.out.grown hgr7 (HS5.out.own_ne HO5.out (by decide)) (fun k hk => (HO5.out.lt k hk).1), hbel7⟩
        case measure => simp [intOf]
      · have HG := Lib.hid (show ∀ r ∈ rs ++ [⟨rk0 n1 q1, rk0 n2 q2⟩], Rg.gen r by
          intro r hr
          rcases List.mem_append.1 hr with h | h
          · exact hgen r h
          · simp at h; subst h
            have := cmpR_gen_le (hkc ▸ hsw)
            exact ⟨⟨rfl, by show 0 ≤ n1; omega, by show n1 ≤ 11; omega, rfl, by show 0 ≤ q1; omega, by show q1 ≤ 2; omega⟩, ⟨rfl, by show 0 ≤ n2; omega, by show n2 ≤ 11; omega, rfl, by show 0 ≤ q2; omega, by show q2 ≤ 2; omega⟩, this⟩)
        have hd : decide (0 < kc) = false := by simpa using hsw
        have c0 := b1.cell 0
        have c1 := b1.cell 1
        have c2 := b1.cell 2
        have c3 := b1.cell 3
        have c4 := b2.cell 0
        have c5 := b2.cell 1
        have c6 := b2.cell 2
        have c7 := b2.cell 3
        simp only [List.getElem?_toArray, List.getElem?_cons_zero, List.getElem?_cons_succ] at c0 c1 c2 c3 c4 c5 c6 c7
        have HO5 := Lib.hid hown5
        have HS5 := Lib.hid hs5
        clear hkc hgen b1 b2 hown5 hs5
        go_wp2_with (at_builtin; go_must (refine app1 _ _ HO5.out hbel5 (Nat.le_refl _) hbel5.size under_range info_range rfl (by decide) rfl (one8 _ _ _ _ _ _ _ _) (by omega) (by omega) rfl rfl rfl rfl ?_))
        intro g' cap' w7 hown7 hbel7 hgr7 _
        clear hbel5
        go_wp2
        go_roundw
        case rel => exact ⟨j, rs ++ [⟨rk0 n1 q1, rk0 n2 q2⟩], rest2, by go_num, by simp; omega, HG.out, own_rngs (r := ⟨rk0 n1 q1, rk0 n2 q2⟩) rfl hown7, HS5.out.grown hgr7 (HS5.out.own_ne HO5.out (by decide)) (fun k hk => (HO5.out.lt k hk).1), hbel7⟩
        case measure => simp [intOf]
end Go.Proofs.Ytcjekbncllccbaa
