/-
  The contracts of keep.rank and ref13.CompareRank.
-/
import Derived.Test.YtcjekbncllccbaaBase
namespace Go.Proofs.Ytcjekbncllccbaa
open Go.RowKit
/-- A rank that the statements' helpers make. -/
def Rk.gen (r : Rk) : Prop := r.null = false ∧ 0 ≤ r.n ∧ r.n ≤ 11 ∧ r.s = { data := #[] } ∧ 0 ≤ r.seq ∧ r.seq ≤ 2
def RetRk (w : World) (B g : Nat) (e : Ending) (w' : World) : Prop :=
  ∃ (n q : Int) (rest : List Int), e = .returned (.agg #[.bool false, .int .i64 n, .string { data := #[] }, .int .i64 q]) ∧ 0 ≤ n ∧ n ≤ 11 ∧ 0 ≤ q ∧ q ≤ 2 ∧ Only g w w' ∧ Src w' B 86 g rest
set_option maxRecDepth 100000 in
set_option maxHeartbeats 1000000 in
theorem krank_any (B g : Nat) (rest : List Int) (w : World) (hsrc : Src w B 86 g rest) :
    Calls Try.prog 59 #[.pointer (some ⟨g, 0, none⟩)] w (RetRk w B g) := by
  have hgw := hsrc.lt
  have hge := hsrc.ge
  obtain ⟨W, hW⟩ : ∃ W, W = w.alloc (.cells #[.bool false, .int .i64 0, .string { data := #[] }, .int .i64 0] 37) := ⟨_, rfl⟩
  have hs1 : Src W B 86 g rest := by rw [hW]; exact hsrc.alloc _
  have b1 : Blk W w.heap.size 37 #[.bool false, .int .i64 0, .string { data := #[] }, .int .i64 0] := by rw [hW]; exact Blk.new _ _ _
  have o1 : Only g w W := by rw [hW]; exact (Only.refl g w).alloc _
  go_enter Try.func59, Try.ntmps59
  go_wp2_with fail
  rw [← hW]
  clear hW
  refine (next_any B g 12 rest W hs1 (by omega) (by omega)).mono ?_
  rintro e w1 ⟨rfl, ho1, hs2⟩
  have n1 := nxt_lo 12 rest (by omega)
  have n2 := nxt_hi 12 rest (by omega)
  obtain ⟨n, hn⟩ : ∃ n, nxt 12 rest = n := ⟨_, rfl⟩
  rw [hn] at n1 n2 ⊢
  have b2 := b1.grown ho1 (by simp; omega)
  have o2 := o1.trans ho1
  clear hn b1 o1 ho1 hs1
  go_wp2_with fail
  refine (next_any B g 3 _ w1 hs2 (by omega) (by omega)).mono ?_
  rintro e w2 ⟨rfl, ho2, hs3⟩
  have q1 := nxt_lo 3 rest.tail (by omega)
  have q2 := nxt_hi 3 rest.tail (by omega)
  obtain ⟨q, hq⟩ : ∃ q, nxt 3 rest.tail = q := ⟨_, rfl⟩
  rw [hq] at q1 q2 ⊢
  have b3 := b2.grown ho2 (by simp; omega)
  have o3 := o2.trans ho2
  have f0 := b3.frozen 0
  have f1 := b3.frozen 1
  have f2 := b3.frozen 2
  have f3 := b3.frozen 3
  have c0 := b3.cell 0
  have c1 := b3.cell 1
  have c2 := b3.cell 2
  have c3 := b3.cell 3
  simp only [List.getElem?_toArray, List.getElem?_cons_zero, List.getElem?_cons_succ] at c0 c1 c2 c3
  have HB := Lib.hid b3
  have HO := Lib.hid o3
  have HS := Lib.hid hs3
  clear hq b2 o2 ho2 hs2 b3 o3 hs3
  go_wp2
  have h3 := (((HB.out.set_ 0 (.bool false)).set_ 1 (.int .i64 n)).set_ 2 (.string { data := #[] })).set_ 3 (.int .i64 q)
  have HX := (((HO.out.setNew (p := ⟨w.heap.size, 0, none⟩) (Nat.le_refl _) (.bool false)).setNew (p := ⟨w.heap.size, 1, none⟩) (Nat.le_refl _) (.int .i64 n)).setNew (p := ⟨w.heap.size, 2, none⟩) (Nat.le_refl _) (.string { data := #[] })).setNew (p := ⟨w.heap.size, 3, none⟩) (Nat.le_refl _) (.int .i64 q)
  have HY := (((HS.out.set_ (p := ⟨w.heap.size, 0, none⟩) (by simp; omega) (by simp; omega) (.bool false)).set_ (p := ⟨w.heap.size, 1, none⟩) (by simp; omega) (by simp; omega) (.int .i64 n)).set_ (p := ⟨w.heap.size, 2, none⟩) (by simp; omega) (by simp; omega) (.string { data := #[] })).set_ (p := ⟨w.heap.size, 3, none⟩) (by simp; omega) (by simp; omega) (.int .i64 q)
  obtain ⟨X, hX⟩ : ∃ X, X = (((w2.setCell ⟨w.heap.size, 0, none⟩ (.bool false)).setCell ⟨w.heap.size, 1, none⟩ (.int .i64 n)).setCell ⟨w.heap.size, 2, none⟩ (.string { data := #[] })).setCell ⟨w.heap.size, 3, none⟩ (.int .i64 q) := ⟨_, rfl⟩
  rw [← hX] at h3 HX HY ⊢
  have q0 : X.cell? ⟨w.heap.size, 0, none⟩ = some (.bool false) := (h3.cell 0).trans (by simp)
  have q1' : X.cell? ⟨w.heap.size, 1, none⟩ = some (.int .i64 n) := (h3.cell 1).trans (by simp)
  have q2' : X.cell? ⟨w.heap.size, 2, none⟩ = some (.string { data := #[] }) := (h3.cell 2).trans (by simp)
  have q3 : X.cell? ⟨w.heap.size, 3, none⟩ = some (.int .i64 q) := (h3.cell 3).trans (by simp)
  clear hX c0 c1 c2 c3
  exact bodyPost_ret (v := .agg #[.bool false, .int .i64 n, .string { data := #[] }, .int .i64 q]) (by simp [results, Try.results59, go_sem, q0, q1', q2', q3]) rfl ⟨n, q, _, rfl, by omega, by omega, by omega, by omega, HX, HY⟩
/-- The order of ranks. -/
def cmpR (t : Int) (a b : Rk) : Int := if cmpV t a.null a.n a.s b.null b.n b.s ≠ 0 then cmpV t a.null a.n a.s b.null b.n b.s else ordI a.seq b.seq
theorem cmpR_ne {t : Int} {a b : Rk} {k : Int} (h : cmpV t a.null a.n a.s b.null b.n b.s = k) (hk : k ≠ 0) : cmpR t a b = k := by unfold cmpR; rw [h, if_pos hk]
theorem cmpR_eq {t : Int} {a b : Rk} (h : cmpV t a.null a.n a.s b.null b.n b.s = 0) : cmpR t a b = ordI a.seq b.seq := by unfold cmpR; rw [h, if_neg (by simp)]
set_option maxRecDepth 100000 in
set_option maxHeartbeats 1000000 in
theorem rcmpRank_any (t : Int) (a b : Rk) (w : World) :
    Calls Try.prog 25 #[.int .i64 t, .agg #[.bool a.null, .int .i64 a.n, .string a.s, .int .i64 a.seq], .agg #[.bool b.null, .int .i64 b.n, .string b.s, .int .i64 b.seq]] w (RetN w (cmpR t a b)) := by
  obtain ⟨an, ax, az, aq⟩ := a
  obtain ⟨bn, bx, bs, bq⟩ := b
  obtain ⟨W, hW⟩ : ∃ W, W = (w.alloc (.cells #[.bool an, .int .i64 ax, .string az, .int .i64 aq] 37)).alloc (.cells #[.bool bn, .int .i64 bx, .string bs, .int .i64 bq] 37) := ⟨_, rfl⟩
  have HB := Lib.hid (show Below w.heap.size w W by rw [hW]; exact abel2 _ _ _)
  have B1 : Blk W w.heap.size 37 #[.bool an, .int .i64 ax, .string az, .int .i64 aq] := by rw [hW]; exact (Blk.new _ _ _).alloc _
  have B2 : Blk W (w.heap.size + 1) 37 #[.bool bn, .int .i64 bx, .string bs, .int .i64 bq] := by
    have := Blk.new (w.alloc (.cells #[.bool an, .int .i64 ax, .string az, .int .i64 aq] 37)) 37 #[.bool bn, .int .i64 bx, .string bs, .int .i64 bq]
    rw [hW]; simpa using this
  obtain ⟨k, hk⟩ : ∃ k, cmpV t an ax az bn bx bs = k := ⟨_, rfl⟩
  have C := Lib.hid (show Calls Try.prog 50 #[.int .i64 t, .agg #[.bool an, .int .i64 ax, .string az], .agg #[.bool bn, .int .i64 bx, .string bs]] W (RetN W k) by rw [← hk]; exact rcompare_any t an ax az bn bx bs W)
  by_cases h0 : k = 0
  · subst h0
    have HF := Lib.hid (cmpR_eq (a := ⟨an, ax, az, aq⟩) (b := ⟨bn, bx, bs, bq⟩) hk)
    clear hk
    by_cases hl : aq < bq
    · have HG := Lib.hid (show ordI aq bq = -1 by unfold ordI; rw [if_pos hl])
      go_enter Try.func25, Try.ntmps25
      go_wp2_with fail
      rw [← hW]
      clear hW
      refine C.out.mono ?_
      rintro _ w1 ⟨rfl, hb1⟩
      have y3 := (B1.below hb1 B1.lt).cell 3
      have y4 := (B2.below hb1 B2.lt).cell 3
      simp only [List.getElem?_toArray, List.getElem?_cons_zero, List.getElem?_cons_succ] at y3 y4
      have HB1 := Lib.hid hb1
      clear hb1
      go_wp2
      go_ret
      exact ⟨ret_int (by rw [HF.out, HG.out]), bst HB.out HB1.out⟩
    · by_cases he : aq = bq
      · have HG := Lib.hid (show ordI aq bq = 0 by unfold ordI; rw [if_neg hl, if_neg (by omega)])
        have t1 : (aq == bq) = true := by simpa using he
        clear he
        go_enter Try.func25, Try.ntmps25
        go_wp2_with fail
        rw [← hW]
        clear hW
        refine C.out.mono ?_
        rintro _ w1 ⟨rfl, hb1⟩
        have y3 := (B1.below hb1 B1.lt).cell 3
        have y4 := (B2.below hb1 B2.lt).cell 3
        simp only [List.getElem?_toArray, List.getElem?_cons_zero, List.getElem?_cons_succ] at y3 y4
        have HB1 := Lib.hid hb1
        clear hb1
        go_wp2
        go_ret
        exact ⟨ret_int (by rw [HF.out, HG.out]), bst HB.out HB1.out⟩
      · have HG := Lib.hid (show ordI aq bq = 1 by unfold ordI; rw [if_neg hl, if_pos (by omega)])
        have t1 : (aq == bq) = false := by simpa using he
        go_enter Try.func25, Try.ntmps25
        go_wp2_with fail
        rw [← hW]
        clear hW
        refine C.out.mono ?_
        rintro _ w1 ⟨rfl, hb1⟩
        have y3 := (B1.below hb1 B1.lt).cell 3
        have y4 := (B2.below hb1 B2.lt).cell 3
        simp only [List.getElem?_toArray, List.getElem?_cons_zero, List.getElem?_cons_succ] at y3 y4
        have HB1 := Lib.hid hb1
        clear hb1
        go_wp2
        go_ret
        exact ⟨ret_int (by rw [HF.out, HG.out]), bst HB.out HB1.out⟩
  · have HF := Lib.hid (cmpR_ne (a := ⟨an, ax, az, aq⟩) (b := ⟨bn, bx, bs, bq⟩) hk h0)
    have t1 : (k != 0) = true := by simpa using h0
    clear hk
    go_enter Try.func25, Try.ntmps25
    go_wp2_with fail
    rw [← hW]
    clear hW
    refine C.out.mono ?_
    rintro _ w1 ⟨rfl, hb1⟩
    have HB1 := Lib.hid hb1
    clear hb1
    go_wp2
    go_ret
    exact ⟨ret_int HF.out.symm, bst HB.out HB1.out⟩
end Go.Proofs.Ytcjekbncllccbaa
