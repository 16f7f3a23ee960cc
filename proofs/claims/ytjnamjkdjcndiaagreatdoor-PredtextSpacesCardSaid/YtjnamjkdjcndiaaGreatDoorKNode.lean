/-
  keep.node.
-/
import Derived.Test.YtjnamjkdjcndiaaGreatDoorM16
import Derived.Test.YtjnamjkdjcndiaaGreatDoorVGen
import Derived.Test.YtjnamjkdjcndiaaGreatDoorKValue
import Derived.Test.YtjnamjkdjcndiaaGreatDoorM15
namespace Go.Proofs.YtjnamjkdjcndiaaGreatDoor
open Go.RowKit Go.Sort
theorem info_vl : (Tryz.prog.info? 64).map (fun i => (i.zero, i.size, i.bytes)) = some (some (.agg #[.bool false, .int .i64 0, .string { data := #[] }]), 3, 32) := by kernel_rfl
theorem under_vl : Tryz.prog.underlying 46 = some (.slice 64) := Tryz.underlying46
theorem one_val3 (t : Bool) (a : Int) (s : ByteArray) : ∀ u ∈ (#[Value.bool t, .int .i64 a, .string s] : Array Value).toList, u.oneCell' = true := by
  intro u hu
  simp only [List.mem_cons, List.not_mem_nil, or_false] at hu
  rcases hu with rfl | rfl | rfl <;> rfl
def RetNode (w : World) (B g : Nat) (cs : List Col) (i : Nat) (e : Ending) (w' : World) : Prop :=
  ∃ (x : Nd) (u : Value) (rest : List Int), e = .returned (.agg #[.int .i64 x.op, .int .i64 x.col, .bool x.v.nu, .int .i64 x.v.n, .string x.v.s, u, .int .i64 x.a, .int .i64 x.b]) ∧ NodeOk cs i x ∧ w'.ownsRow w.heap.size 64 3 u x.l.length (vls x.l) ∧ Only g w w' ∧ Src w' B 97 g rest
set_option maxRecDepth 100000 in
set_option maxHeartbeats 8000000 in
theorem knode_any (B g i : Nat) (v : Value) (key : Int) (cs : List Col) (rest : List Int) (w : World) (hsrc : Src w B 97 g rest) (w0 : World) (hs : Sl w0 4 v cs.length (cols cs)) (hb0 : Below w0.heap.size w0 w) (hB0 : w0.heap.size ≤ B) (h0 : 0 < cs.length) (hm : cs.length ≤ 1000) (hcv : ∀ c ∈ cs, 1 ≤ c.ty ∧ c.ty ≤ 5) (hi : i ≤ 1000) :
    Calls Tryz.prog 36 #[.pointer (some ⟨g, 0, none⟩), .agg #[v, .int .i64 key], .int .i64 i] w (RetNode w B g cs i) := by
  obtain ⟨A, cA, rfl, hc1, hc2⟩ := hs.form
  have hgw := hsrc.lt
  have hBg := hsrc.ge
  obtain ⟨W, hW⟩ : ∃ W, W = (w.alloc (.cells #[.slice A cs.length cA, .int .i64 key] 28)).alloc (.cells #[.int .i64 0, .int .i64 0, .bool false, .int .i64 0, .string { data := #[] }, .slice none 0 0, .int .i64 0, .int .i64 0] 66) := ⟨_, rfl⟩
  have SRW := Lib.hid (show Src W B 97 g rest by rw [hW]; exact (hsrc.alloc _).alloc _)
  have BSW := Lib.hid (show Blk W w.heap.size 28 #[.slice A cs.length cA, .int .i64 key] by rw [hW]; exact (Blk.new _ _ _).alloc _)
  have BRW := Lib.hid (show Blk W (w.heap.size + 1) 66 #[.int .i64 0, .int .i64 0, .bool false, .int .i64 0, .string { data := #[] }, .slice none 0 0, .int .i64 0, .int .i64 0] by rw [hW]; exact blk_new2 w _ _ _)
  have ONW := Lib.hid (show Only g w W by rw [hW]; exact ((Only.refl g w).alloc _).alloc _)
  have SZW := Lib.hid (show w.heap.size + 2 ≤ W.heap.size by rw [hW]; simp)
  have HSL := Lib.hid hs
  have HCV := Lib.hid hcv
  have HB0 := Lib.hid hb0
  clear hsrc hs hcv hb0
  go_enter Tryz.func36, Tryz.ntmps36
  go_wp2_with fail
  rw [← hW]
  clear hW
  with_reducible refine (next_any B g 11 rest W SRW.out (by omega) (by omega)).mono ?_
  rintro _ w1 ⟨rfl, ho, hsx⟩
  have BSw1 := Lib.hid (BSW.out.grown ho (by simp; omega))
  have BRw1 := Lib.hid (BRW.out.grown ho (by simp; omega))
  have ONw1 := Lib.hid (ONW.out.trans ho)
  have SRw1 := Lib.hid hsx
  have SZw1 := Lib.hid (Nat.le_trans SZW.out ho.size)
  clear ho hsx BSW BRW ONW SRW SZW
  have y1 := nxt_lo 11 rest (by omega)
  have y2 := nxt_hi 11 rest (by omega)
  obtain ⟨o, ho⟩ : ∃ o, 1 + nxt 11 rest = o := ⟨_, rfl⟩
  have how : IntKind.i64.wrap (1 + nxt 11 rest) = o := by rw [ho]; exact IntWalk.i64_in _ (by omega)
  have ho1 : 1 ≤ o := by omega
  have ho2 : o ≤ 11 := by omega
  clear y1 y2 ho
  obtain ⟨N, hN⟩ : ∃ N, w1.heap.size = N := ⟨_, rfl⟩
  have hSN : w.heap.size + 2 ≤ N := by rw [← hN]; exact SZw1.out
  go_upto_region 2 with (fail)
  obtain ⟨X, hX⟩ : ∃ X, X = w1.alloc (.cells #[.int .i64 o, .int .i64 0, .bool false, .int .i64 0, .string { data := #[] }, .slice none 0 0, .int .i64 0, .int .i64 0] 66) := ⟨_, rfl⟩
  have BNX := Lib.hid (show Blk X N 66 #[.int .i64 o, .int .i64 0, .bool false, .int .i64 0, .string { data := #[] }, .slice none 0 0, .int .i64 0, .int .i64 0] by rw [hX, ← hN]; exact Blk.new _ _ _)
  have BSX := Lib.hid (show Blk X w.heap.size 28 #[.slice A cs.length cA, .int .i64 key] by rw [hX]; exact BSw1.out.alloc _)
  have BRX := Lib.hid (show Blk X (w.heap.size + 1) 66 #[.int .i64 0, .int .i64 0, .bool false, .int .i64 0, .string { data := #[] }, .slice none 0 0, .int .i64 0, .int .i64 0] by rw [hX]; exact BRw1.out.alloc _)
  have SRX := Lib.hid (show Src X B 97 g rest.tail by rw [hX]; exact SRw1.out.alloc _)
  have ONX := Lib.hid (show Only g w X by rw [hX]; exact ONw1.out.alloc _)
  have SZX := Lib.hid (show N < X.heap.size by rw [hX, ← hN]; simp)
  try simp only [how]
  try rw [← hX]
  try simp only [hN]
  clear hX hN how BSw1 BRw1 SRw1 ONw1 SZw1
  go_cut [20] from 14 to 20 (fun r wx => r = .bool (decide (9 ≤ o ∧ i = 0)) ∧ X = wx)
  case first =>
    have bb := BNX.out
    have n0 := bb.cell 0
    have nf0 := bb.frozen 0
    have n1 := bb.cell 1
    have nf1 := bb.frozen 1
    have n2 := bb.cell 2
    have nf2 := bb.frozen 2
    have n3 := bb.cell 3
    have nf3 := bb.frozen 3
    have n4 := bb.cell 4
    have nf4 := bb.frozen 4
    have n5 := bb.cell 5
    have nf5 := bb.frozen 5
    have n6 := bb.cell 6
    have nf6 := bb.frozen 6
    have n7 := bb.cell 7
    have nf7 := bb.frozen 7
    simp only [List.getElem?_toArray, List.getElem?_cons_zero, List.getElem?_cons_succ] at n0 n1 n2 n3 n4 n5 n6 n7
    clear bb
    by_cases h9 : 9 ≤ o
    · have q1 : decide (9 ≤ o) = true := by simpa using h9
      by_cases hz : i = 0
      · subst hz
        go_wp2
        go_meet
        exact ⟨by simp [h9], rfl⟩
      · have q2 : ((i : Int) == 0) = false := by simp; omega
        have q3 : (i == 0) = false := by simpa using hz
        go_wp2
        go_meet
        exact ⟨by simp [hz], rfl⟩
    · have q1 : decide (9 ≤ o) = false := by simpa using h9
      go_wp2
      go_meet
      exact ⟨congrArg Value.bool (decide_eq_false (by omega)).symm, rfl⟩
  case rest =>
    obtain ⟨rfl, rfl⟩ := hcut
    go_upto_if 20 with (fail)
    go_cut [] from 20 to 24 (fun wx => ∃ o2 : Int, 1 ≤ o2 ∧ o2 ≤ 11 ∧ (9 ≤ o2 → 0 < i) ∧ Blk wx N 66 #[.int .i64 o2, .int .i64 0, .bool false, .int .i64 0, .string { data := #[] }, .slice none 0 0, .int .i64 0, .int .i64 0] ∧ Blk wx w.heap.size 28 #[.slice A cs.length cA, .int .i64 key] ∧ Blk wx (w.heap.size + 1) 66 #[.int .i64 0, .int .i64 0, .bool false, .int .i64 0, .string { data := #[] }, .slice none 0 0, .int .i64 0, .int .i64 0] ∧ Only g w wx ∧ Src wx B 97 g rest.tail ∧ N < wx.heap.size)
    case first =>
      have bb := BNX.out
      have n0 := bb.cell 0
      have nf0 := bb.frozen 0
      have n1 := bb.cell 1
      have nf1 := bb.frozen 1
      have n2 := bb.cell 2
      have nf2 := bb.frozen 2
      have n3 := bb.cell 3
      have nf3 := bb.frozen 3
      have n4 := bb.cell 4
      have nf4 := bb.frozen 4
      have n5 := bb.cell 5
      have nf5 := bb.frozen 5
      have n6 := bb.cell 6
      have nf6 := bb.frozen 6
      have n7 := bb.cell 7
      have nf7 := bb.frozen 7
      simp only [List.getElem?_toArray, List.getElem?_cons_zero, List.getElem?_cons_succ] at n0 n1 n2 n3 n4 n5 n6 n7
      clear bb
      by_cases hz : 9 ≤ o ∧ i = 0
      · have q1 : decide (9 ≤ o ∧ i = 0) = true := by simpa using hz
        have hw8 : IntKind.i64.wrap (o - 8) = o - 8 := IntWalk.i64_in _ (by omega)
        obtain ⟨Y, hY⟩ : ∃ X0, X0 = (X.setCell ⟨N, 0, none⟩ (.int .i64 (o - 8))) := ⟨_, rfl⟩
        have kg : X.grownBy Y (some N) := by rw [hY]; exact (grownBy_set X ⟨N, 0, none⟩ (.int .i64 (o - 8)))
        have BNY := Lib.hid (show Blk Y N 66 #[.int .i64 (o - 8), .int .i64 0, .bool false, .int .i64 0, .string { data := #[] }, .slice none 0 0, .int .i64 0, .int .i64 0] by rw [hY]; have h := (BNX.out.set_ 0 (.int .i64 (o - 8))); simpa using h)
        have BSY := Lib.hid (BSX.out.row kg (by omega))
        have BRY := Lib.hid (BRX.out.row kg (by omega))
        have ONY := Lib.hid (ONX.out.grown kg (fun k hk => by injection hk; omega))
        have SRY := Lib.hid (SRX.out.row kg (by omega) (by omega))
        have SZY := Lib.hid (Nat.le_trans SZX.out kg.size)
        clear kg BSX BRX BNX ONX SRX SZX
        go_wp2
        go_meet
        rw [← hY]
        exact ⟨o - 8, by omega, by omega, by omega, BNY.out, BSY.out, BRY.out, ONY.out, SRY.out, SZY.out⟩
      · have q1 : decide (9 ≤ o ∧ i = 0) = false := by simpa using hz
        go_wp2
        go_meet
        exact ⟨o, by omega, by omega, by omega, BNX.out, BSX.out, BRX.out, ONX.out, SRX.out, SZX.out⟩
    case rest =>
      obtain ⟨o2, p1, p2, p3, bn, bs, br, on, sr, sz⟩ := hcut
      have BNwc := Lib.hid bn
      have BSwc := Lib.hid bs
      have BRwc := Lib.hid br
      have ONwc := Lib.hid on
      have SRwc := Lib.hid sr
      have SZwc := Lib.hid sz
      clear bn bs br on sr sz BNX BSX BRX ONX SRX SZX
      have IH := Lib.hid p3
      clear p3
      have bb := BNwc.out
      have n0 := bb.cell 0
      have nf0 := bb.frozen 0
      have n1 := bb.cell 1
      have nf1 := bb.frozen 1
      have n2 := bb.cell 2
      have nf2 := bb.frozen 2
      have n3 := bb.cell 3
      have nf3 := bb.frozen 3
      have n4 := bb.cell 4
      have nf4 := bb.frozen 4
      have n5 := bb.cell 5
      have nf5 := bb.frozen 5
      have n6 := bb.cell 6
      have nf6 := bb.frozen 6
      have n7 := bb.cell 7
      have nf7 := bb.frozen 7
      simp only [List.getElem?_toArray, List.getElem?_cons_zero, List.getElem?_cons_succ] at n0 n1 n2 n3 n4 n5 n6 n7
      clear bb
      by_cases h9 : 9 ≤ o2
      · have q1 : decide (9 ≤ o2) = true := by simpa using h9
        have i0 := IH.out h9
        have z0 : (0 : Int) < min (↑i) 3 := by omega
        have z3 : (min (↑i) 3 : Int) ≤ 3 := by omega
        have zi : (min (↑i) 3 : Int) ≤ i := by omega
        obtain ⟨m, hm3⟩ : ∃ m : Int, min (↑i) 3 = m := ⟨_, rfl⟩
        rw [hm3] at z0 z3 zi
        have y1 := nxt_lo m rest.tail z0
        have y2 := nxt_hi m rest.tail z0
        obtain ⟨y, hy⟩ : ∃ y, nxt m rest.tail = y := ⟨_, rfl⟩
        rw [hy] at y1 y2
        have hw1 : IntKind.i64.wrap ((i : Int) - 1) = (i : Int) - 1 := IntWalk.i64_in _ (by omega)
        have hw2 : IntKind.i64.wrap ((i : Int) - 1 - y) = (i : Int) - 1 - y := IntWalk.i64_in _ (by omega)
        go_wp2_with fail
        try rw [hm3]
        clear n0 nf0 n1 nf1 n2 nf2 n3 nf3 n4 nf4 n5 nf5 n6 nf6 n7 nf7
        with_reducible refine (next_any B g m rest.tail wc SRwc.out z0 (by omega)).mono ?_
        rintro _ w2 ⟨rfl, ho, hsx⟩
        have BSw2 := Lib.hid (BSwc.out.grown ho (by simp; omega))
        have BRw2 := Lib.hid (BRwc.out.grown ho (by simp; omega))
        have BNw2 := Lib.hid (BNwc.out.grown ho (by simp; omega))
        have ONw2 := Lib.hid (ONwc.out.trans ho)
        have SRw2 := Lib.hid hsx
        have SZw2 := Lib.hid (Nat.le_trans SZwc.out ho.size)
        clear ho hsx BSwc BRwc BNwc ONwc SRwc SZwc
        rw [hy]
        clear hm3 hy
        have bb := BNw2.out
        have n0 := bb.cell 0
        have nf0 := bb.frozen 0
        have n1 := bb.cell 1
        have nf1 := bb.frozen 1
        have n2 := bb.cell 2
        have nf2 := bb.frozen 2
        have n3 := bb.cell 3
        have nf3 := bb.frozen 3
        have n4 := bb.cell 4
        have nf4 := bb.frozen 4
        have n5 := bb.cell 5
        have nf5 := bb.frozen 5
        have n6 := bb.cell 6
        have nf6 := bb.frozen 6
        have n7 := bb.cell 7
        have nf7 := bb.frozen 7
        simp only [List.getElem?_toArray, List.getElem?_cons_zero, List.getElem?_cons_succ] at n0 n1 n2 n3 n4 n5 n6 n7
        clear bb
        go_upto_region 6 with (fail)
        obtain ⟨X2, hX2⟩ : ∃ X0, X0 = (w2.setCell ⟨N, 6, none⟩ (.int .i64 ((i : Int) - 1 - y))) := ⟨_, rfl⟩
        have kg : w2.grownBy X2 (some N) := by rw [hX2]; exact (grownBy_set w2 ⟨N, 6, none⟩ (.int .i64 ((i : Int) - 1 - y)))
        have BNX2 := Lib.hid (show Blk X2 N 66 #[.int .i64 o2, .int .i64 0, .bool false, .int .i64 0, .string { data := #[] }, .slice none 0 0, .int .i64 ((i : Int) - 1 - y), .int .i64 0] by rw [hX2]; have h := (BNw2.out.set_ 6 (.int .i64 ((i : Int) - 1 - y))); simpa using h)
        have BSX2 := Lib.hid (BSw2.out.row kg (by omega))
        have BRX2 := Lib.hid (BRw2.out.row kg (by omega))
        have ONX2 := Lib.hid (ONw2.out.grown kg (fun k hk => by injection hk; omega))
        have SRX2 := Lib.hid (SRw2.out.row kg (by omega) (by omega))
        have SZX2 := Lib.hid (Nat.le_trans SZw2.out kg.size)
        clear kg BSw2 BRw2 BNw2 ONw2 SRw2 SZw2
        rw [← hX2]
        clear hX2
        clear n0 nf0 n1 nf1 n2 nf2 n3 nf3 n4 nf4 n5 nf5 n6 nf6 n7 nf7
        have bb := BNX2.out
        have n0 := bb.cell 0
        have nf0 := bb.frozen 0
        have n1 := bb.cell 1
        have nf1 := bb.frozen 1
        have n2 := bb.cell 2
        have nf2 := bb.frozen 2
        have n3 := bb.cell 3
        have nf3 := bb.frozen 3
        have n4 := bb.cell 4
        have nf4 := bb.frozen 4
        have n5 := bb.cell 5
        have nf5 := bb.frozen 5
        have n6 := bb.cell 6
        have nf6 := bb.frozen 6
        have n7 := bb.cell 7
        have nf7 := bb.frozen 7
        simp only [List.getElem?_toArray, List.getElem?_cons_zero, List.getElem?_cons_succ] at n0 n1 n2 n3 n4 n5 n6 n7
        clear bb
        by_cases h11 : o2 = 11
        · subst h11
          go_upto_region 8 with (fail)
          clear n0 nf0 n1 nf1 n2 nf2 n3 nf3 n4 nf4 n5 nf5 n6 nf6 n7 nf7
          have bb := BNX2.out
          have n0 := bb.cell 0
          have nf0 := bb.frozen 0
          have n1 := bb.cell 1
          have nf1 := bb.frozen 1
          have n2 := bb.cell 2
          have nf2 := bb.frozen 2
          have n3 := bb.cell 3
          have nf3 := bb.frozen 3
          have n4 := bb.cell 4
          have nf4 := bb.frozen 4
          have n5 := bb.cell 5
          have nf5 := bb.frozen 5
          have n6 := bb.cell 6
          have nf6 := bb.frozen 6
          have n7 := bb.cell 7
          have nf7 := bb.frozen 7
          simp only [List.getElem?_toArray, List.getElem?_cons_zero, List.getElem?_cons_succ] at n0 n1 n2 n3 n4 n5 n6 n7
          clear bb
          have bb := BRX2.out
          have r0 := bb.cell 0
          have rf0 := bb.frozen 0
          have r1 := bb.cell 1
          have rf1 := bb.frozen 1
          have r2 := bb.cell 2
          have rf2 := bb.frozen 2
          have r3 := bb.cell 3
          have rf3 := bb.frozen 3
          have r4 := bb.cell 4
          have rf4 := bb.frozen 4
          have r5 := bb.cell 5
          have rf5 := bb.frozen 5
          have r6 := bb.cell 6
          have rf6 := bb.frozen 6
          have r7 := bb.cell 7
          have rf7 := bb.frozen 7
          simp only [List.getElem?_toArray, List.getElem?_cons_zero, List.getElem?_cons_succ] at r0 r1 r2 r3 r4 r5 r6 r7
          clear bb
          go_wp2
          obtain ⟨XF, hXF⟩ : ∃ X0, X0 = ((((((((X2.setCell ⟨(w.heap.size + 1), 0, none⟩ (.int .i64 11)).setCell ⟨(w.heap.size + 1), 1, none⟩ (.int .i64 0)).setCell ⟨(w.heap.size + 1), 2, none⟩ (.bool false)).setCell ⟨(w.heap.size + 1), 3, none⟩ (.int .i64 0)).setCell ⟨(w.heap.size + 1), 4, none⟩ (.string { data := #[] })).setCell ⟨(w.heap.size + 1), 5, none⟩ (.slice none 0 0)).setCell ⟨(w.heap.size + 1), 6, none⟩ (.int .i64 ((i : Int) - 1 - y))).setCell ⟨(w.heap.size + 1), 7, none⟩ (.int .i64 0)) := ⟨_, rfl⟩
          have kg : X2.grownBy XF (some (w.heap.size + 1)) := by rw [hXF]; exact (grown_trans' (grown_trans' (grown_trans' (grown_trans' (grown_trans' (grown_trans' (grown_trans' (grownBy_set X2 ⟨(w.heap.size + 1), 0, none⟩ (.int .i64 11)) (grownBy_set _ ⟨(w.heap.size + 1), 1, none⟩ (.int .i64 0))) (grownBy_set _ ⟨(w.heap.size + 1), 2, none⟩ (.bool false))) (grownBy_set _ ⟨(w.heap.size + 1), 3, none⟩ (.int .i64 0))) (grownBy_set _ ⟨(w.heap.size + 1), 4, none⟩ (.string { data := #[] }))) (grownBy_set _ ⟨(w.heap.size + 1), 5, none⟩ (.slice none 0 0))) (grownBy_set _ ⟨(w.heap.size + 1), 6, none⟩ (.int .i64 ((i : Int) - 1 - y)))) (grownBy_set _ ⟨(w.heap.size + 1), 7, none⟩ (.int .i64 0)))
          have BRXF := Lib.hid (show Blk XF (w.heap.size + 1) 66 #[.int .i64 11, .int .i64 0, .bool false, .int .i64 0, .string { data := #[] }, .slice none 0 0, .int .i64 ((i : Int) - 1 - y), .int .i64 0] by rw [hXF]; have h := ((((((((BRX2.out.set_ 0 (.int .i64 11)).set_ 1 (.int .i64 0)).set_ 2 (.bool false)).set_ 3 (.int .i64 0)).set_ 4 (.string { data := #[] })).set_ 5 (.slice none 0 0)).set_ 6 (.int .i64 ((i : Int) - 1 - y))).set_ 7 (.int .i64 0)); simpa using h)
          have BSXF := Lib.hid (BSX2.out.row kg (by omega))
          have BNXF := Lib.hid (BNX2.out.row kg (by omega))
          have ONXF := Lib.hid (ONX2.out.grown kg (fun k hk => by injection hk; omega))
          have SRXF := Lib.hid (SRX2.out.row kg (by omega) (by omega))
          have SZXF := Lib.hid (Nat.le_trans SZX2.out kg.size)
          clear kg BSX2 BRX2 BNX2 ONX2 SRX2 SZX2
          rw [← hXF]
          clear hXF
          clear n0 nf0 n1 nf1 n2 nf2 n3 nf3 n4 nf4 n5 nf5 n6 nf6 n7 nf7
          clear r0 rf0 r1 rf1 r2 rf2 r3 rf3 r4 rf4 r5 rf5 r6 rf6 r7 rf7
          have bb := BRXF.out
          have r0 := bb.cell 0
          have rf0 := bb.frozen 0
          have r1 := bb.cell 1
          have rf1 := bb.frozen 1
          have r2 := bb.cell 2
          have rf2 := bb.frozen 2
          have r3 := bb.cell 3
          have rf3 := bb.frozen 3
          have r4 := bb.cell 4
          have rf4 := bb.frozen 4
          have r5 := bb.cell 5
          have rf5 := bb.frozen 5
          have r6 := bb.cell 6
          have rf6 := bb.frozen 6
          have r7 := bb.cell 7
          have rf7 := bb.frozen 7
          simp only [List.getElem?_toArray, List.getElem?_cons_zero, List.getElem?_cons_succ] at r0 r1 r2 r3 r4 r5 r6 r7
          clear bb
          exact bodyPost_ret (v := .agg #[.int .i64 11, .int .i64 0, .bool false, .int .i64 0, .string { data := #[] }, .slice none 0 0, .int .i64 ((i : Int) - 1 - y), .int .i64 0]) (by simp [results, Tryz.results36, go_sem, r0, r1, r2, r3, r4, r5, r6, r7]) rfl ⟨⟨11, 0, v0, [], (i : Int) - 1 - y, 0⟩, _, _, rfl, node_sub_ok h9 p2 (by omega) (by omega) (fun h => absurd rfl h), World.ownsRow_nil _ _ _ _, ONXF.out, SRXF.out⟩
        · have q11 : (o2 != 11) = true := by simpa using h11
          have yb1 := nxt_lo (i : Int) rest.tail.tail (by omega)
          have yb2 := nxt_hi (i : Int) rest.tail.tail (by omega)
          obtain ⟨z, hz⟩ : ∃ z, nxt (i : Int) rest.tail.tail = z := ⟨_, rfl⟩
          rw [hz] at yb1 yb2
          have hw3 : IntKind.i64.wrap ((i : Int) - 1 - z) = (i : Int) - 1 - z := IntWalk.i64_in _ (by omega)
          go_wp2_with fail
          clear n0 nf0 n1 nf1 n2 nf2 n3 nf3 n4 nf4 n5 nf5 n6 nf6 n7 nf7
          with_reducible refine (next_any B g (i : Int) rest.tail.tail X2 SRX2.out (by omega) (by omega)).mono ?_
          rintro _ w3 ⟨rfl, ho, hsx⟩
          have BSw3 := Lib.hid (BSX2.out.grown ho (by simp; omega))
          have BRw3 := Lib.hid (BRX2.out.grown ho (by simp; omega))
          have BNw3 := Lib.hid (BNX2.out.grown ho (by simp; omega))
          have ONw3 := Lib.hid (ONX2.out.trans ho)
          have SRw3 := Lib.hid hsx
          have SZw3 := Lib.hid (Nat.le_trans SZX2.out ho.size)
          clear ho hsx BSX2 BRX2 BNX2 ONX2 SRX2 SZX2
          rw [hz]
          clear hz
          have bb := BNw3.out
          have n0 := bb.cell 0
          have nf0 := bb.frozen 0
          have n1 := bb.cell 1
          have nf1 := bb.frozen 1
          have n2 := bb.cell 2
          have nf2 := bb.frozen 2
          have n3 := bb.cell 3
          have nf3 := bb.frozen 3
          have n4 := bb.cell 4
          have nf4 := bb.frozen 4
          have n5 := bb.cell 5
          have nf5 := bb.frozen 5
          have n6 := bb.cell 6
          have nf6 := bb.frozen 6
          have n7 := bb.cell 7
          have nf7 := bb.frozen 7
          simp only [List.getElem?_toArray, List.getElem?_cons_zero, List.getElem?_cons_succ] at n0 n1 n2 n3 n4 n5 n6 n7
          clear bb
          go_upto_region 8 with (fail)
          obtain ⟨X3, hX3⟩ : ∃ X0, X0 = (w3.setCell ⟨N, 7, none⟩ (.int .i64 ((i : Int) - 1 - z))) := ⟨_, rfl⟩
          have kg : w3.grownBy X3 (some N) := by rw [hX3]; exact (grownBy_set w3 ⟨N, 7, none⟩ (.int .i64 ((i : Int) - 1 - z)))
          have BNX3 := Lib.hid (show Blk X3 N 66 #[.int .i64 o2, .int .i64 0, .bool false, .int .i64 0, .string { data := #[] }, .slice none 0 0, .int .i64 ((i : Int) - 1 - y), .int .i64 ((i : Int) - 1 - z)] by rw [hX3]; have h := (BNw3.out.set_ 7 (.int .i64 ((i : Int) - 1 - z))); simpa using h)
          have BSX3 := Lib.hid (BSw3.out.row kg (by omega))
          have BRX3 := Lib.hid (BRw3.out.row kg (by omega))
          have ONX3 := Lib.hid (ONw3.out.grown kg (fun k hk => by injection hk; omega))
          have SRX3 := Lib.hid (SRw3.out.row kg (by omega) (by omega))
          have SZX3 := Lib.hid (Nat.le_trans SZw3.out kg.size)
          clear kg BSw3 BRw3 BNw3 ONw3 SRw3 SZw3
          rw [← hX3]
          clear hX3
          clear n0 nf0 n1 nf1 n2 nf2 n3 nf3 n4 nf4 n5 nf5 n6 nf6 n7 nf7
          have bb := BNX3.out
          have n0 := bb.cell 0
          have nf0 := bb.frozen 0
          have n1 := bb.cell 1
          have nf1 := bb.frozen 1
          have n2 := bb.cell 2
          have nf2 := bb.frozen 2
          have n3 := bb.cell 3
          have nf3 := bb.frozen 3
          have n4 := bb.cell 4
          have nf4 := bb.frozen 4
          have n5 := bb.cell 5
          have nf5 := bb.frozen 5
          have n6 := bb.cell 6
          have nf6 := bb.frozen 6
          have n7 := bb.cell 7
          have nf7 := bb.frozen 7
          simp only [List.getElem?_toArray, List.getElem?_cons_zero, List.getElem?_cons_succ] at n0 n1 n2 n3 n4 n5 n6 n7
          clear bb
          have bb := BRX3.out
          have r0 := bb.cell 0
          have rf0 := bb.frozen 0
          have r1 := bb.cell 1
          have rf1 := bb.frozen 1
          have r2 := bb.cell 2
          have rf2 := bb.frozen 2
          have r3 := bb.cell 3
          have rf3 := bb.frozen 3
          have r4 := bb.cell 4
          have rf4 := bb.frozen 4
          have r5 := bb.cell 5
          have rf5 := bb.frozen 5
          have r6 := bb.cell 6
          have rf6 := bb.frozen 6
          have r7 := bb.cell 7
          have rf7 := bb.frozen 7
          simp only [List.getElem?_toArray, List.getElem?_cons_zero, List.getElem?_cons_succ] at r0 r1 r2 r3 r4 r5 r6 r7
          clear bb
          go_wp2
          obtain ⟨XF, hXF⟩ : ∃ X0, X0 = ((((((((X3.setCell ⟨(w.heap.size + 1), 0, none⟩ (.int .i64 o2)).setCell ⟨(w.heap.size + 1), 1, none⟩ (.int .i64 0)).setCell ⟨(w.heap.size + 1), 2, none⟩ (.bool false)).setCell ⟨(w.heap.size + 1), 3, none⟩ (.int .i64 0)).setCell ⟨(w.heap.size + 1), 4, none⟩ (.string { data := #[] })).setCell ⟨(w.heap.size + 1), 5, none⟩ (.slice none 0 0)).setCell ⟨(w.heap.size + 1), 6, none⟩ (.int .i64 ((i : Int) - 1 - y))).setCell ⟨(w.heap.size + 1), 7, none⟩ (.int .i64 ((i : Int) - 1 - z))) := ⟨_, rfl⟩
          have kg : X3.grownBy XF (some (w.heap.size + 1)) := by rw [hXF]; exact (grown_trans' (grown_trans' (grown_trans' (grown_trans' (grown_trans' (grown_trans' (grown_trans' (grownBy_set X3 ⟨(w.heap.size + 1), 0, none⟩ (.int .i64 o2)) (grownBy_set _ ⟨(w.heap.size + 1), 1, none⟩ (.int .i64 0))) (grownBy_set _ ⟨(w.heap.size + 1), 2, none⟩ (.bool false))) (grownBy_set _ ⟨(w.heap.size + 1), 3, none⟩ (.int .i64 0))) (grownBy_set _ ⟨(w.heap.size + 1), 4, none⟩ (.string { data := #[] }))) (grownBy_set _ ⟨(w.heap.size + 1), 5, none⟩ (.slice none 0 0))) (grownBy_set _ ⟨(w.heap.size + 1), 6, none⟩ (.int .i64 ((i : Int) - 1 - y)))) (grownBy_set _ ⟨(w.heap.size + 1), 7, none⟩ (.int .i64 ((i : Int) - 1 - z))))
          have BRXF := Lib.hid (show Blk XF (w.heap.size + 1) 66 #[.int .i64 o2, .int .i64 0, .bool false, .int .i64 0, .string { data := #[] }, .slice none 0 0, .int .i64 ((i : Int) - 1 - y), .int .i64 ((i : Int) - 1 - z)] by rw [hXF]; have h := ((((((((BRX3.out.set_ 0 (.int .i64 o2)).set_ 1 (.int .i64 0)).set_ 2 (.bool false)).set_ 3 (.int .i64 0)).set_ 4 (.string { data := #[] })).set_ 5 (.slice none 0 0)).set_ 6 (.int .i64 ((i : Int) - 1 - y))).set_ 7 (.int .i64 ((i : Int) - 1 - z))); simpa using h)
          have BSXF := Lib.hid (BSX3.out.row kg (by omega))
          have BNXF := Lib.hid (BNX3.out.row kg (by omega))
          have ONXF := Lib.hid (ONX3.out.grown kg (fun k hk => by injection hk; omega))
          have SRXF := Lib.hid (SRX3.out.row kg (by omega) (by omega))
          have SZXF := Lib.hid (Nat.le_trans SZX3.out kg.size)
          clear kg BSX3 BRX3 BNX3 ONX3 SRX3 SZX3
          rw [← hXF]
          clear hXF
          clear n0 nf0 n1 nf1 n2 nf2 n3 nf3 n4 nf4 n5 nf5 n6 nf6 n7 nf7
          clear r0 rf0 r1 rf1 r2 rf2 r3 rf3 r4 rf4 r5 rf5 r6 rf6 r7 rf7
          have bb := BRXF.out
          have r0 := bb.cell 0
          have rf0 := bb.frozen 0
          have r1 := bb.cell 1
          have rf1 := bb.frozen 1
          have r2 := bb.cell 2
          have rf2 := bb.frozen 2
          have r3 := bb.cell 3
          have rf3 := bb.frozen 3
          have r4 := bb.cell 4
          have rf4 := bb.frozen 4
          have r5 := bb.cell 5
          have rf5 := bb.frozen 5
          have r6 := bb.cell 6
          have rf6 := bb.frozen 6
          have r7 := bb.cell 7
          have rf7 := bb.frozen 7
          simp only [List.getElem?_toArray, List.getElem?_cons_zero, List.getElem?_cons_succ] at r0 r1 r2 r3 r4 r5 r6 r7
          clear bb
          exact bodyPost_ret (v := .agg #[.int .i64 o2, .int .i64 0, .bool false, .int .i64 0, .string { data := #[] }, .slice none 0 0, .int .i64 ((i : Int) - 1 - y), .int .i64 ((i : Int) - 1 - z)]) (by simp [results, Tryz.results36, go_sem, r0, r1, r2, r3, r4, r5, r6, r7]) rfl ⟨⟨o2, 0, v0, [], (i : Int) - 1 - y, (i : Int) - 1 - z⟩, _, _, rfl, node_sub_ok h9 p2 (by omega) (by omega) (fun _ => ⟨by omega, by omega⟩), World.ownsRow_nil _ _ _ _, ONXF.out, SRXF.out⟩
      · have q1 : decide (9 ≤ o2) = false := by simpa using h9
        have hKl := nxt_lo (cs.length : Int) rest.tail (by omega)
        have hKh := nxt_hi (cs.length : Int) rest.tail (by omega)
        obtain ⟨KC, hK⟩ : ∃ KC : Nat, nxt (cs.length : Int) rest.tail = KC := ⟨(nxt (cs.length : Int) rest.tail).toNat, by omega⟩
        rw [hK] at hKl hKh
        have hKn : KC < cs.length := by omega
        have bb := BSwc.out
        have s0 := bb.cell 0
        have sf0 := bb.frozen 0
        have s1 := bb.cell 1
        have sf1 := bb.frozen 1
        simp only [List.getElem?_toArray, List.getElem?_cons_zero, List.getElem?_cons_succ] at s0 s1
        clear bb
        go_wp2_with fail
        clear n0 nf0 n1 nf1 n2 nf2 n3 nf3 n4 nf4 n5 nf5 n6 nf6 n7 nf7
        clear s0 sf0 s1 sf1
        with_reducible refine (next_any B g (cs.length : Int) rest.tail wc SRwc.out (by omega) (by omega)).mono ?_
        rintro _ w2 ⟨rfl, ho, hsx⟩
        have BSw2 := Lib.hid (BSwc.out.grown ho (by simp; omega))
        have BRw2 := Lib.hid (BRwc.out.grown ho (by simp; omega))
        have BNw2 := Lib.hid (BNwc.out.grown ho (by simp; omega))
        have ONw2 := Lib.hid (ONwc.out.trans ho)
        have SRw2 := Lib.hid hsx
        have SZw2 := Lib.hid (Nat.le_trans SZwc.out ho.size)
        clear ho hsx BSwc BRwc BNwc ONwc SRwc SZwc
        rw [hK]
        clear hK hKl hKh
        have bb := BNw2.out
        have n0 := bb.cell 0
        have nf0 := bb.frozen 0
        have n1 := bb.cell 1
        have nf1 := bb.frozen 1
        have n2 := bb.cell 2
        have nf2 := bb.frozen 2
        have n3 := bb.cell 3
        have nf3 := bb.frozen 3
        have n4 := bb.cell 4
        have nf4 := bb.frozen 4
        have n5 := bb.cell 5
        have nf5 := bb.frozen 5
        have n6 := bb.cell 6
        have nf6 := bb.frozen 6
        have n7 := bb.cell 7
        have nf7 := bb.frozen 7
        simp only [List.getElem?_toArray, List.getElem?_cons_zero, List.getElem?_cons_succ] at n0 n1 n2 n3 n4 n5 n6 n7
        clear bb
        go_upto_region 10 with (fail)
        obtain ⟨X2, hX2⟩ : ∃ X0, X0 = (w2.setCell ⟨N, 1, none⟩ (.int .i64 KC)) := ⟨_, rfl⟩
        have kg : w2.grownBy X2 (some N) := by rw [hX2]; exact (grownBy_set w2 ⟨N, 1, none⟩ (.int .i64 KC))
        have BNX2 := Lib.hid (show Blk X2 N 66 #[.int .i64 o2, .int .i64 KC, .bool false, .int .i64 0, .string { data := #[] }, .slice none 0 0, .int .i64 0, .int .i64 0] by rw [hX2]; have h := (BNw2.out.set_ 1 (.int .i64 KC)); simpa using h)
        have BSX2 := Lib.hid (BSw2.out.row kg (by omega))
        have BRX2 := Lib.hid (BRw2.out.row kg (by omega))
        have ONX2 := Lib.hid (ONw2.out.grown kg (fun k hk => by injection hk; omega))
        have SRX2 := Lib.hid (SRw2.out.row kg (by omega) (by omega))
        have SZX2 := Lib.hid (Nat.le_trans SZw2.out kg.size)
        clear kg BSw2 BRw2 BNw2 ONw2 SRw2 SZw2
        rw [← hX2]
        clear hX2
        clear n0 nf0 n1 nf1 n2 nf2 n3 nf3 n4 nf4 n5 nf5 n6 nf6 n7 nf7
        have bb := BNX2.out
        have n0 := bb.cell 0
        have nf0 := bb.frozen 0
        have n1 := bb.cell 1
        have nf1 := bb.frozen 1
        have n2 := bb.cell 2
        have nf2 := bb.frozen 2
        have n3 := bb.cell 3
        have nf3 := bb.frozen 3
        have n4 := bb.cell 4
        have nf4 := bb.frozen 4
        have n5 := bb.cell 5
        have nf5 := bb.frozen 5
        have n6 := bb.cell 6
        have nf6 := bb.frozen 6
        have n7 := bb.cell 7
        have nf7 := bb.frozen 7
        simp only [List.getElem?_toArray, List.getElem?_cons_zero, List.getElem?_cons_succ] at n0 n1 n2 n3 n4 n5 n6 n7
        clear bb
        have bb := BSX2.out
        have s0 := bb.cell 0
        have sf0 := bb.frozen 0
        have s1 := bb.cell 1
        have sf1 := bb.frozen 1
        simp only [List.getElem?_toArray, List.getElem?_cons_zero, List.getElem?_cons_succ] at s0 s1
        clear bb
        have q6 : decide (KC < cs.length) = true := decide_eq_true hKn
        obtain ⟨ad, c, pc, rfl, hc, hpc, hE⟩ := (HSL.out.below (below_only HB0.out (ONX2.out) (by omega) HB0.out.size)).col_load rfl hKn
        obtain ⟨hplt, c0, c1, c2, c3⟩ := hE
        have HC := Lib.hid hc
        have HT := Lib.hid (HCV.out c (List.mem_of_getElem? hc))
        clear hc
        obtain ⟨M, hM⟩ : ∃ M, X2.heap.size = M := ⟨_, rfl⟩
        have hNM : N < M := by rw [← hM]; exact SZX2.out
        obtain ⟨X, hX⟩ : ∃ X, X = X2.alloc (.cells #[.string c.nm, .int .i64 c.ty, .int .i64 c.sc, .bool c.nu] 56) := ⟨_, rfl⟩
        have BCX := Lib.hid (show Blk X M 56 #[.string c.nm, .int .i64 c.ty, .int .i64 c.sc, .bool c.nu] by rw [hX, ← hM]; exact Blk.new _ _ _)
        have BSX := Lib.hid (show Blk X w.heap.size 28 #[.slice (some ad) cs.length cA, .int .i64 key] by rw [hX]; exact BSX2.out.alloc _)
        have BRX := Lib.hid (show Blk X (w.heap.size + 1) 66 #[.int .i64 0, .int .i64 0, .bool false, .int .i64 0, .string { data := #[] }, .slice none 0 0, .int .i64 0, .int .i64 0] by rw [hX]; exact BRX2.out.alloc _)
        have BNX := Lib.hid (show Blk X N 66 #[.int .i64 o2, .int .i64 KC, .bool false, .int .i64 0, .string { data := #[] }, .slice none 0 0, .int .i64 0, .int .i64 0] by rw [hX]; exact BNX2.out.alloc _)
        have SRX := Lib.hid (show Src X B 97 g rest.tail.tail by rw [hX]; exact SRX2.out.alloc _)
        have ONX := Lib.hid (show Only g w X by rw [hX]; exact ONX2.out.alloc _)
        have SZX := Lib.hid (show M < X.heap.size by rw [hX, ← hM]; simp)
        go_upto_region 11 with (fail)
        rw [← hX]
        try simp only [hM]
        clear hX hM c0 c1 c2 c3 hpc hplt q6 BNX2 BSX2 BRX2 SRX2 ONX2 SZX2
        clear n0 nf0 n1 nf1 n2 nf2 n3 nf3 n4 nf4 n5 nf5 n6 nf6 n7 nf7
        clear s0 sf0 s1 sf1
        have bb := BNX.out
        have n0 := bb.cell 0
        have nf0 := bb.frozen 0
        have n1 := bb.cell 1
        have nf1 := bb.frozen 1
        have n2 := bb.cell 2
        have nf2 := bb.frozen 2
        have n3 := bb.cell 3
        have nf3 := bb.frozen 3
        have n4 := bb.cell 4
        have nf4 := bb.frozen 4
        have n5 := bb.cell 5
        have nf5 := bb.frozen 5
        have n6 := bb.cell 6
        have nf6 := bb.frozen 6
        have n7 := bb.cell 7
        have nf7 := bb.frozen 7
        simp only [List.getElem?_toArray, List.getElem?_cons_zero, List.getElem?_cons_succ] at n0 n1 n2 n3 n4 n5 n6 n7
        clear bb
        by_cases h6 : o2 ≤ 6
        · have q7 : decide (o2 ≤ 6) = true := by simpa using h6
          have bb := BCX.out
          have c0 := bb.cell 0
          have cf0 := bb.frozen 0
          have c1 := bb.cell 1
          have cf1 := bb.frozen 1
          have c2 := bb.cell 2
          have cf2 := bb.frozen 2
          have c3 := bb.cell 3
          have cf3 := bb.frozen 3
          simp only [List.getElem?_toArray, List.getElem?_cons_zero, List.getElem?_cons_succ] at c0 c1 c2 c3
          clear bb
          go_upto_region 13 with (fail)
          obtain ⟨X3, hX3⟩ : ∃ X0, X0 = (X.setCell ⟨M, 3, none⟩ (.bool false)) := ⟨_, rfl⟩
          have kg : X.grownBy X3 (some M) := by rw [hX3]; exact (grownBy_set X ⟨M, 3, none⟩ (.bool false))
          have BCX3 := Lib.hid (show Blk X3 M 56 #[.string c.nm, .int .i64 c.ty, .int .i64 c.sc, .bool false] by rw [hX3]; have h := (BCX.out.set_ 3 (.bool false)); simpa using h)
          have BSX3 := Lib.hid (BSX.out.row kg (by omega))
          have BRX3 := Lib.hid (BRX.out.row kg (by omega))
          have BNX3 := Lib.hid (BNX.out.row kg (by omega))
          have ONX3 := Lib.hid (ONX.out.grown kg (fun k hk => by injection hk; omega))
          have SRX3 := Lib.hid (SRX.out.row kg (by omega) (by omega))
          have SZX3 := Lib.hid (Nat.le_trans SZX.out kg.size)
          clear kg BSX BRX BNX BCX ONX SRX SZX
          rw [← hX3]
          clear hX3
          clear n0 nf0 n1 nf1 n2 nf2 n3 nf3 n4 nf4 n5 nf5 n6 nf6 n7 nf7
          clear c0 cf0 c1 cf1 c2 cf2 c3 cf3
          have bb := BCX3.out
          have c0 := bb.cell 0
          have cf0 := bb.frozen 0
          have c1 := bb.cell 1
          have cf1 := bb.frozen 1
          have c2 := bb.cell 2
          have cf2 := bb.frozen 2
          have c3 := bb.cell 3
          have cf3 := bb.frozen 3
          simp only [List.getElem?_toArray, List.getElem?_cons_zero, List.getElem?_cons_succ] at c0 c1 c2 c3
          clear bb
          go_wp2_with fail
          clear c0 cf0 c1 cf1 c2 cf2 c3 cf3
          with_reducible refine (value_any B g c.nm c.ty c.sc false _ X3 SRX3.out HT.out.1 HT.out.2).mono ?_
          rintro _ w4 ⟨b, vn, vs, r4, rfl, hok, ho, hsx⟩
          have BSw4 := Lib.hid (BSX3.out.grown ho (by simp; omega))
          have BRw4 := Lib.hid (BRX3.out.grown ho (by simp; omega))
          have BNw4 := Lib.hid (BNX3.out.grown ho (by simp; omega))
          have BCw4 := Lib.hid (BCX3.out.grown ho (by simp; omega))
          have ONw4 := Lib.hid (ONX3.out.trans ho)
          have SRw4 := Lib.hid hsx
          have SZw4 := Lib.hid (Nat.le_trans SZX3.out ho.size)
          clear ho hsx BSX3 BRX3 BNX3 BCX3 ONX3 SRX3 SZX3
          have HOK := Lib.hid hok
          clear hok
          have bb := BNw4.out
          have n0 := bb.cell 0
          have nf0 := bb.frozen 0
          have n1 := bb.cell 1
          have nf1 := bb.frozen 1
          have n2 := bb.cell 2
          have nf2 := bb.frozen 2
          have n3 := bb.cell 3
          have nf3 := bb.frozen 3
          have n4 := bb.cell 4
          have nf4 := bb.frozen 4
          have n5 := bb.cell 5
          have nf5 := bb.frozen 5
          have n6 := bb.cell 6
          have nf6 := bb.frozen 6
          have n7 := bb.cell 7
          have nf7 := bb.frozen 7
          simp only [List.getElem?_toArray, List.getElem?_cons_zero, List.getElem?_cons_succ] at n0 n1 n2 n3 n4 n5 n6 n7
          clear bb
          go_upto_region 14 with (fail)
          obtain ⟨X5, hX5⟩ : ∃ X0, X0 = (((w4.setCell ⟨N, 2, none⟩ (.bool b)).setCell ⟨N, 3, none⟩ (.int .i64 vn)).setCell ⟨N, 4, none⟩ (.string vs)) := ⟨_, rfl⟩
          have kg : w4.grownBy X5 (some N) := by rw [hX5]; exact (grown_trans' (grown_trans' (grownBy_set w4 ⟨N, 2, none⟩ (.bool b)) (grownBy_set _ ⟨N, 3, none⟩ (.int .i64 vn))) (grownBy_set _ ⟨N, 4, none⟩ (.string vs)))
          have BNX5 := Lib.hid (show Blk X5 N 66 #[.int .i64 o2, .int .i64 KC, .bool b, .int .i64 vn, .string vs, .slice none 0 0, .int .i64 0, .int .i64 0] by rw [hX5]; have h := (((BNw4.out.set_ 2 (.bool b)).set_ 3 (.int .i64 vn)).set_ 4 (.string vs)); simpa using h)
          have BSX5 := Lib.hid (BSw4.out.row kg (by omega))
          have BRX5 := Lib.hid (BRw4.out.row kg (by omega))
          have BCX5 := Lib.hid (BCw4.out.row kg (by omega))
          have ONX5 := Lib.hid (ONw4.out.grown kg (fun k hk => by injection hk; omega))
          have SRX5 := Lib.hid (SRw4.out.row kg (by omega) (by omega))
          have SZX5 := Lib.hid (Nat.le_trans SZw4.out kg.size)
          clear kg BSw4 BRw4 BNw4 BCw4 ONw4 SRw4 SZw4
          rw [← hX5]
          clear hX5
          clear n0 nf0 n1 nf1 n2 nf2 n3 nf3 n4 nf4 n5 nf5 n6 nf6 n7 nf7
          have bb := BNX5.out
          have n0 := bb.cell 0
          have nf0 := bb.frozen 0
          have n1 := bb.cell 1
          have nf1 := bb.frozen 1
          have n2 := bb.cell 2
          have nf2 := bb.frozen 2
          have n3 := bb.cell 3
          have nf3 := bb.frozen 3
          have n4 := bb.cell 4
          have nf4 := bb.frozen 4
          have n5 := bb.cell 5
          have nf5 := bb.frozen 5
          have n6 := bb.cell 6
          have nf6 := bb.frozen 6
          have n7 := bb.cell 7
          have nf7 := bb.frozen 7
          simp only [List.getElem?_toArray, List.getElem?_cons_zero, List.getElem?_cons_succ] at n0 n1 n2 n3 n4 n5 n6 n7
          clear bb
          have bb := BRX5.out
          have r0 := bb.cell 0
          have rf0 := bb.frozen 0
          have r1 := bb.cell 1
          have rf1 := bb.frozen 1
          have r2 := bb.cell 2
          have rf2 := bb.frozen 2
          have r3 := bb.cell 3
          have rf3 := bb.frozen 3
          have r4 := bb.cell 4
          have rf4 := bb.frozen 4
          have r5 := bb.cell 5
          have rf5 := bb.frozen 5
          have r6 := bb.cell 6
          have rf6 := bb.frozen 6
          have r7 := bb.cell 7
          have rf7 := bb.frozen 7
          simp only [List.getElem?_toArray, List.getElem?_cons_zero, List.getElem?_cons_succ] at r0 r1 r2 r3 r4 r5 r6 r7
          clear bb
          go_wp2
          obtain ⟨XF, hXF⟩ : ∃ X0, X0 = ((((((((X5.setCell ⟨(w.heap.size + 1), 0, none⟩ (.int .i64 o2)).setCell ⟨(w.heap.size + 1), 1, none⟩ (.int .i64 KC)).setCell ⟨(w.heap.size + 1), 2, none⟩ (.bool b)).setCell ⟨(w.heap.size + 1), 3, none⟩ (.int .i64 vn)).setCell ⟨(w.heap.size + 1), 4, none⟩ (.string vs)).setCell ⟨(w.heap.size + 1), 5, none⟩ (.slice none 0 0)).setCell ⟨(w.heap.size + 1), 6, none⟩ (.int .i64 0)).setCell ⟨(w.heap.size + 1), 7, none⟩ (.int .i64 0)) := ⟨_, rfl⟩
          have kg : X5.grownBy XF (some (w.heap.size + 1)) := by rw [hXF]; exact (grown_trans' (grown_trans' (grown_trans' (grown_trans' (grown_trans' (grown_trans' (grown_trans' (grownBy_set X5 ⟨(w.heap.size + 1), 0, none⟩ (.int .i64 o2)) (grownBy_set _ ⟨(w.heap.size + 1), 1, none⟩ (.int .i64 KC))) (grownBy_set _ ⟨(w.heap.size + 1), 2, none⟩ (.bool b))) (grownBy_set _ ⟨(w.heap.size + 1), 3, none⟩ (.int .i64 vn))) (grownBy_set _ ⟨(w.heap.size + 1), 4, none⟩ (.string vs))) (grownBy_set _ ⟨(w.heap.size + 1), 5, none⟩ (.slice none 0 0))) (grownBy_set _ ⟨(w.heap.size + 1), 6, none⟩ (.int .i64 0))) (grownBy_set _ ⟨(w.heap.size + 1), 7, none⟩ (.int .i64 0)))
          have BRXF := Lib.hid (show Blk XF (w.heap.size + 1) 66 #[.int .i64 o2, .int .i64 KC, .bool b, .int .i64 vn, .string vs, .slice none 0 0, .int .i64 0, .int .i64 0] by rw [hXF]; have h := ((((((((BRX5.out.set_ 0 (.int .i64 o2)).set_ 1 (.int .i64 KC)).set_ 2 (.bool b)).set_ 3 (.int .i64 vn)).set_ 4 (.string vs)).set_ 5 (.slice none 0 0)).set_ 6 (.int .i64 0)).set_ 7 (.int .i64 0)); simpa using h)
          have BSXF := Lib.hid (BSX5.out.row kg (by omega))
          have BNXF := Lib.hid (BNX5.out.row kg (by omega))
          have BCXF := Lib.hid (BCX5.out.row kg (by omega))
          have ONXF := Lib.hid (ONX5.out.grown kg (fun k hk => by injection hk; omega))
          have SRXF := Lib.hid (SRX5.out.row kg (by omega) (by omega))
          have SZXF := Lib.hid (Nat.le_trans SZX5.out kg.size)
          clear kg BSX5 BRX5 BNX5 BCX5 ONX5 SRX5 SZX5
          rw [← hXF]
          clear hXF
          clear n0 nf0 n1 nf1 n2 nf2 n3 nf3 n4 nf4 n5 nf5 n6 nf6 n7 nf7
          clear r0 rf0 r1 rf1 r2 rf2 r3 rf3 r4 rf4 r5 rf5 r6 rf6 r7 rf7
          have bb := BRXF.out
          have r0 := bb.cell 0
          have rf0 := bb.frozen 0
          have r1 := bb.cell 1
          have rf1 := bb.frozen 1
          have r2 := bb.cell 2
          have rf2 := bb.frozen 2
          have r3 := bb.cell 3
          have rf3 := bb.frozen 3
          have r4 := bb.cell 4
          have rf4 := bb.frozen 4
          have r5 := bb.cell 5
          have rf5 := bb.frozen 5
          have r6 := bb.cell 6
          have rf6 := bb.frozen 6
          have r7 := bb.cell 7
          have rf7 := bb.frozen 7
          simp only [List.getElem?_toArray, List.getElem?_cons_zero, List.getElem?_cons_succ] at r0 r1 r2 r3 r4 r5 r6 r7
          clear bb
          exact bodyPost_ret (v := .agg #[.int .i64 o2, .int .i64 KC, .bool b, .int .i64 vn, .string vs, .slice none 0 0, .int .i64 0, .int .i64 0]) (by simp [results, Tryz.results36, go_sem, r0, r1, r2, r3, r4, r5, r6, r7]) rfl ⟨⟨o2, KC, ⟨b, vn, vs⟩, [], 0, 0⟩, _, _, rfl, node_cmp_ok p1 h6 HC.out HOK.out HT.out.1 HT.out.2, World.ownsRow_nil _ _ _ _, ONXF.out, SRXF.out⟩
        · have q7 : decide (o2 ≤ 6) = false := by simpa using h6
          by_cases h8 : o2 = 8
          · subst h8
            go_upto_region 21 with (fail)
            clear n0 nf0 n1 nf1 n2 nf2 n3 nf3 n4 nf4 n5 nf5 n6 nf6 n7 nf7
            have bb := BNX.out
            have n0 := bb.cell 0
            have nf0 := bb.frozen 0
            have n1 := bb.cell 1
            have nf1 := bb.frozen 1
            have n2 := bb.cell 2
            have nf2 := bb.frozen 2
            have n3 := bb.cell 3
            have nf3 := bb.frozen 3
            have n4 := bb.cell 4
            have nf4 := bb.frozen 4
            have n5 := bb.cell 5
            have nf5 := bb.frozen 5
            have n6 := bb.cell 6
            have nf6 := bb.frozen 6
            have n7 := bb.cell 7
            have nf7 := bb.frozen 7
            simp only [List.getElem?_toArray, List.getElem?_cons_zero, List.getElem?_cons_succ] at n0 n1 n2 n3 n4 n5 n6 n7
            clear bb
            have bb := BRX.out
            have r0 := bb.cell 0
            have rf0 := bb.frozen 0
            have r1 := bb.cell 1
            have rf1 := bb.frozen 1
            have r2 := bb.cell 2
            have rf2 := bb.frozen 2
            have r3 := bb.cell 3
            have rf3 := bb.frozen 3
            have r4 := bb.cell 4
            have rf4 := bb.frozen 4
            have r5 := bb.cell 5
            have rf5 := bb.frozen 5
            have r6 := bb.cell 6
            have rf6 := bb.frozen 6
            have r7 := bb.cell 7
            have rf7 := bb.frozen 7
            simp only [List.getElem?_toArray, List.getElem?_cons_zero, List.getElem?_cons_succ] at r0 r1 r2 r3 r4 r5 r6 r7
            clear bb
            go_wp2
            obtain ⟨XF, hXF⟩ : ∃ X0, X0 = ((((((((X.setCell ⟨(w.heap.size + 1), 0, none⟩ (.int .i64 8)).setCell ⟨(w.heap.size + 1), 1, none⟩ (.int .i64 KC)).setCell ⟨(w.heap.size + 1), 2, none⟩ (.bool false)).setCell ⟨(w.heap.size + 1), 3, none⟩ (.int .i64 0)).setCell ⟨(w.heap.size + 1), 4, none⟩ (.string { data := #[] })).setCell ⟨(w.heap.size + 1), 5, none⟩ (.slice none 0 0)).setCell ⟨(w.heap.size + 1), 6, none⟩ (.int .i64 0)).setCell ⟨(w.heap.size + 1), 7, none⟩ (.int .i64 0)) := ⟨_, rfl⟩
            have kg : X.grownBy XF (some (w.heap.size + 1)) := by rw [hXF]; exact (grown_trans' (grown_trans' (grown_trans' (grown_trans' (grown_trans' (grown_trans' (grown_trans' (grownBy_set X ⟨(w.heap.size + 1), 0, none⟩ (.int .i64 8)) (grownBy_set _ ⟨(w.heap.size + 1), 1, none⟩ (.int .i64 KC))) (grownBy_set _ ⟨(w.heap.size + 1), 2, none⟩ (.bool false))) (grownBy_set _ ⟨(w.heap.size + 1), 3, none⟩ (.int .i64 0))) (grownBy_set _ ⟨(w.heap.size + 1), 4, none⟩ (.string { data := #[] }))) (grownBy_set _ ⟨(w.heap.size + 1), 5, none⟩ (.slice none 0 0))) (grownBy_set _ ⟨(w.heap.size + 1), 6, none⟩ (.int .i64 0))) (grownBy_set _ ⟨(w.heap.size + 1), 7, none⟩ (.int .i64 0)))
            have BRXF := Lib.hid (show Blk XF (w.heap.size + 1) 66 #[.int .i64 8, .int .i64 KC, .bool false, .int .i64 0, .string { data := #[] }, .slice none 0 0, .int .i64 0, .int .i64 0] by rw [hXF]; have h := ((((((((BRX.out.set_ 0 (.int .i64 8)).set_ 1 (.int .i64 KC)).set_ 2 (.bool false)).set_ 3 (.int .i64 0)).set_ 4 (.string { data := #[] })).set_ 5 (.slice none 0 0)).set_ 6 (.int .i64 0)).set_ 7 (.int .i64 0)); simpa using h)
            have BSXF := Lib.hid (BSX.out.row kg (by omega))
            have BNXF := Lib.hid (BNX.out.row kg (by omega))
            have BCXF := Lib.hid (BCX.out.row kg (by omega))
            have ONXF := Lib.hid (ONX.out.grown kg (fun k hk => by injection hk; omega))
            have SRXF := Lib.hid (SRX.out.row kg (by omega) (by omega))
            have SZXF := Lib.hid (Nat.le_trans SZX.out kg.size)
            clear kg BSX BRX BNX BCX ONX SRX SZX
            rw [← hXF]
            clear hXF
            clear n0 nf0 n1 nf1 n2 nf2 n3 nf3 n4 nf4 n5 nf5 n6 nf6 n7 nf7
            clear r0 rf0 r1 rf1 r2 rf2 r3 rf3 r4 rf4 r5 rf5 r6 rf6 r7 rf7
            have bb := BRXF.out
            have r0 := bb.cell 0
            have rf0 := bb.frozen 0
            have r1 := bb.cell 1
            have rf1 := bb.frozen 1
            have r2 := bb.cell 2
            have rf2 := bb.frozen 2
            have r3 := bb.cell 3
            have rf3 := bb.frozen 3
            have r4 := bb.cell 4
            have rf4 := bb.frozen 4
            have r5 := bb.cell 5
            have rf5 := bb.frozen 5
            have r6 := bb.cell 6
            have rf6 := bb.frozen 6
            have r7 := bb.cell 7
            have rf7 := bb.frozen 7
            simp only [List.getElem?_toArray, List.getElem?_cons_zero, List.getElem?_cons_succ] at r0 r1 r2 r3 r4 r5 r6 r7
            clear bb
            exact bodyPost_ret (v := .agg #[.int .i64 8, .int .i64 KC, .bool false, .int .i64 0, .string { data := #[] }, .slice none 0 0, .int .i64 0, .int .i64 0]) (by simp [results, Tryz.results36, go_sem, r0, r1, r2, r3, r4, r5, r6, r7]) rfl ⟨⟨8, KC, v0, [], 0, 0⟩, _, _, rfl, node_null_ok HC.out, World.ownsRow_nil _ _ _ _, ONXF.out, SRXF.out⟩
          · obtain rfl : o2 = 7 := by omega
            clear h8 h6 h9 q7 q1
            go_wp2_with fail
            clear n0 nf0 n1 nf1 n2 nf2 n3 nf3 n4 nf4 n5 nf5 n6 nf6 n7 nf7
            with_reducible refine (next_any B g 3 _ X SRX.out (by omega) (by omega)).mono ?_
            rintro _ w3 ⟨rfl, ho, hsx⟩
            have BSw3 := Lib.hid (BSX.out.grown ho (by simp; omega))
            have BRw3 := Lib.hid (BRX.out.grown ho (by simp; omega))
            have BNw3 := Lib.hid (BNX.out.grown ho (by simp; omega))
            have BCw3 := Lib.hid (BCX.out.grown ho (by simp; omega))
            have ONw3 := Lib.hid (ONX.out.trans ho)
            have SRw3 := Lib.hid hsx
            have SZw3 := Lib.hid (Nat.le_trans SZX.out ho.size)
            clear ho hsx BSX BRX BNX BCX ONX SRX SZX
            obtain ⟨t, ht⟩ : ∃ t : Bool, (nxt 3 rest.tail.tail == 0) = t := ⟨_, rfl⟩
            have bb := BCw3.out
            have c0 := bb.cell 0
            have cf0 := bb.frozen 0
            have c1 := bb.cell 1
            have cf1 := bb.frozen 1
            have c2 := bb.cell 2
            have cf2 := bb.frozen 2
            have c3 := bb.cell 3
            have cf3 := bb.frozen 3
            simp only [List.getElem?_toArray, List.getElem?_cons_zero, List.getElem?_cons_succ] at c0 c1 c2 c3
            clear bb
            go_upto_region 17 with (fail)
            try rw [ht]
            clear ht
            obtain ⟨X4, hX4⟩ : ∃ X0, X0 = (w3.setCell ⟨M, 3, none⟩ (.bool t)) := ⟨_, rfl⟩
            have kg : w3.grownBy X4 (some M) := by rw [hX4]; exact (grownBy_set w3 ⟨M, 3, none⟩ (.bool t))
            have BCX4 := Lib.hid (show Blk X4 M 56 #[.string c.nm, .int .i64 c.ty, .int .i64 c.sc, .bool t] by rw [hX4]; have h := (BCw3.out.set_ 3 (.bool t)); simpa using h)
            have BSX4 := Lib.hid (BSw3.out.row kg (by omega))
            have BRX4 := Lib.hid (BRw3.out.row kg (by omega))
            have BNX4 := Lib.hid (BNw3.out.row kg (by omega))
            have ONX4 := Lib.hid (ONw3.out.grown kg (fun k hk => by injection hk; omega))
            have SRX4 := Lib.hid (SRw3.out.row kg (by omega) (by omega))
            have SZX4 := Lib.hid (Nat.le_trans SZw3.out kg.size)
            clear kg BSw3 BRw3 BNw3 BCw3 ONw3 SRw3 SZw3
            try rw [← hX4]
            clear hX4
            clear c0 cf0 c1 cf1 c2 cf2 c3 cf3
            go_wp2_with fail
            with_reducible refine (next_any B g 4 _ X4 SRX4.out (by omega) (by omega)).mono ?_
            rintro _ w5 ⟨rfl, ho, hsx⟩
            have BSw5 := Lib.hid (BSX4.out.grown ho (by simp; omega))
            have BRw5 := Lib.hid (BRX4.out.grown ho (by simp; omega))
            have BNw5 := Lib.hid (BNX4.out.grown ho (by simp; omega))
            have BCw5 := Lib.hid (BCX4.out.grown ho (by simp; omega))
            have ONw5 := Lib.hid (ONX4.out.trans ho)
            have SRw5 := Lib.hid hsx
            have SZw5 := Lib.hid (Nat.le_trans SZX4.out ho.size)
            clear ho hsx BSX4 BRX4 BNX4 BCX4 ONX4 SRX4 SZX4
            have y1 := nxt_lo 4 rest.tail.tail.tail (by omega)
            have y2 := nxt_hi 4 rest.tail.tail.tail (by omega)
            obtain ⟨k4, hk4⟩ : ∃ k4 : Nat, 1 + nxt 4 rest.tail.tail.tail = k4 := ⟨(1 + nxt 4 rest.tail.tail.tail).toNat, by omega⟩
            have hw4 : IntKind.i64.wrap (1 + nxt 4 rest.tail.tail.tail) = (k4 : Int) := by rw [hk4]; exact IntWalk.i64_in _ (by omega)
            have k41 : 1 ≤ k4 := by omega
            have k44 : k4 ≤ 4 := by omega
            clear y1 y2 hk4
            go_wp2_with fail
            go_loopw [9] (fun n wr => ∃ (k : Nat) (l : List Vl) (lu : Value) (r : List Int), n = .int .i64 k ∧ l.length + k = k4 ∧ (∀ y ∈ l, ValOk c.ty true y.nu y.n y.s) ∧ Blk wr N 66 #[.int .i64 7, .int .i64 KC, .bool false, .int .i64 0, .string { data := #[] }, lu, .int .i64 0, .int .i64 0] ∧ Blk wr w.heap.size 28 #[.slice (some ad) cs.length cA, .int .i64 key] ∧ Blk wr (w.heap.size + 1) 66 #[.int .i64 0, .int .i64 0, .bool false, .int .i64 0, .string { data := #[] }, .slice none 0 0, .int .i64 0, .int .i64 0] ∧ Blk wr M 56 #[.string c.nm, .int .i64 c.ty, .int .i64 c.sc, .bool t] ∧ wr.ownsRow w.heap.size 64 3 lu l.length (vls l) ∧ Only g w wr ∧ Src wr B 97 g r ∧ M < wr.heap.size) (fun n _ => (intOf n).toNat)
            case atStart => exact ⟨k4, [], .slice none 0 0, _, rfl, by simp, nofun, BNw5.out, BSw5.out, BRw5.out, BCw5.out, World.ownsRow_nil _ _ _ _, ONw5.out, SRw5.out, SZw5.out⟩
            case round =>
              clear BNw5 BSw5 BRw5 BCw5 ONw5 SRw5 SZw5 hw4
              obtain ⟨k, l, lu, r, rfl, hlk, hok, bN, bS, bR, bC, hown, hon, hsr, hsz⟩ := hrel
              obtain ⟨A2, c2, rfl, hl1, hl2⟩ := (Sl.of_own hown).form
              have HLK := Lib.hid hlk
              have hk4 : k ≤ 4 := by omega
              have hl4 : l.length ≤ 4 := by omega
              have HOK := Lib.hid hok
              have BNwr := Lib.hid bN
              have BSwr := Lib.hid bS
              have BRwr := Lib.hid bR
              have BCwr := Lib.hid bC
              have OVwr := Lib.hid hown
              have ONwr := Lib.hid hon
              have SRwr := Lib.hid hsr
              have SZwr := Lib.hid hsz
              clear hlk hok bN bS bR bC hown hon hsr hsz
              by_cases hk0 : 0 < k
              · have hkw : IntKind.i64.wrap ((k : Int) - 1) = (k : Int) - 1 := IntWalk.i64_in _ (by omega)
                go_upto_region 20 with (fail)
                refine wp_region_inv (by kernel_rfl) (by kernel_rfl) (fun L a w' => ∃ u82 u83 u84 u85 u86 u87 u88 u89 : Value, a = ⟨#[.pointer (some ⟨g, 0, none⟩), .agg #[.slice (some ad) cs.length cA, .int .i64 key], .int .i64 ↑i, undef, .pointer (some ⟨w.heap.size, 0, none⟩), undef, .pointer (some ⟨w.heap.size + 1, 0, none⟩), .pointer (some ⟨N, 0, none⟩), .pointer (some ⟨M, 0, none⟩), .int .i64 ↑k, .pointer (some ⟨g, 0, none⟩), .int .i64 (nxt 11 rest), .int .i64 o, .agg #[.int .i64 o, .int .i64 0, .bool false, .int .i64 0, .string { data := #[] }, .slice none 0 0, .int .i64 0, .int .i64 0], u14, u15, u16, u17, u18, u19, u20, u21, u22, u23, u24, .pointer (some ⟨N, 0, none⟩), .int .i64 7, .bool false, undef, undef, undef, undef, undef, undef, undef, undef, undef, undef, undef, undef, undef, undef, undef, undef, undef, undef, undef, .pointer (some ⟨g, 0, none⟩), .pointer (some ⟨w.heap.size, 0, none⟩), .slice (some ad) cs.length cA, .int .i64 ↑cs.length, .int .i64 ↑KC, .pointer (some ⟨N, 1, none⟩), .pointer (some ⟨w.heap.size, 0, none⟩), .slice (some ad) cs.length cA, .pointer (some ⟨N, 1, none⟩), .int .i64 ↑KC, .pointer (some pc), .agg #[.string c.nm, .int .i64 c.ty, .int .i64 c.sc, .bool c.nu], .pointer (some ⟨N, 0, none⟩), .int .i64 7, .bool false, undef, undef, undef, undef, undef, undef, .pointer (some ⟨N, 0, none⟩), .int .i64 7, .bool true, .pointer (some ⟨g, 0, none⟩), .int .i64 (nxt 3 rest.tail.tail), .bool t, .pointer (some ⟨M, 3, none⟩), .pointer (some ⟨g, 0, none⟩), .int .i64 (nxt 4 rest.tail.tail.tail), .int .i64 ↑k4, .int .i64 ↑k, .bool true, u80, u81, u82, u83, u84, u85, u86, u87, u88, u89, undef], []⟩ ∧
                    Only g w w' ∧ Got (L 0) u82 (.pointer (some ⟨N, 5, none⟩)) ∧ Got (L 1) u83 (.slice A2 l.length c2) ∧ Got (L 2) u84 (.pointer (some ⟨g, 0, none⟩)) ∧ Got (L 3) u85 (.agg #[.string c.nm, .int .i64 c.ty, .int .i64 c.sc, .bool t]) ∧ (L 4 = true → ∃ y : Vl, u86 = .agg #[.bool y.nu, .int .i64 y.n, .string y.s] ∧ ValOk c.ty t y.nu y.n y.s ∧ (L 5 = true → ∃ A6, u87 = .slice (some ⟨A6, 0, none⟩) 1 1 ∧ wr.heap.size ≤ A6 ∧ Blk w' A6 64 #[.bool y.nu, .int .i64 y.n, .string y.s]) ∧ (L 6 = true → ∃ g9 c9, u88 = .slice (some ⟨g9, 0, none⟩) (l.length + 1) c9 ∧ w'.ownsRow w.heap.size 64 3 u88 (l.length + 1) (vls l ++ y.cells))) ∧ Got (L 7) u89 (.pointer (some ⟨N, 5, none⟩)) ∧ (L 6 = false → w'.ownsRow w.heap.size 64 3 (.slice A2 l.length c2) l.length (vls l)) ∧ (L 8 = false → Blk w' N 66 #[.int .i64 7, .int .i64 KC, .bool false, .int .i64 0, .string { data := #[] }, .slice A2 l.length c2, .int .i64 0, .int .i64 0]) ∧ (L 8 = true → Blk w' N 66 #[.int .i64 7, .int .i64 KC, .bool false, .int .i64 0, .string { data := #[] }, u88, .int .i64 0, .int .i64 0]) ∧ (L 8 = true → L 6 = true) ∧ Blk w' w.heap.size 28 #[.slice (some ad) cs.length cA, .int .i64 key] ∧ Blk w' (w.heap.size + 1) 66 #[.int .i64 0, .int .i64 0, .bool false, .int .i64 0, .string { data := #[] }, .slice none 0 0, .int .i64 0, .int .i64 0] ∧ Blk w' M 56 #[.string c.nm, .int .i64 c.ty, .int .i64 c.sc, .bool t] ∧ (∃ r, Src w' B 97 g r) ∧ (L 6 = true → L 1 = true ∧ L 5 = true) ∧ wr.heap.size ≤ w'.heap.size ∧ (L 5 = true → L 4 = true))
                  ?_ ?_ ?_
                · exact ⟨_, _, _, _, _, _, _, _, rfl, (ONwr.out.drewN 1), nofun, nofun, nofun, nofun, nofun, nofun, fun _ => OVwr.out, fun _ => BNwr.out, nofun, nofun, BSwr.out, BRwr.out, BCwr.out, ⟨_, SRwr.out.drewN 1⟩, nofun, Nat.le_refl _, nofun⟩
                · refine ⟨?_, ?_, ?_, ?_, ?_, ?_, ?_, ?_, ?_, trivial⟩
                  · intro L a w' hI hl hd K hK
                    refine hI.elim fun u82 hI => hI.elim fun u83 hI => hI.elim fun u84 hI => hI.elim fun u85 hI => hI.elim fun u86 hI => hI.elim fun u87 hI => hI.elim fun u88 hI => hI.elim fun u89 hI => ?_
                    have ha := hI.1; subst ha; have hb := hI.2.1; have g0 := hI.2.2.1; have g1 := hI.2.2.2.1; have g2 := (rr4 hI).1; have g3 := (rr4 hI).2.1; have g4 := (rr4 hI).2.2.1; have g5 := (rr4 hI).2.2.2.1; have g6 := (rr4 (rr4 hI)).1; have g7 := (rr4 (rr4 hI)).2.1; have g8 := (rr4 (rr4 hI)).2.2.1; have g9 := (rr4 (rr4 hI)).2.2.2.1; have g10 := (rr4 (rr4 (rr4 hI))).1; have g11 := (rr4 (rr4 (rr4 hI))).2.1; have g12 := (rr4 (rr4 (rr4 hI))).2.2.1; have g13 := (rr4 (rr4 (rr4 hI))).2.2.2.1; have g14 := (rr16 hI).1; have g15 := (rr16 hI).2.1; have g16 := (rr16 hI).2.2; clear hI
                    dsimp only at hK ⊢
                    go_simp
                    exact hK _ _ ⟨_, _, _, _, _, _, _, _, rfl, hb, fun _ => rfl, g1, g2, g3, g4, g5, g6, g7, g8, g9, g10, g11, g12, g13, g14, g15, g16⟩
                  · intro L a w' hI hl hd K hK
                    refine hI.elim fun u82 hI => hI.elim fun u83 hI => hI.elim fun u84 hI => hI.elim fun u85 hI => hI.elim fun u86 hI => hI.elim fun u87 hI => hI.elim fun u88 hI => hI.elim fun u89 hI => ?_
                    have ha := hI.1; subst ha; have hb := hI.2.1; have g0 := hI.2.2.1; have g1 := hI.2.2.2.1; have g2 := (rr4 hI).1; have g3 := (rr4 hI).2.1; have g4 := (rr4 hI).2.2.1; have g5 := (rr4 hI).2.2.2.1; have g6 := (rr4 (rr4 hI)).1; have g7 := (rr4 (rr4 hI)).2.1; have g8 := (rr4 (rr4 hI)).2.2.1; have g9 := (rr4 (rr4 hI)).2.2.2.1; have g10 := (rr4 (rr4 (rr4 hI))).1; have g11 := (rr4 (rr4 (rr4 hI))).2.1; have g12 := (rr4 (rr4 (rr4 hI))).2.2.1; have g13 := (rr4 (rr4 (rr4 hI))).2.2.2.1; have g14 := (rr16 hI).1; have g15 := (rr16 hI).2.1; have g16 := (rr16 hI).2.2; clear hI
                    simp [Region.binds] at hd
                    dsimp only at hK ⊢
                    have e0 := g0 (by simp [hd])
                    subst e0
                    have h8 : L 8 = false := by
                      cases h : L 8 with
                      | false => rfl
                      | true => have := (g14 (g9 h)).1; rw [hl] at this; cases this
                    have cc := (g7 h8).cell 5
                    simp only [List.getElem?_toArray, List.getElem?_cons_zero, List.getElem?_cons_succ] at cc
                    go_simp
                    exact hK _ _ ⟨_, _, _, _, _, _, _, _, rfl, hb, g0, fun _ => rfl, g2, g3, g4, g5, g6, g7, g8, g9, g10, g11, g12, g13, fun h => ⟨rfl, (g14 h).2⟩, g15, g16⟩
                  · intro L a w' hI hl hd K hK
                    refine hI.elim fun u82 hI => hI.elim fun u83 hI => hI.elim fun u84 hI => hI.elim fun u85 hI => hI.elim fun u86 hI => hI.elim fun u87 hI => hI.elim fun u88 hI => hI.elim fun u89 hI => ?_
                    have ha := hI.1; subst ha; have hb := hI.2.1; have g0 := hI.2.2.1; have g1 := hI.2.2.2.1; have g2 := (rr4 hI).1; have g3 := (rr4 hI).2.1; have g4 := (rr4 hI).2.2.1; have g5 := (rr4 hI).2.2.2.1; have g6 := (rr4 (rr4 hI)).1; have g7 := (rr4 (rr4 hI)).2.1; have g8 := (rr4 (rr4 hI)).2.2.1; have g9 := (rr4 (rr4 hI)).2.2.2.1; have g10 := (rr4 (rr4 (rr4 hI))).1; have g11 := (rr4 (rr4 (rr4 hI))).2.1; have g12 := (rr4 (rr4 (rr4 hI))).2.2.1; have g13 := (rr4 (rr4 (rr4 hI))).2.2.2.1; have g14 := (rr16 hI).1; have g15 := (rr16 hI).2.1; have g16 := (rr16 hI).2.2; clear hI
                    dsimp only at hK ⊢
                    go_simp
                    exact hK _ _ ⟨_, _, _, _, _, _, _, _, rfl, hb, g0, g1, fun _ => rfl, g3, g4, g5, g6, g7, g8, g9, g10, g11, g12, g13, g14, g15, g16⟩
                  · intro L a w' hI hl hd K hK
                    refine hI.elim fun u82 hI => hI.elim fun u83 hI => hI.elim fun u84 hI => hI.elim fun u85 hI => hI.elim fun u86 hI => hI.elim fun u87 hI => hI.elim fun u88 hI => hI.elim fun u89 hI => ?_
                    have ha := hI.1; subst ha; have hb := hI.2.1; have g0 := hI.2.2.1; have g1 := hI.2.2.2.1; have g2 := (rr4 hI).1; have g3 := (rr4 hI).2.1; have g4 := (rr4 hI).2.2.1; have g5 := (rr4 hI).2.2.2.1; have g6 := (rr4 (rr4 hI)).1; have g7 := (rr4 (rr4 hI)).2.1; have g8 := (rr4 (rr4 hI)).2.2.1; have g9 := (rr4 (rr4 hI)).2.2.2.1; have g10 := (rr4 (rr4 (rr4 hI))).1; have g11 := (rr4 (rr4 (rr4 hI))).2.1; have g12 := (rr4 (rr4 (rr4 hI))).2.2.1; have g13 := (rr4 (rr4 (rr4 hI))).2.2.2.1; have g14 := (rr16 hI).1; have g15 := (rr16 hI).2.1; have g16 := (rr16 hI).2.2; clear hI
                    dsimp only at hK ⊢
                    have bb := g12
                    have d0 := bb.cell 0
                    have d1 := bb.cell 1
                    have d2 := bb.cell 2
                    have d3 := bb.cell 3
                    simp only [List.getElem?_toArray, List.getElem?_cons_zero, List.getElem?_cons_succ] at d0 d1 d2 d3
                    go_simp
                    exact hK _ _ ⟨_, _, _, _, _, _, _, _, rfl, hb, g0, g1, g2, fun _ => rfl, g4, g5, g6, g7, g8, g9, g10, g11, g12, g13, g14, g15, g16⟩
                  · intro L a w' hI hl hd K hK
                    refine hI.elim fun u82 hI => hI.elim fun u83 hI => hI.elim fun u84 hI => hI.elim fun u85 hI => hI.elim fun u86 hI => hI.elim fun u87 hI => hI.elim fun u88 hI => hI.elim fun u89 hI => ?_
                    have ha := hI.1; subst ha; have hb := hI.2.1; have g0 := hI.2.2.1; have g1 := hI.2.2.2.1; have g2 := (rr4 hI).1; have g3 := (rr4 hI).2.1; have g4 := (rr4 hI).2.2.1; have g5 := (rr4 hI).2.2.2.1; have g6 := (rr4 (rr4 hI)).1; have g7 := (rr4 (rr4 hI)).2.1; have g8 := (rr4 (rr4 hI)).2.2.1; have g9 := (rr4 (rr4 hI)).2.2.2.1; have g10 := (rr4 (rr4 (rr4 hI))).1; have g11 := (rr4 (rr4 (rr4 hI))).2.1; have g12 := (rr4 (rr4 (rr4 hI))).2.2.1; have g13 := (rr4 (rr4 (rr4 hI))).2.2.2.1; have g14 := (rr16 hI).1; have g15 := (rr16 hI).2.1; have g16 := (rr16 hI).2.2; clear hI
                    simp [Region.binds] at hd
                    dsimp only at hK ⊢
                    have e2 := g2 (by simp [hd])
                    subst e2
                    have e3 := g3 (by simp [hd])
                    subst e3
                    obtain ⟨r5, hs5⟩ := g13
                    have h5 : L 5 = false := by
                      cases h : L 5 with
                      | false => rfl
                      | true => have := g16 h; rw [hl] at this; cases this
                    have h6 : L 6 = false := by
                      cases h : L 6 with
                      | false => rfl
                      | true => have := g16 (g14 h).2; rw [hl] at this; cases this
                    have h8 : L 8 = false := by
                      cases h : L 8 with
                      | false => rfl
                      | true => have := g16 (g14 (g9 h)).2; rw [hl] at this; cases this
                    go_wp2_with fail
                    refine (value_any B g c.nm c.ty c.sc t r5 w' hs5 HT.out.1 HT.out.2).mono ?_
                    rintro _ w4 ⟨b4, n4, s4, r4, rfl, hok4, ho4, hs4⟩
                    exact hK _ _ ⟨_, _, _, _, _, _, _, _, rfl, hb.trans ho4, g0, g1, g2, g3, fun _ => ⟨⟨b4, n4, s4⟩, rfl, hok4, (fun h => absurd (show L 5 = true from h) (by rw [h5]; simp)), (fun h => absurd (show L 6 = true from h) (by rw [h6]; simp))⟩, g5, fun h => own_only (g6 h) hs5 (by decide) ho4, fun h => (g7 h).grown ho4 (by intro e; injection e with e; omega), (fun h => absurd (show L 8 = true from h) (by rw [h8]; simp)), g9, g10.grown ho4 (by intro e; injection e with e; omega), g11.grown ho4 (by intro e; injection e with e; omega), g12.grown ho4 (by intro e; injection e with e; omega), ⟨r4, hs4⟩, g14, Nat.le_trans g15 ho4.size, fun _ => rfl⟩
                  · intro L a w' hI hl hd K hK
                    refine hI.elim fun u82 hI => hI.elim fun u83 hI => hI.elim fun u84 hI => hI.elim fun u85 hI => hI.elim fun u86 hI => hI.elim fun u87 hI => hI.elim fun u88 hI => hI.elim fun u89 hI => ?_
                    have ha := hI.1; subst ha; have hb := hI.2.1; have g0 := hI.2.2.1; have g1 := hI.2.2.2.1; have g2 := (rr4 hI).1; have g3 := (rr4 hI).2.1; have g4 := (rr4 hI).2.2.1; have g5 := (rr4 hI).2.2.2.1; have g6 := (rr4 (rr4 hI)).1; have g7 := (rr4 (rr4 hI)).2.1; have g8 := (rr4 (rr4 hI)).2.2.1; have g9 := (rr4 (rr4 hI)).2.2.2.1; have g10 := (rr4 (rr4 (rr4 hI))).1; have g11 := (rr4 (rr4 (rr4 hI))).2.1; have g12 := (rr4 (rr4 (rr4 hI))).2.2.1; have g13 := (rr4 (rr4 (rr4 hI))).2.2.2.1; have g14 := (rr16 hI).1; have g15 := (rr16 hI).2.1; have g16 := (rr16 hI).2.2; clear hI
                    simp [Region.binds] at hd
                    dsimp only at hK ⊢
                    have h4 : L 4 = true := by simp [hd]
                    obtain ⟨y, e4, hoky, h5x, h6x⟩ := g4 h4
                    subst e4
                    have h6 : L 6 = false := by
                      cases h : L 6 with
                      | false => rfl
                      | true => have := (g14 h).2; rw [hl] at this; cases this
                    go_simp
                    exact hK _ _ ⟨_, _, _, _, _, _, _, _, rfl, hb.alloc _, g0, g1, g2, g3, fun _ => ⟨y, rfl, hoky, fun _ => ⟨_, rfl, g15, Blk.new _ _ _⟩, (fun h => absurd (show L 6 = true from h) (by rw [h6]; simp))⟩, g5, fun h => (g6 h).alloc _, fun h => (g7 h).alloc _, fun h => (g8 h).alloc _, g9, g10.alloc _, g11.alloc _, g12.alloc _, g13.elim fun r5 hs5 => ⟨r5, hs5.alloc _⟩, fun h => ⟨(g14 h).1, rfl⟩, Nat.le_trans g15 (by simp), fun _ => h4⟩
                  · intro L a w' hI hl hd K hK
                    refine hI.elim fun u82 hI => hI.elim fun u83 hI => hI.elim fun u84 hI => hI.elim fun u85 hI => hI.elim fun u86 hI => hI.elim fun u87 hI => hI.elim fun u88 hI => hI.elim fun u89 hI => ?_
                    have ha := hI.1; subst ha; have hb := hI.2.1; have g0 := hI.2.2.1; have g1 := hI.2.2.2.1; have g2 := (rr4 hI).1; have g3 := (rr4 hI).2.1; have g4 := (rr4 hI).2.2.1; have g5 := (rr4 hI).2.2.2.1; have g6 := (rr4 (rr4 hI)).1; have g7 := (rr4 (rr4 hI)).2.1; have g8 := (rr4 (rr4 hI)).2.2.1; have g9 := (rr4 (rr4 hI)).2.2.2.1; have g10 := (rr4 (rr4 (rr4 hI))).1; have g11 := (rr4 (rr4 (rr4 hI))).2.1; have g12 := (rr4 (rr4 (rr4 hI))).2.2.1; have g13 := (rr4 (rr4 (rr4 hI))).2.2.2.1; have g14 := (rr16 hI).1; have g15 := (rr16 hI).2.1; have g16 := (rr16 hI).2.2; clear hI
                    simp [Region.binds] at hd
                    dsimp only at hK ⊢
                    have e1 := g1 (by simp [hd])
                    subst e1
                    have h8 : L 8 = false := by
                      cases h : L 8 with
                      | false => rfl
                      | true => have := g9 h; rw [hl] at this; cases this
                    have h1 : L 1 = true := by simp [hd]
                    have h5 : L 5 = true := by simp [hd]
                    have h4 : L 4 = true := by simp [hd]
                    obtain ⟨y, e4, hoky, h5x, h6x⟩ := g4 h4
                    subst e4
                    obtain ⟨A6, e6, hN6, hB6⟩ := h5x h5
                    subst e6
                    have oo := g6 hl
                    have hws9 : w.heap.size ≤ w'.heap.size := hb.size
                    refine wp_app (P := Tryz.prog) (n := l.length) (xs := vls l) (m := 1) (.tmp 83) (.tmp 87) oo (blk_slN (n := 1) (sz := 3) hB6 rfl (by unfold maxLen; omega)) hws9 under_vl info_vl rfl (by decide) (one_val3 _ _ _) (by omega) (by omega) rfl rfl rfl ?_
                    intro v9 w9 ho9 hg9 _
                    obtain ⟨g10x, c10x, ev9⟩ : ∃ g9 c9, v9 = .slice (some ⟨g9, 0, none⟩) (l.length + 1) c9 := by
                      rcases ho9.2 with ⟨_, h0⟩ | ⟨g1, cap1, cur1, e1, _⟩
                      · omega
                      · exact ⟨g1, cap1, e1⟩
                    exact hK _ _ ⟨_, _, _, _, _, _, _, _, rfl, hb.grown hg9 (fun k hk => .inl (oo.lt k hk).1), g0, g1, g2, g3, fun _ => ⟨y, rfl, hoky, fun _ => ⟨A6, rfl, hN6, hB6.grown hg9 (fun e => by have := (OVwr.out.lt A6 e).2; omega)⟩, fun _ => ⟨g10x, c10x, ev9, ho9⟩⟩, g5, nofun, fun h => (g7 h).grown hg9 (own_blk_ne oo (g7 h) (by decide)), (fun h => absurd (show L 8 = true from h) (by rw [h8]; simp)), fun _ => rfl, g10.grown hg9 (own_blk_ne oo g10 (by decide)), g11.grown hg9 (own_blk_ne oo g11 (by decide)), g12.grown hg9 (own_blk_ne oo g12 (by decide)), g13.elim fun r5 hs5 => ⟨r5, hs5.grown hg9 (hs5.own_ne oo (by decide)) (fun b hb2 => by have := (oo.lt b hb2).1; omega)⟩, fun _ => ⟨h1, h5⟩, Nat.le_trans g15 hg9.size, g16⟩
                  · intro L a w' hI hl hd K hK
                    refine hI.elim fun u82 hI => hI.elim fun u83 hI => hI.elim fun u84 hI => hI.elim fun u85 hI => hI.elim fun u86 hI => hI.elim fun u87 hI => hI.elim fun u88 hI => hI.elim fun u89 hI => ?_
                    have ha := hI.1; subst ha; have hb := hI.2.1; have g0 := hI.2.2.1; have g1 := hI.2.2.2.1; have g2 := (rr4 hI).1; have g3 := (rr4 hI).2.1; have g4 := (rr4 hI).2.2.1; have g5 := (rr4 hI).2.2.2.1; have g6 := (rr4 (rr4 hI)).1; have g7 := (rr4 (rr4 hI)).2.1; have g8 := (rr4 (rr4 hI)).2.2.1; have g9 := (rr4 (rr4 hI)).2.2.2.1; have g10 := (rr4 (rr4 (rr4 hI))).1; have g11 := (rr4 (rr4 (rr4 hI))).2.1; have g12 := (rr4 (rr4 (rr4 hI))).2.2.1; have g13 := (rr4 (rr4 (rr4 hI))).2.2.2.1; have g14 := (rr16 hI).1; have g15 := (rr16 hI).2.1; have g16 := (rr16 hI).2.2; clear hI
                    dsimp only at hK ⊢
                    go_simp
                    exact hK _ _ ⟨_, _, _, _, _, _, _, _, rfl, hb, g0, g1, g2, g3, g4, fun _ => rfl, g6, g7, g8, g9, g10, g11, g12, g13, g14, g15, g16⟩
                  · intro L a w' hI hl hd K hK
                    refine hI.elim fun u82 hI => hI.elim fun u83 hI => hI.elim fun u84 hI => hI.elim fun u85 hI => hI.elim fun u86 hI => hI.elim fun u87 hI => hI.elim fun u88 hI => hI.elim fun u89 hI => ?_
                    have ha := hI.1; subst ha; have hb := hI.2.1; have g0 := hI.2.2.1; have g1 := hI.2.2.2.1; have g2 := (rr4 hI).1; have g3 := (rr4 hI).2.1; have g4 := (rr4 hI).2.2.1; have g5 := (rr4 hI).2.2.2.1; have g6 := (rr4 (rr4 hI)).1; have g7 := (rr4 (rr4 hI)).2.1; have g8 := (rr4 (rr4 hI)).2.2.1; have g9 := (rr4 (rr4 hI)).2.2.2.1; have g10 := (rr4 (rr4 (rr4 hI))).1; have g11 := (rr4 (rr4 (rr4 hI))).2.1; have g12 := (rr4 (rr4 (rr4 hI))).2.2.1; have g13 := (rr4 (rr4 (rr4 hI))).2.2.2.1; have g14 := (rr16 hI).1; have g15 := (rr16 hI).2.1; have g16 := (rr16 hI).2.2; clear hI
                    simp [Region.binds] at hd
                    dsimp only at hK ⊢
                    have e5 := g5 (by simp [hd])
                    subst e5
                    have h6 : L 6 = true := by simp [hd]
                    have h4 : L 4 = true := by simp [hd]
                    obtain ⟨y, e4, hoky, h5x, h6x⟩ := g4 h4
                    subst e4
                    obtain ⟨g11x, c11x, e6, o6⟩ := h6x h6
                    subst e6
                    have bb := g7 hl
                    have cc := bb.cell 5
                    simp only [List.getElem?_toArray, List.getElem?_cons_zero, List.getElem?_cons_succ] at cc
                    have ff := bb.frozen 5
                    have hlt := bb.lt
                    go_simp
                    have kg : w'.grownBy (w'.setCell ⟨N, 5, none⟩ (.slice (some ⟨g11x, 0, none⟩) (l.length + 1) c11x)) (some N) := grownBy_set w' ⟨N, 5, none⟩ (.slice (some ⟨g11x, 0, none⟩) (l.length + 1) c11x)
                    have kb := bb.set_ 5 (.slice (some ⟨g11x, 0, none⟩) (l.length + 1) c11x)
                    simp only [List.setIfInBounds_toArray, List.set_cons_zero, List.set_cons_succ] at kb
                    exact hK _ _ ⟨_, _, _, _, _, _, _, _, rfl, hb.grown kg (fun k hk => by injection hk with hk; left; omega), g0, g1, g2, g3, fun _ => ⟨y, rfl, hoky, fun h => (h5x h).elim fun A6 h => ⟨A6, h.1, h.2.1, h.2.2.row kg (show A6 ≠ N by have := h.2.1; have := BNwr.out.lt; omega)⟩, fun _ => ⟨g11x, c11x, rfl, own_row o6 kg (fun b hb2 e => own_blk_ne o6 bb (by decide) (by rw [hb2, e]))⟩⟩, g5, (fun h => absurd (show L 6 = false from h) (by rw [h6]; simp)), nofun, fun _ => kb, fun _ => h6, g10.row kg (by omega), g11.row kg (by omega), g12.row kg (by omega), g13.elim fun r5 hs5 => ⟨r5, hs5.row kg (by omega) (by omega)⟩, g14, Nat.le_trans g15 kg.size, g16⟩
                intro a w9 hI
                refine hI.elim fun u82 hI => hI.elim fun u83 hI => hI.elim fun u84 hI => hI.elim fun u85 hI => hI.elim fun u86 hI => hI.elim fun u87 hI => hI.elim fun u88 hI => hI.elim fun u89 hI => ?_
                have ha := hI.1; subst ha; have hb := hI.2.1; have g0 := hI.2.2.1; have g1 := hI.2.2.2.1; have g2 := (rr4 hI).1; have g3 := (rr4 hI).2.1; have g4 := (rr4 hI).2.2.1; have g5 := (rr4 hI).2.2.2.1; have g6 := (rr4 (rr4 hI)).1; have g7 := (rr4 (rr4 hI)).2.1; have g8 := (rr4 (rr4 hI)).2.2.1; have g9 := (rr4 (rr4 hI)).2.2.2.1; have g10 := (rr4 (rr4 (rr4 hI))).1; have g11 := (rr4 (rr4 (rr4 hI))).2.1; have g12 := (rr4 (rr4 (rr4 hI))).2.2.1; have g13 := (rr4 (rr4 (rr4 hI))).2.2.2.1; have g14 := (rr16 hI).1; have g15 := (rr16 hI).2.1; have g16 := (rr16 hI).2.2; clear hI
                have e0 := g0 rfl
                subst e0
                have e1 := g1 rfl
                subst e1
                have e2 := g2 rfl
                subst e2
                have e3 := g3 rfl
                subst e3
                have e5 := g5 rfl
                subst e5
                obtain ⟨y, e4, hoky, h5x, h6x⟩ := g4 rfl
                subst e4
                obtain ⟨A6, e6, _, _⟩ := h5x rfl
                subst e6
                obtain ⟨g9x, c9x, e9, o9⟩ := h6x rfl
                subst e9
                obtain ⟨r9, hs9⟩ := g13
                have kb := Lib.hid (g8 rfl)
                have O9 := Lib.hid (show w9.ownsRow w.heap.size 64 3 (.slice (some ⟨g9x, 0, none⟩) (l.length + 1) c9x) (l ++ [y]).length (vls (l ++ [y])) by rw [List.length_append, vls_snoc]; exact o9)
                have HB9 := Lib.hid hb
                have BS9 := Lib.hid g10
                have BR9 := Lib.hid g11
                have BC9 := Lib.hid g12
                have SR9 := Lib.hid hs9
                have SZ9 := Lib.hid (Nat.lt_of_lt_of_le SZwr.out g15)
                clear g4 g6 g7 g8 g9 g10 g11 g12 g14 g15 g16 h5x h6x o9 hs9 hb
                go_wp2
                go_roundw
                case rel => exact ⟨k - 1, l ++ [y], _, r9, by go_num, by have := HLK.out; rw [List.length_append]; simp; omega, fun z hz => by
                  rcases List.mem_append.1 hz with h | h
                  · exact HOK.out z h
                  · obtain rfl : z = y := by simpa using h
                    cases t with
                    | true => exact hoky
                    | false => exact ok_cn hoky, kb.out, BS9.out, BR9.out, BC9.out, O9.out, HB9.out, SR9.out, SZ9.out⟩
                case measure => simp [intOf]; omega
              · obtain rfl : k = 0 := by omega
                have hl0 : 0 < l.length := by have := HLK.out; omega
                have hl4' := Lib.hid hl4
                clear hl1 hl2
                go_upto_region 21 with (fail)
                have bb := BNwr.out
                have n0 := bb.cell 0
                have nf0 := bb.frozen 0
                have n1 := bb.cell 1
                have nf1 := bb.frozen 1
                have n2 := bb.cell 2
                have nf2 := bb.frozen 2
                have n3 := bb.cell 3
                have nf3 := bb.frozen 3
                have n4 := bb.cell 4
                have nf4 := bb.frozen 4
                have n5 := bb.cell 5
                have nf5 := bb.frozen 5
                have n6 := bb.cell 6
                have nf6 := bb.frozen 6
                have n7 := bb.cell 7
                have nf7 := bb.frozen 7
                simp only [List.getElem?_toArray, List.getElem?_cons_zero, List.getElem?_cons_succ] at n0 n1 n2 n3 n4 n5 n6 n7
                clear bb
                have bb := BRwr.out
                have r0 := bb.cell 0
                have rf0 := bb.frozen 0
                have r1 := bb.cell 1
                have rf1 := bb.frozen 1
                have r2 := bb.cell 2
                have rf2 := bb.frozen 2
                have r3 := bb.cell 3
                have rf3 := bb.frozen 3
                have r4 := bb.cell 4
                have rf4 := bb.frozen 4
                have r5 := bb.cell 5
                have rf5 := bb.frozen 5
                have r6 := bb.cell 6
                have rf6 := bb.frozen 6
                have r7 := bb.cell 7
                have rf7 := bb.frozen 7
                simp only [List.getElem?_toArray, List.getElem?_cons_zero, List.getElem?_cons_succ] at r0 r1 r2 r3 r4 r5 r6 r7
                clear bb
                go_wp2
                obtain ⟨XF, hXF⟩ : ∃ X0, X0 = ((((((((wr.setCell ⟨(w.heap.size + 1), 0, none⟩ (.int .i64 7)).setCell ⟨(w.heap.size + 1), 1, none⟩ (.int .i64 KC)).setCell ⟨(w.heap.size + 1), 2, none⟩ (.bool false)).setCell ⟨(w.heap.size + 1), 3, none⟩ (.int .i64 0)).setCell ⟨(w.heap.size + 1), 4, none⟩ (.string { data := #[] })).setCell ⟨(w.heap.size + 1), 5, none⟩ (.slice A2 l.length c2)).setCell ⟨(w.heap.size + 1), 6, none⟩ (.int .i64 0)).setCell ⟨(w.heap.size + 1), 7, none⟩ (.int .i64 0)) := ⟨_, rfl⟩
                have kg : wr.grownBy XF (some (w.heap.size + 1)) := by rw [hXF]; exact (grown_trans' (grown_trans' (grown_trans' (grown_trans' (grown_trans' (grown_trans' (grown_trans' (grownBy_set wr ⟨(w.heap.size + 1), 0, none⟩ (.int .i64 7)) (grownBy_set _ ⟨(w.heap.size + 1), 1, none⟩ (.int .i64 KC))) (grownBy_set _ ⟨(w.heap.size + 1), 2, none⟩ (.bool false))) (grownBy_set _ ⟨(w.heap.size + 1), 3, none⟩ (.int .i64 0))) (grownBy_set _ ⟨(w.heap.size + 1), 4, none⟩ (.string { data := #[] }))) (grownBy_set _ ⟨(w.heap.size + 1), 5, none⟩ (.slice A2 l.length c2))) (grownBy_set _ ⟨(w.heap.size + 1), 6, none⟩ (.int .i64 0))) (grownBy_set _ ⟨(w.heap.size + 1), 7, none⟩ (.int .i64 0)))
                have BRXF := Lib.hid (show Blk XF (w.heap.size + 1) 66 #[.int .i64 7, .int .i64 KC, .bool false, .int .i64 0, .string { data := #[] }, .slice A2 l.length c2, .int .i64 0, .int .i64 0] by rw [hXF]; have h := ((((((((BRwr.out.set_ 0 (.int .i64 7)).set_ 1 (.int .i64 KC)).set_ 2 (.bool false)).set_ 3 (.int .i64 0)).set_ 4 (.string { data := #[] })).set_ 5 (.slice A2 l.length c2)).set_ 6 (.int .i64 0)).set_ 7 (.int .i64 0)); simpa using h)
                have BSXF := Lib.hid (BSwr.out.row kg (by omega))
                have BNXF := Lib.hid (BNwr.out.row kg (by omega))
                have BCXF := Lib.hid (BCwr.out.row kg (by omega))
                have OVXF := Lib.hid (own_row OVwr.out kg (fun b hb e => own_blk_ne OVwr.out BRwr.out (by decide) (by rw [hb, e])))
                have ONXF := Lib.hid (ONwr.out.grown kg (fun k hk => by injection hk; omega))
                have SRXF := Lib.hid (SRwr.out.row kg (by omega) (by omega))
                have SZXF := Lib.hid (Nat.le_trans SZwr.out kg.size)
                clear kg BSwr BRwr BNwr BCwr ONwr SRwr SZwr
                rw [← hXF]
                clear hXF
                clear n0 nf0 n1 nf1 n2 nf2 n3 nf3 n4 nf4 n5 nf5 n6 nf6 n7 nf7
                clear r0 rf0 r1 rf1 r2 rf2 r3 rf3 r4 rf4 r5 rf5 r6 rf6 r7 rf7
                have bb := BRXF.out
                have r0 := bb.cell 0
                have rf0 := bb.frozen 0
                have r1 := bb.cell 1
                have rf1 := bb.frozen 1
                have r2 := bb.cell 2
                have rf2 := bb.frozen 2
                have r3 := bb.cell 3
                have rf3 := bb.frozen 3
                have r4 := bb.cell 4
                have rf4 := bb.frozen 4
                have r5 := bb.cell 5
                have rf5 := bb.frozen 5
                have r6 := bb.cell 6
                have rf6 := bb.frozen 6
                have r7 := bb.cell 7
                have rf7 := bb.frozen 7
                simp only [List.getElem?_toArray, List.getElem?_cons_zero, List.getElem?_cons_succ] at r0 r1 r2 r3 r4 r5 r6 r7
                clear bb
                exact bodyPost_ret (v := .agg #[.int .i64 7, .int .i64 KC, .bool false, .int .i64 0, .string { data := #[] }, .slice A2 l.length c2, .int .i64 0, .int .i64 0]) (by simp [results, Tryz.results36, go_sem, r0, r1, r2, r3, r4, r5, r6, r7]) rfl ⟨⟨7, KC, v0, l, 0, 0⟩, _, _, rfl, node_in_ok hl0 hl4 HC.out HOK.out HT.out.1 HT.out.2, OVXF.out, ONXF.out, SRXF.out⟩
end Go.Proofs.YtjnamjkdjcndiaaGreatDoor
