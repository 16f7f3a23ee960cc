/-
  Words for job.Commit: slices.Contains and slices.Sort at ints, slices.Contains at entries, job.Fresh.
-/
import Derived.Test.YtoikgjhekemjdaaEntSort
import Derived.Test.YtoikgjhekemjdaaEntEq
import Derived.Test.YtoikgjhekemjdaaShelfI
import Derived.Lib.SortBridge
import Derived.Sort.EveryDepth
import Derived.Sort.OwnSortedInts
namespace Go.Proofs.Ytoikgjhekemjdaa
open Go.RowKit Go.Sort
/-- An index, or -1. -/
def RetIx (w : World) (b : Bool) (e : Ending) (w' : World) : Prop := ∃ r : Int, e = .returned (.int .i64 r) ∧ decide (r ≥ 0) = b ∧ -1 ≤ r ∧ r ≤ 9223372036854775807 ∧ Below w.heap.size w w'
theorem RetIx.hit {w w' : World} {b : Bool} (k : Nat) (h : b = true) (hk : k ≤ 9223372036854775807) (hb : Below w.heap.size w w') : RetIx w b (.returned (.int .i64 (k : Int))) w' := by
  subst h; exact ⟨k, rfl, by simp, by omega, by omega, hb⟩
theorem RetIx.miss {w w' : World} {b : Bool} (h : b = false) (hb : Below w.heap.size w w') : RetIx w b (.returned (.int .i64 (-1))) w' := by
  subst h; exact ⟨-1, rfl, by decide, by omega, by omega, hb⟩
set_option maxRecDepth 100000 in
set_option maxHeartbeats 1000000 in
theorem indexI_any (v : Value) (l : List Int) (x : Int) (w : World) (hs : Sl w 1 v l.length (ints l)) (hl : l.length ≤ 1000000) :
    Calls Try.prog 76 #[v, .int .i64 x] w (RetIx w (l.contains x)) := by
  obtain ⟨A, c, rfl, hc1, hc2⟩ := hs.form
  go_enter Try.func76, Try.ntmps76
  go_wp2
  go_loopw [8] (fun i wr => ∃ k : Nat, k ≤ l.length ∧ i = .int .i64 k ∧ Below w.heap.size w wr ∧ Hid (∀ (j : Nat) (d : Int), l[j]? = some d → j < k → d ≠ x)) (fun i _ => l.length - (intOf i).toNat)
  case atStart => exact ⟨0, by omega, rfl, Below.refl _ _, Lib.hid fun j d _ hj => absurd hj (Nat.not_lt_zero _)⟩
  case round =>
    obtain ⟨k, hk, rfl, hbel, hno⟩ := hrel
    by_cases hlt : k < l.length
    · obtain ⟨ad, y, rfl, he, hcell⟩ := (hs.below hbel).int_at hlt
      have HE := Lib.hid he
      clear he
      by_cases hn : y = x
      · have HF := Lib.hid (show l.contains x = true by rw [List.contains_iff_mem]; exact List.mem_of_getElem? (hn ▸ HE.out))
        have q1 : (x == y) = true := by simpa using hn.symm
        clear hn
        go_wp2
        go_ret
        exact RetIx.hit k HF.out (by omega) (by first | exact hbel | exact hbel.drew)
      · have HN := Lib.hid (show ∀ (j : Nat) (d : Int), l[j]? = some d → j < k + 1 → d ≠ x from fun j d hd hj => by
          by_cases ej : j = k
          · subst ej; rw [HE.out] at hd; injection hd with hd; rw [← hd]; exact hn
          · exact hno.out j d hd (by omega))
        have q1 : (x == y) = false := by simpa using fun e => hn e.symm
        have HB := Lib.hid hbel
        clear hn hbel
        go_wp2
        go_roundw
        case rel => exact ⟨k + 1, by omega, by go_num, HB.out, HN⟩
        case measure => simp [intOf]; omega
    · have HF := Lib.hid (show l.contains x = false by
        rw [Bool.eq_false_iff]; intro h; rw [List.contains_iff_mem] at h
        obtain ⟨j, hj⟩ := List.mem_iff_getElem?.1 h
        exact hno.out j x hj (by have := (List.getElem?_eq_some_iff.1 hj).1; omega) rfl)
      go_wp2
      go_ret
      exact RetIx.miss HF.out hbel
set_option maxHeartbeats 1000000 in
theorem contI_any (v : Value) (l : List Int) (x : Int) (w : World) (hs : Sl w 1 v l.length (ints l)) (hl : l.length ≤ 1000000) :
    Calls Try.prog 58 #[v, .int .i64 x] w (RetBe w (l.contains x)) := by
  obtain ⟨A, c, rfl, hc1, hc2⟩ := hs.form
  have HI := Lib.hid (indexI_any _ l x w hs hl)
  go_enter Try.func58, Try.ntmps58
  go_wp2_with fail
  refine HI.out.mono ?_
  rintro _ w2 ⟨r, rfl, hr, h1, h2, hb⟩
  have HB := Lib.hid hb
  have HR := Lib.hid hr
  clear hb hr
  go_wp2
  go_ret
  exact RetBe.mk_ (by rw [← HR.out]) HB.out
set_option maxRecDepth 100000 in
set_option maxHeartbeats 2000000 in
theorem indexE_any (x : Ent) (v : Value) (l : List Ent) (w : World) (hs : Sl w 12 v l.length (ents l)) (hl : l.length ≤ 1000000) :
    Calls Try.prog 95 #[v, .agg #[.int .i64 x.id, .int .i64 x.rows, .int .i64 x.live, .bool x.lo.null, .int .i64 x.lo.n, .string x.lo.s, .int .i64 x.lo.seq, .bool x.hi.null, .int .i64 x.hi.n, .string x.hi.s, .int .i64 x.hi.seq, .int .i64 x.del]] w (RetIx w (l.any fun y => eqE x y)) := by
  obtain ⟨A, c, rfl, hc1, hc2⟩ := hs.form
  obtain ⟨W, hW⟩ : ∃ W, W = w.alloc (.cells #[.int .i64 x.id, .int .i64 x.rows, .int .i64 x.live, .bool x.lo.null, .int .i64 x.lo.n, .string x.lo.s, .int .i64 x.lo.seq, .bool x.hi.null, .int .i64 x.hi.n, .string x.hi.s, .int .i64 x.hi.seq, .int .i64 x.del] 34) := ⟨_, rfl⟩
  have HB0 := Lib.hid (show Below w.heap.size w W by rw [hW]; exact abel _ _)
  have hB := Lib.hid (show Blk W w.heap.size 34 #[.int .i64 x.id, .int .i64 x.rows, .int .i64 x.live, .bool x.lo.null, .int .i64 x.lo.n, .string x.lo.s, .int .i64 x.lo.seq, .bool x.hi.null, .int .i64 x.hi.n, .string x.hi.s, .int .i64 x.hi.seq, .int .i64 x.del] by rw [hW]; exact Blk.new _ _ _)
  have hs2 := hs.below HB0.out
  clear hs
  go_enter Try.func95, Try.ntmps95
  go_upto_region 1 with (fail)
  rw [← hW]
  clear hW
  obtain ⟨N, hN⟩ : ∃ N, w.heap.size = N := ⟨_, rfl⟩
  have HN := Lib.hid hN
  rw [hN] at hB
  simp only [hN]
  clear hN
  go_wp2
  go_loopw [8] (fun i wr => ∃ k : Nat, k ≤ l.length ∧ i = .int .i64 k ∧ Below W.heap.size W wr ∧ Hid (∀ (j : Nat) (d : Ent), l[j]? = some d → j < k → eqE x d = false)) (fun i _ => l.length - (intOf i).toNat)
  case atStart => exact ⟨0, by omega, rfl, Below.refl _ _, Lib.hid fun j d _ hj => absurd hj (Nat.not_lt_zero _)⟩
  case round =>
    obtain ⟨k, hk, rfl, hbel, hno⟩ := hrel
    by_cases hlt : k < l.length
    · obtain ⟨ad, e, p, rfl, he, hp, hE⟩ := (hs2.below hbel).ent_load rfl hlt
      obtain ⟨hplt, c0, c1, c2, c3, c4, c5, c6, c7, c8, c9, c10, c11⟩ := hE
      have bb := hB.out.below hbel hB.out.lt
      have b0 := bb.cell 0
      have b1 := bb.cell 1
      have b2 := bb.cell 2
      have b3 := bb.cell 3
      have b4 := bb.cell 4
      have b5 := bb.cell 5
      have b6 := bb.cell 6
      have b7 := bb.cell 7
      have b8 := bb.cell 8
      have b9 := bb.cell 9
      have b10 := bb.cell 10
      have b11 := bb.cell 11
      simp only [List.getElem?_toArray, List.getElem?_cons_zero, List.getElem?_cons_succ] at b0 b1 b2 b3 b4 b5 b6 b7 b8 b9 b10 b11
      have HE := Lib.hid he
      have HB := Lib.hid hbel
      have EQ := eql_ent x e
      clear he bb hbel
      cases hn : eqE x e with
      | true =>
        rw [hn] at EQ
        have HF := Lib.hid (show (l.any fun y => eqE x y) = true from List.any_eq_true.2 ⟨e, List.mem_of_getElem? HE.out, hn⟩)
        clear hn
        go_wp2
        go_quiet (fail)
        go_wp2
        go_ret
        exact RetIx.hit k HF.out (by omega) (HB0.out.trans ((below_drewN_q HB.out _).mono HB0.out.size))
      | false =>
        rw [hn] at EQ
        have HN2 := Lib.hid (show ∀ (j : Nat) (d : Ent), l[j]? = some d → j < k + 1 → eqE x d = false from fun j d hd hj => by
          by_cases ej : j = k
          · subst ej; rw [HE.out] at hd; injection hd with hd; rw [← hd]; exact hn
          · exact hno.out j d hd (by omega))
        clear hn
        go_wp2
        go_quiet (fail)
        go_wp2
        go_roundw
        case rel => exact ⟨k + 1, by omega, by go_num, below_drewN_q HB.out _, HN2⟩
        case measure => simp [intOf]; omega
    · have HF := Lib.hid (show (l.any fun y => eqE x y) = false by
        rw [Bool.eq_false_iff]; intro h; rw [List.any_eq_true] at h
        obtain ⟨d, hd, hx⟩ := h
        obtain ⟨j, hj⟩ := List.mem_iff_getElem?.1 hd
        have := hno.out j d hj (by have := (List.getElem?_eq_some_iff.1 hj).1; omega)
        rw [hx] at this; cases this)
      go_wp2
      go_ret
      exact RetIx.miss HF.out (HB0.out.trans (hbel.mono HB0.out.size))
set_option maxRecDepth 100000 in
set_option maxHeartbeats 2000000 in
theorem contE_any (x : Ent) (v : Value) (l : List Ent) (w : World) (hs : Sl w 12 v l.length (ents l)) (hl : l.length ≤ 1000000) :
    Calls Try.prog 74 #[v, .agg #[.int .i64 x.id, .int .i64 x.rows, .int .i64 x.live, .bool x.lo.null, .int .i64 x.lo.n, .string x.lo.s, .int .i64 x.lo.seq, .bool x.hi.null, .int .i64 x.hi.n, .string x.hi.s, .int .i64 x.hi.seq, .int .i64 x.del]] w (RetBe w (l.any fun y => eqE x y)) := by
  obtain ⟨A, c, rfl, hc1, hc2⟩ := hs.form
  have hb0 := abel w (.cells #[.int .i64 x.id, .int .i64 x.rows, .int .i64 x.live, .bool x.lo.null, .int .i64 x.lo.n, .string x.lo.s, .int .i64 x.lo.seq, .bool x.hi.null, .int .i64 x.hi.n, .string x.hi.s, .int .i64 x.hi.seq, .int .i64 x.del] 34)
  have HI := Lib.hid (indexE_any x _ l _ (hs.below hb0) hl)
  have HB0 := Lib.hid hb0
  clear hb0 hs
  go_enter Try.func74, Try.ntmps74
  go_wp2_with fail
  refine HI.out.mono ?_
  rintro _ w2 ⟨r, rfl, hr, h1, h2, hb⟩
  have HB := Lib.hid (bst HB0.out hb)
  have HR := Lib.hid hr
  clear hb hr
  go_wp2
  go_ret
  exact RetBe.mk_ (by rw [← HR.out]) HB.out
set_option maxRecDepth 100000 in
set_option maxHeartbeats 2000000 in
theorem freshLit_any (x : Ent) (l : List Ent) (g : Nat) (A : Option Addr) (c : Nat) (v0 v1 v2 : Value) (w : World) (hB : Blk w g 24 #[v0, v1, v2, .slice A l.length c]) (hs : Sl w 12 (.slice A l.length c) l.length (ents l)) (hl : l.length ≤ 1000000) {b : Bool} (hb : (l.any fun y => eqE x y) = b) :
    Calls Try.prog 78 #[.agg #[.int .i64 x.id, .int .i64 x.rows, .int .i64 x.live, .bool x.lo.null, .int .i64 x.lo.n, .string x.lo.s, .int .i64 x.lo.seq, .bool x.hi.null, .int .i64 x.hi.n, .string x.hi.s, .int .i64 x.hi.seq, .int .i64 x.del], .pointer (some ⟨g, 0, none⟩)] w (RetBe w (!b)) := by
  subst hb
  have hb0 := abel w (.cells #[.int .i64 x.id, .int .i64 x.rows, .int .i64 x.live, .bool x.lo.null, .int .i64 x.lo.n, .string x.lo.s, .int .i64 x.lo.seq, .bool x.hi.null, .int .i64 x.hi.n, .string x.hi.s, .int .i64 x.hi.seq, .int .i64 x.del] 34)
  have HI := Lib.hid (contE_any x _ l _ (hs.below hb0) hl)
  have c3 := (hB.alloc (.cells #[.int .i64 x.id, .int .i64 x.rows, .int .i64 x.live, .bool x.lo.null, .int .i64 x.lo.n, .string x.lo.s, .int .i64 x.lo.seq, .bool x.hi.null, .int .i64 x.hi.n, .string x.hi.s, .int .i64 x.hi.seq, .int .i64 x.del] 34)).cell 3
  simp only [List.getElem?_toArray, List.getElem?_cons_zero, List.getElem?_cons_succ] at c3
  have HB0 := Lib.hid hb0
  clear hb0 hs hB
  go_enter Try.func78, Try.ntmps78
  go_wp2_with fail
  refine HI.out.mono ?_
  rintro _ w2 ⟨rfl, hb⟩
  have HB := Lib.hid (bst HB0.out hb)
  clear hb
  go_wp2
  go_ret
  exact RetBe.mk_ rfl HB.out
set_option maxRecDepth 100000 in
set_option maxHeartbeats 2000000 in
theorem freshIdx_any (v : Value) (ins l : List Ent) (g : Nat) (A : Option Addr) (c : Nat) (v0 v1 v2 : Value) (w : World) (hB : Blk w g 24 #[v0, v1, v2, .slice A l.length c]) (hs : Sl w 12 (.slice A l.length c) l.length (ents l)) (hl : l.length ≤ 1000000)
    (hi : Sl w 12 v ins.length (ents ins)) (hil : ins.length ≤ 1000000) :
    Calls Try.prog 65 #[v, .func (.func 78) #[] #[.pointer (some ⟨g, 0, none⟩)]] w (RetIx w (ins.any fun x => !(l.any fun y => eqE x y))) := by
  obtain ⟨A', c', rfl, hc1, hc2⟩ := hi.form
  have HS := Lib.hid hs
  have HBk := Lib.hid hB
  clear hs hB
  go_enter Try.func65, Try.ntmps65
  go_wp2
  go_loopw [8] (fun i wr => ∃ k : Nat, k ≤ ins.length ∧ i = .int .i64 k ∧ Below w.heap.size w wr ∧ Hid (∀ (j : Nat) (d : Ent), ins[j]? = some d → j < k → (l.any fun y => eqE d y) = true)) (fun i _ => ins.length - (intOf i).toNat)
  case atStart => exact ⟨0, by omega, rfl, Below.refl _ _, Lib.hid fun j d _ hj => absurd hj (Nat.not_lt_zero _)⟩
  case round =>
    obtain ⟨k, hk, rfl, hbel, hno⟩ := hrel
    by_cases hlt : k < ins.length
    · obtain ⟨ad, e, p, rfl, he, hp, hE⟩ := (hi.below hbel).ent_load rfl hlt
      obtain ⟨hplt, c0, c1, c2, c3, c4, c5, c6, c7, c8, c9, c10, c11⟩ := hE
      have HE := Lib.hid he
      clear he
      have HC := fun (b : Bool) (hb : (l.any fun y => eqE e y) = b) => freshLit_any e l g A c v0 v1 v2 wr (HBk.out.below hbel HBk.out.lt) (HS.out.below hbel) hl hb
      cases hn : (l.any fun y => eqE e y) with
      | false =>
        have HC' := Lib.hid (HC _ hn)
        have HF := Lib.hid (show (ins.any fun x => !(l.any fun y => eqE x y)) = true from List.any_eq_true.2 ⟨e, List.mem_of_getElem? HE.out, by rw [hn]; rfl⟩)
        clear hn HC
        go_wp2_with fail
        refine HC'.out.mono ?_
        rintro _ w2 ⟨rfl, hb2⟩
        go_wp2
        go_ret
        exact RetIx.hit k HF.out (by omega) (hbel.trans (hb2.mono hbel.size))
      | true =>
        have HC' := Lib.hid (HC _ hn)
        have HN := Lib.hid (show ∀ (j : Nat) (d : Ent), ins[j]? = some d → j < k + 1 → (l.any fun y => eqE d y) = true from fun j d hd hj => by
          by_cases ej : j = k
          · subst ej; rw [HE.out] at hd; injection hd with hd; rw [← hd]; exact hn
          · exact hno.out j d hd (by omega))
        clear hn HC
        go_wp2_with fail
        refine HC'.out.mono ?_
        rintro _ w2 ⟨rfl, hb2⟩
        have HB := Lib.hid (hbel.trans (hb2.mono hbel.size))
        clear hb2 hbel
        go_wp2
        go_roundw
        case rel => exact ⟨k + 1, by omega, by go_num, HB.out, HN⟩
        case measure => simp [intOf]; omega
    · have HF := Lib.hid (show (ins.any fun x => !(l.any fun y => eqE x y)) = false by
        rw [Bool.eq_false_iff]; intro h; rw [List.any_eq_true] at h
        obtain ⟨d, hd, hx⟩ := h
        obtain ⟨j, hj⟩ := List.mem_iff_getElem?.1 hd
        rw [hno.out j d hj (by have := (List.getElem?_eq_some_iff.1 hj).1; omega)] at hx; cases hx)
      go_wp2
      go_ret
      exact RetIx.miss HF.out hbel
set_option maxRecDepth 100000 in
set_option maxHeartbeats 2000000 in
theorem freshFn_any (v : Value) (ins l : List Ent) (g : Nat) (A : Option Addr) (c : Nat) (v0 v1 v2 : Value) (w : World) (hB : Blk w g 24 #[v0, v1, v2, .slice A l.length c]) (hs : Sl w 12 (.slice A l.length c) l.length (ents l)) (hl : l.length ≤ 1000000)
    (hi : Sl w 12 v ins.length (ents ins)) (hil : ins.length ≤ 1000000) :
    Calls Try.prog 77 #[v, .func (.func 78) #[] #[.pointer (some ⟨g, 0, none⟩)]] w (RetBe w (ins.any fun x => !(l.any fun y => eqE x y))) := by
  obtain ⟨A', c', rfl, hc1, hc2⟩ := hi.form
  have HI := Lib.hid (freshIdx_any _ ins l g A c v0 v1 v2 w hB hs hl hi hil)
  clear hi hs hB
  go_enter Try.func77, Try.ntmps77
  go_wp2_with fail
  refine HI.out.mono ?_
  rintro _ w2 ⟨r, rfl, hr, h1, h2, hb⟩
  have HB := Lib.hid hb
  have HR := Lib.hid hr
  clear hb hr
  go_wp2
  go_ret
  exact RetBe.mk_ (by rw [← HR.out]) HB.out
def freshV (ins l : List Ent) : Bool := !(ins.any fun x => !(l.any fun y => eqE x y))
set_option maxRecDepth 100000 in
set_option maxHeartbeats 2000000 in
theorem fresh_any (x q n : Int) (vs v : Value) (ins l : List Ent) (w : World) (hs : Sl w 12 vs l.length (ents l)) (hl : l.length ≤ 1000000) (hi : Sl w 12 v ins.length (ents ins)) (hil : ins.length ≤ 1000000) :
    Calls Try.prog 59 #[.agg #[.int .i64 x, .int .i64 q, .int .i64 n, vs], v] w (RetBe w (freshV ins l)) := by
  obtain ⟨A, c, rfl, hc1, hc2⟩ := hs.form
  obtain ⟨A', c', rfl, hc1', hc2'⟩ := hi.form
  have hb0 := abel w (.cells #[.int .i64 x, .int .i64 q, .int .i64 n, .slice A l.length c] 24)
  have HI := Lib.hid (freshFn_any _ ins l w.heap.size A c _ _ _ _ (Blk.new w 24 #[.int .i64 x, .int .i64 q, .int .i64 n, .slice A l.length c]) (hs.below hb0) hl (hi.below hb0) hil)
  have HB0 := Lib.hid hb0
  clear hb0 hs hi
  go_enter Try.func59, Try.ntmps59
  go_wp2_with fail
  refine HI.out.mono ?_
  rintro _ w2 ⟨rfl, hb⟩
  have HB := Lib.hid (bst HB0.out hb)
  clear hb
  go_wp2
  go_ret
  exact RetBe.mk_ rfl HB.out
theorem sortI_any (v : Value) (base : Nat) (l : List Int) (w : World) (hown : w.ownsRow base 3 1 v l.length (ints l)) (hl : l.length ≤ 1000000) :
    Calls Try.prog 60 #[v] w fun e w' =>
      e = .returned (.tuple #[]) ∧ ∃ l', l'.Perm l ∧ w'.ownsRow base 3 1 v l'.length (ints l') ∧ w.grownBy w' v.ownBlock := by
  rcases hown.2 with ⟨rfl, h0⟩ | ⟨g, cap, cur, rfl, hb, hg, hn, hc, hcs, ht⟩
  · have hl0 := List.eq_nil_of_length_eq_zero h0
    subst hl0
    refine (calls_of_every_depth fun D => AnyS.slices_Sort_int_none_alone Try.laySortI D none 0 w).mono ?_
    rintro e w' ⟨rfl, rfl⟩
    exact ⟨rfl, [], List.Perm.refl _, World.ownsRow_nil _ _ _ _, World.grownBy.refl _ _⟩
  · have hH := holds_of_blockI hg (by rw [Nat.mul_one] at ht; exact ht)
    refine (calls_of_every_depth fun D => AnyS.slices_Sort_int_alone Try.laySortI D g 0 cap l w hH (Array.getElem?_eq_some_iff.1 hg).1 (by omega)).mono ?_
    rintro e w' ⟨rfl, n, os, rfl⟩
    have hp := List.mergeSort_perm l fun x y => decide (x ≤ y)
    refine ⟨rfl, _, hp, ?_, grownBy_sortedI _⟩
    have := ownsRow_sortedI (n := n) (os := os) hp.length_eq hb hg hn hc hcs
    rw [hp.length_eq]
    exact this
end Go.Proofs.Ytoikgjhekemjdaa
