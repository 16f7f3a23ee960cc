/-
  The contracts of picker.Peak's order of entries, and of the two sorts that Peak calls.
-/
import Derived.Test.YtcjekbncllccbaaPk2
import Derived.Test.YtcjekbncllccbaaEntSort
import Derived.Lib.SortBridge
import Derived.Sort.EveryDepth
import Derived.Sort.OwnSortedInts
namespace Go.Proofs.Ytcjekbncllccbaa
open Go.RowKit Go.Sort
/-- Only draws and new blocks. -/
def Grows (w w' : World) : Prop := ∃ q os, w' = grow (w.drewN q) os
theorem Grows.refl (w : World) : Grows w w := ⟨0, #[], by rw [grow_empty]; rfl⟩
theorem Grows.drew {w w' : World} (h : Grows w w') : Grows w w'.drew := by obtain ⟨q, os, rfl⟩ := h; exact ⟨q + 1, os, rfl⟩
theorem Grows.alloc {w w' : World} (h : Grows w w') (o : Obj) : Grows w (w'.alloc o) := by obtain ⟨q, os, rfl⟩ := h; exact ⟨q, _, by rw [alloc_eq_grow, grow_grow]⟩
theorem Grows.below {w w' : World} (h : Grows w w') : Below w.heap.size w w' := by obtain ⟨q, os, rfl⟩ := h; exact below_regrown w (w.drawn + q) os
theorem Grows.trans {a b c : World} (h : Grows a b) (k : Grows b c) : Grows a c := by obtain ⟨q, os, rfl⟩ := h; obtain ⟨q', os', rfl⟩ := k; exact ⟨q + q', os ++ os', by show grow (grow (World.drewN (a.drewN q) q') os) os' = _; rw [grow_grow, World.drewN_drewN]⟩
instance (x y : Ent) : Decidable (ltL x y) := by unfold ltL; exact inferInstance
def cmpP (x y : SEnt) : Int := orV [ordI x.1.live y.1.live, ordI x.1.id y.1.id]
theorem ltP (x y : SEnt) : ltOf cmpP x y = decide (ltL x.1 y.1) := by
  unfold ltOf cmpP ltL
  have h1 : orV [ordI x.1.live y.1.live, ordI x.1.id y.1.id] = if ordI x.1.live y.1.live = 0 then (if ordI x.1.id y.1.id = 0 then 0 else ordI x.1.id y.1.id) else ordI x.1.live y.1.live := rfl
  rw [h1]
  unfold ordI
  by_cases a1 : x.1.live < y.1.live <;> by_cases a2 : y.1.live < x.1.live <;> by_cases a3 : x.1.id < y.1.id <;> by_cases a4 : y.1.id < x.1.id <;> simp [a1, a2, a3, a4] <;> omega
theorem swoP : SWO (ltOf cmpP) where
  irrefl x := by rw [ltP]; simpa using ltL_irrefl x.1
  trans x y z h1 h2 := by rw [ltP] at *; simp only [decide_eq_true_eq] at *; exact ltL_trans h1 h2
  ntrans x y z h1 h2 := by rw [ltP] at *; simp only [decide_eq_false_iff_not] at *; unfold ltL at *; omega
set_option maxRecDepth 100000 in
set_option maxHeartbeats 8000000 in
theorem peakLit_any (x y : SEnt) (w : World) : Calls Try.prog 35 #[.agg (encS x).toArray, .agg (encS y).toArray] w fun e w' => e = .returned (.int .i64 (cmpP x y)) ∧ Grows w w' := by
  obtain ⟨⟨i1, r1, v1, ⟨a1, b1, c1, d1⟩, ⟨e1, f1, g1, h1⟩, k1⟩, x1, x2⟩ := x
  obtain ⟨⟨i2, r2, v2, ⟨a2, b2, c2, d2⟩, ⟨e2, f2, g2, h2⟩, k2⟩, y1, y2⟩ := y
  simp only at x1 x2 y1 y2
  show Calls Try.prog 35 #[.agg #[.int .i64 i1, .int .i64 r1, .int .i64 v1, .bool a1, .int .i64 b1, .string c1, .int .i64 d1, .bool e1, .int .i64 f1, .string g1, .int .i64 h1, .int .i64 k1], .agg #[.int .i64 i2, .int .i64 r2, .int .i64 v2, .bool a2, .int .i64 b2, .string c2, .int .i64 d2, .bool e2, .int .i64 f2, .string g2, .int .i64 h2, .int .i64 k2]] w fun e w' => e = .returned (.int .i64 (orV [ordI v1 v2, ordI i1 i2])) ∧ Grows w w'
  obtain ⟨W, hW⟩ : ∃ W, W = (w.alloc (.cells #[.int .i64 i1, .int .i64 r1, .int .i64 v1, .bool a1, .int .i64 b1, .string c1, .int .i64 d1, .bool e1, .int .i64 f1, .string g1, .int .i64 h1, .int .i64 k1] 41)).alloc (.cells #[.int .i64 i2, .int .i64 r2, .int .i64 v2, .bool a2, .int .i64 b2, .string c2, .int .i64 d2, .bool e2, .int .i64 f2, .string g2, .int .i64 h2, .int .i64 k2] 41) := ⟨_, rfl⟩
  have HB := Lib.hid (show Grows w W by rw [hW]; exact ((Grows.refl w).alloc _).alloc _)
  have B1 := Lib.hid (show Blk W w.heap.size 41 #[.int .i64 i1, .int .i64 r1, .int .i64 v1, .bool a1, .int .i64 b1, .string c1, .int .i64 d1, .bool e1, .int .i64 f1, .string g1, .int .i64 h1, .int .i64 k1] by rw [hW]; exact (Blk.new _ _ _).alloc _)
  have B2 := Lib.hid (show Blk W (w.heap.size + 1) 41 #[.int .i64 i2, .int .i64 r2, .int .i64 v2, .bool a2, .int .i64 b2, .string c2, .int .i64 d2, .bool e2, .int .i64 f2, .string g2, .int .i64 h2, .int .i64 k2] by
    have := Blk.new (w.alloc (.cells #[.int .i64 i1, .int .i64 r1, .int .i64 v1, .bool a1, .int .i64 b1, .string c1, .int .i64 d1, .bool e1, .int .i64 f1, .string g1, .int .i64 h1, .int .i64 k1] 41)) 41 #[.int .i64 i2, .int .i64 r2, .int .i64 v2, .bool a2, .int .i64 b2, .string c2, .int .i64 d2, .bool e2, .int .i64 f2, .string g2, .int .i64 h2, .int .i64 k2]
    rw [hW]; simpa using this)
  obtain ⟨k, hk⟩ : ∃ k, ordI v1 v2 = k := ⟨_, rfl⟩
  obtain ⟨q, hq⟩ : ∃ q, ordI i1 i2 = q := ⟨_, rfl⟩
  have C1 := Lib.hid (fun (X : World) => show Calls Try.prog 37 #[.int .i64 v1, .int .i64 v2] X (RetI0 X k) by rw [← hk]; exact cmpJ_any v1 v2 X)
  have C2 := Lib.hid (fun (X : World) => show Calls Try.prog 37 #[.int .i64 i1, .int .i64 i2] X (RetI0 X q) by rw [← hq]; exact cmpJ_any i1 i2 X)
  simp only [hk, hq]
  clear hk hq
  go_enter Try.func35, Try.ntmps35
  go_upto_region 1 with (fail)
  rw [← hW]
  clear hW
  refine wp_region_inv (by kernel_rfl) (by kernel_rfl) (fun L a w' => ∃ u5 u6 u7 u8 u9 u10 u11 u12 u13 u14 u15 u16 u4 : Value, a = ⟨#[.agg #[.int .i64 i1, .int .i64 r1, .int .i64 v1, .bool a1, .int .i64 b1, .string c1, .int .i64 d1, .bool e1, .int .i64 f1, .string g1, .int .i64 h1, .int .i64 k1], .agg #[.int .i64 i2, .int .i64 r2, .int .i64 v2, .bool a2, .int .i64 b2, .string c2, .int .i64 d2, .bool e2, .int .i64 f2, .string g2, .int .i64 h2, .int .i64 k2], .pointer (some ⟨w.heap.size, 0, none⟩), .pointer (some ⟨w.heap.size + 1, 0, none⟩), u4, u5, u6, u7, u8, u9, u10, u11, u12, u13, u14, u15, u16], []⟩ ∧
      Grows W w' ∧ Got (L 0) u5 (.pointer (some ⟨w.heap.size, 2, none⟩)) ∧ Got (L 1) u6 (.int .i64 v1) ∧ Got (L 2) u7 (.pointer (some ⟨w.heap.size + 1, 2, none⟩)) ∧ Got (L 3) u8 (.int .i64 v2) ∧ Got (L 4) u9 (.int .i64 k) ∧ Got (L 5) u10 (.pointer (some ⟨w.heap.size, 0, none⟩)) ∧ Got (L 6) u11 (.int .i64 i1) ∧ Got (L 7) u12 (.pointer (some ⟨w.heap.size + 1, 0, none⟩)) ∧ Got (L 8) u13 (.int .i64 i2) ∧ Got (L 9) u14 (.int .i64 q) ∧ GotRow (L 10) W.heap.size u15 2 3 #[.int .i64 k, .int .i64 q] w' ∧ Got (L 11) u16 (.int .i64 (orV [k, q])) ∧ Got (L 12) u4 (.int .i64 (orV [k, q])))
    ?_ ?_ ?_
  · exact ⟨_, _, _, _, _, _, _, _, _, _, _, _, _, rfl, (Grows.refl W).drew, nofun, nofun, nofun, nofun, nofun, nofun, nofun, nofun, nofun, nofun, nofun, nofun, nofun⟩
  · refine ⟨?_, ?_, ?_, ?_, ?_, ?_, ?_, ?_, ?_, ?_, ?_, ?_, ?_, trivial⟩
    · intro L a w' hI hl hd K hK
      refine hI.elim fun u5 hI => hI.elim fun u6 hI => hI.elim fun u7 hI => hI.elim fun u8 hI => hI.elim fun u9 hI => hI.elim fun u10 hI => hI.elim fun u11 hI => hI.elim fun u12 hI => hI.elim fun u13 hI => hI.elim fun u14 hI => hI.elim fun u15 hI => hI.elim fun u16 hI => hI.elim fun u4 hI => ?_
      have ha := hI.1
      subst ha
      have hb := hI.2.1
      have g0 := hI.2.2.1
      have g1 := hI.2.2.2.1
      have g2 := hI.2.2.2.2.1
      have g3 := hI.2.2.2.2.2.1
      have g4 := hI.2.2.2.2.2.2.1
      have g5 := hI.2.2.2.2.2.2.2.1
      have g6 := hI.2.2.2.2.2.2.2.2.1
      have g7 := hI.2.2.2.2.2.2.2.2.2.1
      have g8 := hI.2.2.2.2.2.2.2.2.2.2.1
      have g9 := hI.2.2.2.2.2.2.2.2.2.2.2.1
      have g10 := hI.2.2.2.2.2.2.2.2.2.2.2.2.1
      have g11 := hI.2.2.2.2.2.2.2.2.2.2.2.2.2.1
      have g12 := hI.2.2.2.2.2.2.2.2.2.2.2.2.2.2
      clear hI
      dsimp only at hK ⊢
      go_simp
      exact hK _ _ ⟨_, _, _, _, _, _, _, _, _, _, _, _, _, rfl, hb, fun _ => rfl, g1, g2, g3, g4, g5, g6, g7, g8, g9, g10, g11, g12⟩
    · intro L a w' hI hl hd K hK
      refine hI.elim fun u5 hI => hI.elim fun u6 hI => hI.elim fun u7 hI => hI.elim fun u8 hI => hI.elim fun u9 hI => hI.elim fun u10 hI => hI.elim fun u11 hI => hI.elim fun u12 hI => hI.elim fun u13 hI => hI.elim fun u14 hI => hI.elim fun u15 hI => hI.elim fun u16 hI => hI.elim fun u4 hI => ?_
      have ha := hI.1
      subst ha
      have hb := hI.2.1
      have g0 := hI.2.2.1
      have g1 := hI.2.2.2.1
      have g2 := hI.2.2.2.2.1
      have g3 := hI.2.2.2.2.2.1
      have g4 := hI.2.2.2.2.2.2.1
      have g5 := hI.2.2.2.2.2.2.2.1
      have g6 := hI.2.2.2.2.2.2.2.2.1
      have g7 := hI.2.2.2.2.2.2.2.2.2.1
      have g8 := hI.2.2.2.2.2.2.2.2.2.2.1
      have g9 := hI.2.2.2.2.2.2.2.2.2.2.2.1
      have g10 := hI.2.2.2.2.2.2.2.2.2.2.2.2.1
      have g11 := hI.2.2.2.2.2.2.2.2.2.2.2.2.2.1
      have g12 := hI.2.2.2.2.2.2.2.2.2.2.2.2.2.2
      clear hI
      simp [Region.binds] at hd
      dsimp only at hK ⊢
      have e0 := g0 (by simp [hd])
      subst e0
      have bb := B1.out.below hb.below B1.out.lt
      have cc := bb.cell 2
      simp only [List.getElem?_toArray, List.getElem?_cons_zero, List.getElem?_cons_succ] at cc
      go_simp
      exact hK _ _ ⟨_, _, _, _, _, _, _, _, _, _, _, _, _, rfl, hb, g0, fun _ => rfl, g2, g3, g4, g5, g6, g7, g8, g9, g10, g11, g12⟩
    · intro L a w' hI hl hd K hK
      refine hI.elim fun u5 hI => hI.elim fun u6 hI => hI.elim fun u7 hI => hI.elim fun u8 hI => hI.elim fun u9 hI => hI.elim fun u10 hI => hI.elim fun u11 hI => hI.elim fun u12 hI => hI.elim fun u13 hI => hI.elim fun u14 hI => hI.elim fun u15 hI => hI.elim fun u16 hI => hI.elim fun u4 hI => ?_
      have ha := hI.1
      subst ha
      have hb := hI.2.1
      have g0 := hI.2.2.1
      have g1 := hI.2.2.2.1
      have g2 := hI.2.2.2.2.1
      have g3 := hI.2.2.2.2.2.1
      have g4 := hI.2.2.2.2.2.2.1
      have g5 := hI.2.2.2.2.2.2.2.1
      have g6 := hI.2.2.2.2.2.2.2.2.1
      have g7 := hI.2.2.2.2.2.2.2.2.2.1
      have g8 := hI.2.2.2.2.2.2.2.2.2.2.1
      have g9 := hI.2.2.2.2.2.2.2.2.2.2.2.1
      have g10 := hI.2.2.2.2.2.2.2.2.2.2.2.2.1
      have g11 := hI.2.2.2.2.2.2.2.2.2.2.2.2.2.1
      have g12 := hI.2.2.2.2.2.2.2.2.2.2.2.2.2.2
      clear hI
      dsimp only at hK ⊢
      go_simp
      exact hK _ _ ⟨_, _, _, _, _, _, _, _, _, _, _, _, _, rfl, hb, g0, g1, fun _ => rfl, g3, g4, g5, g6, g7, g8, g9, g10, g11, g12⟩
    · intro L a w' hI hl hd K hK
      refine hI.elim fun u5 hI => hI.elim fun u6 hI => hI.elim fun u7 hI => hI.elim fun u8 hI => hI.elim fun u9 hI => hI.elim fun u10 hI => hI.elim fun u11 hI => hI.elim fun u12 hI => hI.elim fun u13 hI => hI.elim fun u14 hI => hI.elim fun u15 hI => hI.elim fun u16 hI => hI.elim fun u4 hI => ?_
      have ha := hI.1
      subst ha
      have hb := hI.2.1
      have g0 := hI.2.2.1
      have g1 := hI.2.2.2.1
      have g2 := hI.2.2.2.2.1
      have g3 := hI.2.2.2.2.2.1
      have g4 := hI.2.2.2.2.2.2.1
      have g5 := hI.2.2.2.2.2.2.2.1
      have g6 := hI.2.2.2.2.2.2.2.2.1
      have g7 := hI.2.2.2.2.2.2.2.2.2.1
      have g8 := hI.2.2.2.2.2.2.2.2.2.2.1
      have g9 := hI.2.2.2.2.2.2.2.2.2.2.2.1
      have g10 := hI.2.2.2.2.2.2.2.2.2.2.2.2.1
      have g11 := hI.2.2.2.2.2.2.2.2.2.2.2.2.2.1
      have g12 := hI.2.2.2.2.2.2.2.2.2.2.2.2.2.2
      clear hI
      simp [Region.binds] at hd
      dsimp only at hK ⊢
      have e2 := g2 (by simp [hd])
      subst e2
      have bb := B2.out.below hb.below B2.out.lt
      have cc := bb.cell 2
      simp only [List.getElem?_toArray, List.getElem?_cons_zero, List.getElem?_cons_succ] at cc
      go_simp
      exact hK _ _ ⟨_, _, _, _, _, _, _, _, _, _, _, _, _, rfl, hb, g0, g1, g2, fun _ => rfl, g4, g5, g6, g7, g8, g9, g10, g11, g12⟩
    · intro L a w' hI hl hd K hK
      refine hI.elim fun u5 hI => hI.elim fun u6 hI => hI.elim fun u7 hI => hI.elim fun u8 hI => hI.elim fun u9 hI => hI.elim fun u10 hI => hI.elim fun u11 hI => hI.elim fun u12 hI => hI.elim fun u13 hI => hI.elim fun u14 hI => hI.elim fun u15 hI => hI.elim fun u16 hI => hI.elim fun u4 hI => ?_
      have ha := hI.1
      subst ha
      have hb := hI.2.1
      have g0 := hI.2.2.1
      have g1 := hI.2.2.2.1
      have g2 := hI.2.2.2.2.1
      have g3 := hI.2.2.2.2.2.1
      have g4 := hI.2.2.2.2.2.2.1
      have g5 := hI.2.2.2.2.2.2.2.1
      have g6 := hI.2.2.2.2.2.2.2.2.1
      have g7 := hI.2.2.2.2.2.2.2.2.2.1
      have g8 := hI.2.2.2.2.2.2.2.2.2.2.1
      have g9 := hI.2.2.2.2.2.2.2.2.2.2.2.1
      have g10 := hI.2.2.2.2.2.2.2.2.2.2.2.2.1
      have g11 := hI.2.2.2.2.2.2.2.2.2.2.2.2.2.1
      have g12 := hI.2.2.2.2.2.2.2.2.2.2.2.2.2.2
      clear hI
      simp [Region.binds] at hd
      dsimp only at hK ⊢
      have e1 := g1 (by simp [hd])
      subst e1
      have e3 := g3 (by simp [hd])
      subst e3
      go_wp2_with fail
      refine (C1.out w').mono ?_
      rintro _ w4 ⟨rfl, rfl⟩
      exact hK _ _ ⟨_, _, _, _, _, _, _, _, _, _, _, _, _, rfl, hb, g0, g1, g2, g3, fun _ => rfl, g5, g6, g7, g8, g9, g10, g11, g12⟩
    · intro L a w' hI hl hd K hK
      refine hI.elim fun u5 hI => hI.elim fun u6 hI => hI.elim fun u7 hI => hI.elim fun u8 hI => hI.elim fun u9 hI => hI.elim fun u10 hI => hI.elim fun u11 hI => hI.elim fun u12 hI => hI.elim fun u13 hI => hI.elim fun u14 hI => hI.elim fun u15 hI => hI.elim fun u16 hI => hI.elim fun u4 hI => ?_
      have ha := hI.1
      subst ha
      have hb := hI.2.1
      have g0 := hI.2.2.1
      have g1 := hI.2.2.2.1
      have g2 := hI.2.2.2.2.1
      have g3 := hI.2.2.2.2.2.1
      have g4 := hI.2.2.2.2.2.2.1
      have g5 := hI.2.2.2.2.2.2.2.1
      have g6 := hI.2.2.2.2.2.2.2.2.1
      have g7 := hI.2.2.2.2.2.2.2.2.2.1
      have g8 := hI.2.2.2.2.2.2.2.2.2.2.1
      have g9 := hI.2.2.2.2.2.2.2.2.2.2.2.1
      have g10 := hI.2.2.2.2.2.2.2.2.2.2.2.2.1
      have g11 := hI.2.2.2.2.2.2.2.2.2.2.2.2.2.1
      have g12 := hI.2.2.2.2.2.2.2.2.2.2.2.2.2.2
      clear hI
      dsimp only at hK ⊢
      go_simp
      exact hK _ _ ⟨_, _, _, _, _, _, _, _, _, _, _, _, _, rfl, hb, g0, g1, g2, g3, g4, fun _ => rfl, g6, g7, g8, g9, g10, g11, g12⟩
    · intro L a w' hI hl hd K hK
      refine hI.elim fun u5 hI => hI.elim fun u6 hI => hI.elim fun u7 hI => hI.elim fun u8 hI => hI.elim fun u9 hI => hI.elim fun u10 hI => hI.elim fun u11 hI => hI.elim fun u12 hI => hI.elim fun u13 hI => hI.elim fun u14 hI => hI.elim fun u15 hI => hI.elim fun u16 hI => hI.elim fun u4 hI => ?_
      have ha := hI.1
      subst ha
      have hb := hI.2.1
      have g0 := hI.2.2.1
      have g1 := hI.2.2.2.1
      have g2 := hI.2.2.2.2.1
      have g3 := hI.2.2.2.2.2.1
      have g4 := hI.2.2.2.2.2.2.1
      have g5 := hI.2.2.2.2.2.2.2.1
      have g6 := hI.2.2.2.2.2.2.2.2.1
      have g7 := hI.2.2.2.2.2.2.2.2.2.1
      have g8 := hI.2.2.2.2.2.2.2.2.2.2.1
      have g9 := hI.2.2.2.2.2.2.2.2.2.2.2.1
      have g10 := hI.2.2.2.2.2.2.2.2.2.2.2.2.1
      have g11 := hI.2.2.2.2.2.2.2.2.2.2.2.2.2.1
      have g12 := hI.2.2.2.2.2.2.2.2.2.2.2.2.2.2
      clear hI
      simp [Region.binds] at hd
      dsimp only at hK ⊢
      have e5 := g5 (by simp [hd])
      subst e5
      have bb := B1.out.below hb.below B1.out.lt
      have cc := bb.cell 0
      simp only [List.getElem?_toArray, List.getElem?_cons_zero] at cc
      go_simp
      exact hK _ _ ⟨_, _, _, _, _, _, _, _, _, _, _, _, _, rfl, hb, g0, g1, g2, g3, g4, g5, fun _ => rfl, g7, g8, g9, g10, g11, g12⟩
    · intro L a w' hI hl hd K hK
      refine hI.elim fun u5 hI => hI.elim fun u6 hI => hI.elim fun u7 hI => hI.elim fun u8 hI => hI.elim fun u9 hI => hI.elim fun u10 hI => hI.elim fun u11 hI => hI.elim fun u12 hI => hI.elim fun u13 hI => hI.elim fun u14 hI => hI.elim fun u15 hI => hI.elim fun u16 hI => hI.elim fun u4 hI => ?_
      have ha := hI.1
      subst ha
      have hb := hI.2.1
      have g0 := hI.2.2.1
      have g1 := hI.2.2.2.1
      have g2 := hI.2.2.2.2.1
      have g3 := hI.2.2.2.2.2.1
      have g4 := hI.2.2.2.2.2.2.1
      have g5 := hI.2.2.2.2.2.2.2.1
      have g6 := hI.2.2.2.2.2.2.2.2.1
      have g7 := hI.2.2.2.2.2.2.2.2.2.1
      have g8 := hI.2.2.2.2.2.2.2.2.2.2.1
      have g9 := hI.2.2.2.2.2.2.2.2.2.2.2.1
      have g10 := hI.2.2.2.2.2.2.2.2.2.2.2.2.1
      have g11 := hI.2.2.2.2.2.2.2.2.2.2.2.2.2.1
      have g12 := hI.2.2.2.2.2.2.2.2.2.2.2.2.2.2
      clear hI
      dsimp only at hK ⊢
      go_simp
      exact hK _ _ ⟨_, _, _, _, _, _, _, _, _, _, _, _, _, rfl, hb, g0, g1, g2, g3, g4, g5, g6, fun _ => rfl, g8, g9, g10, g11, g12⟩
    · intro L a w' hI hl hd K hK
      refine hI.elim fun u5 hI => hI.elim fun u6 hI => hI.elim fun u7 hI => hI.elim fun u8 hI => hI.elim fun u9 hI => hI.elim fun u10 hI => hI.elim fun u11 hI => hI.elim fun u12 hI => hI.elim fun u13 hI => hI.elim fun u14 hI => hI.elim fun u15 hI => hI.elim fun u16 hI => hI.elim fun u4 hI => ?_
      have ha := hI.1
      subst ha
      have hb := hI.2.1
      have g0 := hI.2.2.1
      have g1 := hI.2.2.2.1
      have g2 := hI.2.2.2.2.1
      have g3 := hI.2.2.2.2.2.1
      have g4 := hI.2.2.2.2.2.2.1
      have g5 := hI.2.2.2.2.2.2.2.1
      have g6 := hI.2.2.2.2.2.2.2.2.1
      have g7 := hI.2.2.2.2.2.2.2.2.2.1
      have g8 := hI.2.2.2.2.2.2.2.2.2.2.1
      have g9 := hI.2.2.2.2.2.2.2.2.2.2.2.1
      have g10 := hI.2.2.2.2.2.2.2.2.2.2.2.2.1
      have g11 := hI.2.2.2.2.2.2.2.2.2.2.2.2.2.1
      have g12 := hI.2.2.2.2.2.2.2.2.2.2.2.2.2.2
      clear hI
      simp [Region.binds] at hd
      dsimp only at hK ⊢
      have e7 := g7 (by simp [hd])
      subst e7
      have bb := B2.out.below hb.below B2.out.lt
      have cc := bb.cell 0
      simp only [List.getElem?_toArray, List.getElem?_cons_zero] at cc
      go_simp
      exact hK _ _ ⟨_, _, _, _, _, _, _, _, _, _, _, _, _, rfl, hb, g0, g1, g2, g3, g4, g5, g6, g7, fun _ => rfl, g9, g10, g11, g12⟩
    · intro L a w' hI hl hd K hK
      refine hI.elim fun u5 hI => hI.elim fun u6 hI => hI.elim fun u7 hI => hI.elim fun u8 hI => hI.elim fun u9 hI => hI.elim fun u10 hI => hI.elim fun u11 hI => hI.elim fun u12 hI => hI.elim fun u13 hI => hI.elim fun u14 hI => hI.elim fun u15 hI => hI.elim fun u16 hI => hI.elim fun u4 hI => ?_
      have ha := hI.1
      subst ha
      have hb := hI.2.1
      have g0 := hI.2.2.1
      have g1 := hI.2.2.2.1
      have g2 := hI.2.2.2.2.1
      have g3 := hI.2.2.2.2.2.1
      have g4 := hI.2.2.2.2.2.2.1
      have g5 := hI.2.2.2.2.2.2.2.1
      have g6 := hI.2.2.2.2.2.2.2.2.1
      have g7 := hI.2.2.2.2.2.2.2.2.2.1
      have g8 := hI.2.2.2.2.2.2.2.2.2.2.1
      have g9 := hI.2.2.2.2.2.2.2.2.2.2.2.1
      have g10 := hI.2.2.2.2.2.2.2.2.2.2.2.2.1
      have g11 := hI.2.2.2.2.2.2.2.2.2.2.2.2.2.1
      have g12 := hI.2.2.2.2.2.2.2.2.2.2.2.2.2.2
      clear hI
      simp [Region.binds] at hd
      dsimp only at hK ⊢
      have e6 := g6 (by simp [hd])
      subst e6
      have e8 := g8 (by simp [hd])
      subst e8
      go_wp2_with fail
      refine (C2.out w').mono ?_
      rintro _ w4 ⟨rfl, rfl⟩
      exact hK _ _ ⟨_, _, _, _, _, _, _, _, _, _, _, _, _, rfl, hb, g0, g1, g2, g3, g4, g5, g6, g7, g8, fun _ => rfl, g10, g11, g12⟩
    · intro L a w' hI hl hd K hK
      refine hI.elim fun u5 hI => hI.elim fun u6 hI => hI.elim fun u7 hI => hI.elim fun u8 hI => hI.elim fun u9 hI => hI.elim fun u10 hI => hI.elim fun u11 hI => hI.elim fun u12 hI => hI.elim fun u13 hI => hI.elim fun u14 hI => hI.elim fun u15 hI => hI.elim fun u16 hI => hI.elim fun u4 hI => ?_
      have ha := hI.1
      subst ha
      have hb := hI.2.1
      have g0 := hI.2.2.1
      have g1 := hI.2.2.2.1
      have g2 := hI.2.2.2.2.1
      have g3 := hI.2.2.2.2.2.1
      have g4 := hI.2.2.2.2.2.2.1
      have g5 := hI.2.2.2.2.2.2.2.1
      have g6 := hI.2.2.2.2.2.2.2.2.1
      have g7 := hI.2.2.2.2.2.2.2.2.2.1
      have g8 := hI.2.2.2.2.2.2.2.2.2.2.1
      have g9 := hI.2.2.2.2.2.2.2.2.2.2.2.1
      have g10 := hI.2.2.2.2.2.2.2.2.2.2.2.2.1
      have g11 := hI.2.2.2.2.2.2.2.2.2.2.2.2.2.1
      have g12 := hI.2.2.2.2.2.2.2.2.2.2.2.2.2.2
      clear hI
      simp [Region.binds] at hd
      dsimp only at hK ⊢
      have e4 := g4 (by simp [hd])
      subst e4
      have e9 := g9 (by simp [hd])
      subst e9
      go_simp
      exact hK _ _ ⟨_, _, _, _, _, _, _, _, _, _, _, _, _, rfl, hb.alloc _, g0, g1, g2, g3, g4, g5, g6, g7, g8, g9, fun _ => ⟨_, rfl, hb.below.size, Blk.new _ _ _⟩, g11, g12⟩
    · intro L a w' hI hl hd K hK
      refine hI.elim fun u5 hI => hI.elim fun u6 hI => hI.elim fun u7 hI => hI.elim fun u8 hI => hI.elim fun u9 hI => hI.elim fun u10 hI => hI.elim fun u11 hI => hI.elim fun u12 hI => hI.elim fun u13 hI => hI.elim fun u14 hI => hI.elim fun u15 hI => hI.elim fun u16 hI => hI.elim fun u4 hI => ?_
      have ha := hI.1
      subst ha
      have hb := hI.2.1
      have g0 := hI.2.2.1
      have g1 := hI.2.2.2.1
      have g2 := hI.2.2.2.2.1
      have g3 := hI.2.2.2.2.2.1
      have g4 := hI.2.2.2.2.2.2.1
      have g5 := hI.2.2.2.2.2.2.2.1
      have g6 := hI.2.2.2.2.2.2.2.2.1
      have g7 := hI.2.2.2.2.2.2.2.2.2.1
      have g8 := hI.2.2.2.2.2.2.2.2.2.2.1
      have g9 := hI.2.2.2.2.2.2.2.2.2.2.2.1
      have g10 := hI.2.2.2.2.2.2.2.2.2.2.2.2.1
      have g11 := hI.2.2.2.2.2.2.2.2.2.2.2.2.2.1
      have g12 := hI.2.2.2.2.2.2.2.2.2.2.2.2.2.2
      clear hI
      simp [Region.binds] at hd
      dsimp only at hK ⊢
      obtain ⟨A, e18, hA, hB⟩ := g10 (by simp [hd])
      subst e18
      go_wp2_with fail
      refine (or_any _ [k, q] w' (show Sl w' 1 _ 2 (ints [k, q]) from blk_sl1 hB rfl (by decide)) (by simp)).mono ?_
      rintro _ w4 ⟨rfl, rfl⟩
      exact hK _ _ ⟨_, _, _, _, _, _, _, _, _, _, _, _, _, rfl, hb, g0, g1, g2, g3, g4, g5, g6, g7, g8, g9, fun _ => ⟨_, rfl, hA, hB⟩, fun _ => rfl, g12⟩
    · intro L a w' hI hl hd K hK
      refine hI.elim fun u5 hI => hI.elim fun u6 hI => hI.elim fun u7 hI => hI.elim fun u8 hI => hI.elim fun u9 hI => hI.elim fun u10 hI => hI.elim fun u11 hI => hI.elim fun u12 hI => hI.elim fun u13 hI => hI.elim fun u14 hI => hI.elim fun u15 hI => hI.elim fun u16 hI => hI.elim fun u4 hI => ?_
      have ha := hI.1
      subst ha
      have hb := hI.2.1
      have g0 := hI.2.2.1
      have g1 := hI.2.2.2.1
      have g2 := hI.2.2.2.2.1
      have g3 := hI.2.2.2.2.2.1
      have g4 := hI.2.2.2.2.2.2.1
      have g5 := hI.2.2.2.2.2.2.2.1
      have g6 := hI.2.2.2.2.2.2.2.2.1
      have g7 := hI.2.2.2.2.2.2.2.2.2.1
      have g8 := hI.2.2.2.2.2.2.2.2.2.2.1
      have g9 := hI.2.2.2.2.2.2.2.2.2.2.2.1
      have g10 := hI.2.2.2.2.2.2.2.2.2.2.2.2.1
      have g11 := hI.2.2.2.2.2.2.2.2.2.2.2.2.2.1
      have g12 := hI.2.2.2.2.2.2.2.2.2.2.2.2.2.2
      clear hI
      simp [Region.binds] at hd
      dsimp only at hK ⊢
      have e11 := g11 (by simp [hd])
      subst e11
      go_simp
      exact hK _ _ ⟨_, _, _, _, _, _, _, _, _, _, _, _, _, rfl, hb, g0, g1, g2, g3, g4, g5, g6, g7, g8, g9, g10, g11, fun _ => rfl⟩
  intro a w3 hI
  refine hI.elim fun u5 hI => hI.elim fun u6 hI => hI.elim fun u7 hI => hI.elim fun u8 hI => hI.elim fun u9 hI => hI.elim fun u10 hI => hI.elim fun u11 hI => hI.elim fun u12 hI => hI.elim fun u13 hI => hI.elim fun u14 hI => hI.elim fun u15 hI => hI.elim fun u16 hI => hI.elim fun u4 hI => ?_
  have ha := hI.1
  subst ha
  have hb := hI.2.1
  have g0 := hI.2.2.1
  have g1 := hI.2.2.2.1
  have g2 := hI.2.2.2.2.1
  have g3 := hI.2.2.2.2.2.1
  have g4 := hI.2.2.2.2.2.2.1
  have g5 := hI.2.2.2.2.2.2.2.1
  have g6 := hI.2.2.2.2.2.2.2.2.1
  have g7 := hI.2.2.2.2.2.2.2.2.2.1
  have g8 := hI.2.2.2.2.2.2.2.2.2.2.1
  have g9 := hI.2.2.2.2.2.2.2.2.2.2.2.1
  have g10 := hI.2.2.2.2.2.2.2.2.2.2.2.2.1
  have g11 := hI.2.2.2.2.2.2.2.2.2.2.2.2.2.1
  have g12 := hI.2.2.2.2.2.2.2.2.2.2.2.2.2.2
  clear hI
  have e12 := g12 rfl
  subst e12
  have HX := Lib.hid (HB.out.trans hb)
  clear g0 g1 g2 g3 g4 g5 g6 g7 g8 g9 g10 g11 g12 hb
  go_wp2
  go_ret
  exact ⟨rfl, HX.out⟩
theorem cmpLaysP (blk off size : Nat) (w : World) : CmpLays Try.prog 35 #[] encS 12 cmpP blk off size w := fun _ _ _ _ x y => peakLit_any x y _
set_option maxRecDepth 100000 in
set_option maxHeartbeats 1000000 in
theorem sortRowP_any (g cap base : Nat) (l : List Ent) (w : World) (hown : w.ownsRow base 41 12 (.slice (some ⟨g, 0, none⟩) l.length cap) l.length (ents l)) (hid : ∀ e ∈ l, 0 ≤ e.id ∧ e.id ≤ 2147483647) (hl : l.length ≤ 1000000) :
    Calls Try.prog 34 #[.slice (some ⟨g, 0, none⟩) l.length cap, .func (.func 35) #[] #[]] w fun e w' =>
      e = .returned (.tuple #[]) ∧ ∃ l', l'.Perm l ∧ l'.Pairwise (fun a b => ¬ ltL b a) ∧ w'.ownsRow base 41 12 (.slice (some ⟨g, 0, none⟩) l'.length cap) l'.length (ents l') ∧ w.grownBy w' (some g) := by
  obtain ⟨d, rfl⟩ := lift_S hid
  rw [plainE_length] at hown hl ⊢
  have hlt : g < w.heap.size := (hown.lt g rfl).2
  have eg : ∀ args w, (callFunc 35 args).run Try.prog w = .ok (.enter 35 args) w := enters_of Try.func35 (by kernel_rfl) rfl
  refine (AnyQ.slices_SortFunc Try.laySort 12 Try.isAgg41 Try.sizeOf41 encS (fun _ => rfl) (fun x v hv => one_ents' [x.1] v (by show v ∈ [x.1].flatMap Ent.cells; rw [List.flatMap_singleton]; exact hv)) cmpP swoP 35 #[] g 0 cap d w eg (cmpLaysP g 0 d.size w) (holds_of_own hown) hlt (by omega)).mono ?_
  rintro e w' ⟨rfl, d', n, os, ⟨hsz, _, hp⟩, hsort, rfl⟩
  obtain ⟨ho, hg⟩ := own_of_sort (n := n) (os := os) hown hsz
  refine ⟨rfl, plainE d', ?_, ?_, ?_, hg⟩
  · have h1 : d'.extract 0 d.size = d' := by rw [← hsz]; simp
    have h2 : d.extract 0 d.size = d := by simp
    rw [h1, h2] at hp
    exact hp.map _
  · rw [List.pairwise_iff_getElem]
    intro i j hi hj hij
    have hj' : j < d'.size := by rw [plainE_length] at hj; exact hj
    have := hsort i j (Nat.zero_le _) hij (by omega)
    rw [ltP] at this
    simp only [plainE, List.getElem_map, Array.getElem_toList]
    rw [getElem!_pos d' j (by omega), getElem!_pos d' i (by omega)] at this
    simpa using this
  · rw [plainE_length, hsz]; exact ho
/-- SortFunc at a row of the call's own: the list with these entries in the order of ltL. -/
theorem sortP_any (v : Value) (base : Nat) (l S : List Ent) (w : World) (hown : w.ownsRow base 41 12 v l.length (ents l)) (hid : ∀ e ∈ l, 0 ≤ e.id ∧ e.id ≤ 2147483647) (hl : l.length ≤ 1000000) (hS : S.Perm l) (hA : S.Pairwise ltL) (hu : ∀ x ∈ l, ∀ y ∈ l, x.id = y.id → x = y) :
    Calls Try.prog 34 #[v, .func (.func 35) #[] #[]] w fun e w' =>
      e = .returned (.tuple #[]) ∧ w'.ownsRow base 41 12 v S.length (ents S) ∧ w.grownBy w' v.ownBlock := by
  rcases hown.2 with ⟨rfl, h0⟩ | ⟨g, cap, cur, rfl, _⟩
  · have hl0 := List.eq_nil_of_length_eq_zero h0
    subst hl0
    have hS0 := List.Perm.eq_nil hS
    subst hS0
    exact (sortNil_any _ w).mono fun e w' ⟨h1, h2⟩ => by subst h2; exact ⟨h1, World.ownsRow_nil _ _ _ _, World.grownBy.refl _ _⟩
  · refine (sortRowP_any g cap base l w hown hid hl).mono ?_
    rintro e w' ⟨rfl, l', hp, hs, ho, hg⟩
    have hle : S.Pairwise fun a b => ¬ ltL b a := hA.imp fun h h' => ltL_irrefl _ (ltL_trans h h')
    have heq : l' = S := (hp.trans hS.symm).eq_of_pairwise (fun x y hx hy h1 h2 => hu x ((hp.mem_iff).1 hx) y ((hS.mem_iff).1 hy) (by unfold ltL at h1 h2; omega)) hs hle
    subst heq
    exact ⟨rfl, by rw [hp.length_eq] at ho ⊢; exact ho, hg⟩
theorem sortQ_any (v : Value) (base : Nat) (l S : List Int) (w : World) (hown : w.ownsRow base 3 1 v l.length (ints l)) (hl : l.length ≤ 1000000) (hS : S.Perm l) (hA : S.Pairwise (· < ·)) :
    Calls Try.prog 38 #[v] w fun e w' =>
      e = .returned (.tuple #[]) ∧ w'.ownsRow base 3 1 v S.length (ints S) ∧ w.grownBy w' v.ownBlock := by
  rcases hown.2 with ⟨rfl, h0⟩ | ⟨g, cap, cur, rfl, hb, hg, hn, hc, hcs, ht⟩
  · have hl0 := List.eq_nil_of_length_eq_zero h0
    subst hl0
    have hS0 := List.Perm.eq_nil hS
    subst hS0
    refine (calls_of_every_depth fun D => AnyS.slices_Sort_int_none_alone Try.laySortI D none 0 w).mono ?_
    rintro e w' ⟨rfl, rfl⟩
    exact ⟨rfl, World.ownsRow_nil _ _ _ _, World.grownBy.refl _ _⟩
  · have hH := holds_of_blockI hg (by rw [Nat.mul_one] at ht; exact ht)
    refine (calls_of_every_depth fun D => AnyS.slices_Sort_int_alone Try.laySortI D g 0 cap l w hH (Array.getElem?_eq_some_iff.1 hg).1 (by omega)).mono ?_
    rintro e w' ⟨rfl, n, os, rfl⟩
    have hp := List.mergeSort_perm l fun x y => decide (x ≤ y)
    have hs : (l.mergeSort fun x y => decide (x ≤ y)).Pairwise (fun x y : Int => x ≤ y) := by
      have := List.pairwise_mergeSort (le := fun x y : Int => decide (x ≤ y)) (by intro a b c h1 h2; simp at *; omega) (by intro a b; simp; omega) l
      exact this.imp fun h => by simpa using h
    have heq : (l.mergeSort fun x y => decide (x ≤ y)) = S := (hp.trans hS.symm).eq_of_pairwise (fun x y _ _ h1 h2 => by omega) hs (hA.imp fun h => Int.le_of_lt h)
    have := ownsRow_sortedI (n := n) (os := os) hp.length_eq hb hg hn hc hcs
    refine ⟨rfl, ?_, grownBy_sortedI _⟩
    rw [heq] at this ⊢
    rw [hS.length_eq]
    exact this
end Go.Proofs.Ytcjekbncllccbaa
