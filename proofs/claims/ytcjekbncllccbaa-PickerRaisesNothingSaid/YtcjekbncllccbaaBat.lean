/-
  The contracts of cmp.Or at int and of batch.Compare.
-/
import Derived.Test.YtcjekbncllccbaaKRanges
import Derived.Test.YtcjekbncllccbaaBase
namespace Go.Proofs.Ytcjekbncllccbaa
open Go.RowKit Go.Sort

/-- The first that is not 0. -/
def orV : List Int → Int
  | [] => 0
  | x :: r => if x = 0 then orV r else x
theorem orV_skip : ∀ {l : List Int} {k : Nat}, (∀ j x, l[j]? = some x → j < k → x = 0) → orV l = orV (l.drop k)
  | _, 0, _ => by simp
  | [], k + 1, _ => by simp
  | x :: r, k + 1, h => by
    have h0 : x = 0 := h 0 x (by simp) (by omega)
    rw [List.drop_succ_cons, show orV (x :: r) = if x = 0 then orV r else x from rfl, if_pos h0]
    exact orV_skip (k := k) fun j y hy hj => h (j + 1) y (by simpa using hy) (by omega)
theorem orV_hit {l : List Int} {k : Nat} {x : Int} (h : ∀ j x, l[j]? = some x → j < k → x = 0) (hx : l[k]? = some x) (h0 : x ≠ 0) : orV l = x := by
  rw [orV_skip h]
  obtain ⟨hk, e⟩ := List.getElem?_eq_some_iff.1 hx
  rw [List.drop_eq_getElem_cons hk, e]
  rw [show orV (x :: l.drop (k + 1)) = if x = 0 then orV (l.drop (k + 1)) else x from rfl, if_neg h0]
theorem orV_none {l : List Int} (h : ∀ j x, l[j]? = some x → j < l.length → x = 0) : orV l = 0 := by rw [orV_skip h, List.drop_length]; rfl
theorem blk_sl1 {w : World} {g n : Nat} {t : TypeId} {cs : Array Value} (h : Blk w g t cs) (hn : cs.toList.length = n) (hm : n ≤ maxLen) : Sl w 1 (.slice (some ⟨g, 0, none⟩) n n) n cs.toList :=
  ⟨_, n, rfl, Nat.le_refl _, hm, by omega, fun _ => ⟨_, rfl, h.lt, fun j u hj => by
    rw [Addr.add_lit, h.cell (0 + j), Nat.zero_add]; simpa using hj⟩⟩
set_option maxHeartbeats 1000000 in
theorem or_any (v : Value) (l : List Int) (w : World) (hs : Sl w 1 v l.length (ints l)) (hl : l.length ≤ 1000000) :
    Calls Try.prog 36 #[v] w (RetI0 w (orV l)) := by
  obtain ⟨A, c, rfl, hc1, hc2⟩ := hs.form
  go_enter Try.func36, Try.ntmps36
  go_wp2
  go_loopw [8] (fun i wr => ∃ k : Nat, k ≤ l.length ∧ i = .int .i64 k ∧ wr = w ∧ Hid (∀ (j : Nat) (d : Int), l[j]? = some d → j < k → d = 0)) (fun i _ => l.length - (intOf i).toNat)
  case atStart => exact ⟨0, by omega, rfl, rfl, Lib.hid fun j d _ hj => absurd hj (Nat.not_lt_zero _)⟩
  case round =>
    obtain ⟨k, hk, rfl, rfl, hno⟩ := hrel
    by_cases hlt : k < l.length
    · obtain ⟨ad, y, rfl, he, hcell⟩ := hs.int_at hlt
      have HE := Lib.hid he
      clear he
      by_cases hn : y = 0
      · have HN := Lib.hid (show ∀ (j : Nat) (d : Int), l[j]? = some d → j < k + 1 → d = 0 from fun j d hd hj => by
          by_cases ej : j = k
          · subst ej; rw [HE.out] at hd; injection hd with hd; rw [← hd]; exact hn
          · exact hno.out j d hd (by omega))
        have q1 : (y != 0) = false := by simpa using hn
        clear hn
        go_wp2
        go_roundw
        case rel => exact ⟨k + 1, by omega, by go_num, trivial, HN⟩
        case measure => simp [intOf]; omega
      · have HF := Lib.hid (orV_hit hno.out HE.out hn)
        have q1 : (y != 0) = true := by simpa using hn
        clear hn
        go_wp2
        go_ret
        exact RetI0.mk_ HF.out
    · have HF := Lib.hid (orV_none fun j x hx hj => hno.out j x hx (Nat.lt_of_lt_of_le hj (by omega)))
      go_wp2
      go_ret
      exact RetI0.mk_ HF.out
theorem cmpR_or (t : Int) (a b : Rk) : cmpR t a b = orV [cmpV t a.null a.n a.s b.null b.n b.s, ordI a.seq b.seq] := by
  unfold cmpR orV orV orV
  by_cases h : cmpV t a.null a.n a.s b.null b.n b.s = 0
  · simp only [h, ne_eq, not_true, if_false, if_true]
    split
    · assumption
    · rfl
  · simp only [h, ne_eq, not_false_eq_true, if_true, if_false]
set_option maxRecDepth 100000 in
set_option maxHeartbeats 8000000 in
theorem bcmp_any (t : Int) (a b : Rk) (w : World) :
    Calls Try.prog 46 #[.int .i64 t, .agg #[.bool a.null, .int .i64 a.n, .string a.s, .int .i64 a.seq], .agg #[.bool b.null, .int .i64 b.n, .string b.s, .int .i64 b.seq]] w (RetN w (cmpR t a b)) := by
  rw [cmpR_or]
  obtain ⟨an, ax, az, aq⟩ := a
  obtain ⟨bn, bx, bs, bq⟩ := b
  obtain ⟨W, hW⟩ : ∃ W, W = (w.alloc (.cells #[.bool an, .int .i64 ax, .string az, .int .i64 aq] 37)).alloc (.cells #[.bool bn, .int .i64 bx, .string bs, .int .i64 bq] 37) := ⟨_, rfl⟩
  have HB := Lib.hid (show Below w.heap.size w W by rw [hW]; exact abel2 _ _ _)
  have B1 := Lib.hid (show Blk W w.heap.size 37 #[.bool an, .int .i64 ax, .string az, .int .i64 aq] by rw [hW]; exact (Blk.new _ _ _).alloc _)
  have B2 := Lib.hid (show Blk W (w.heap.size + 1) 37 #[.bool bn, .int .i64 bx, .string bs, .int .i64 bq] by
    have := Blk.new (w.alloc (.cells #[.bool an, .int .i64 ax, .string az, .int .i64 aq] 37)) 37 #[.bool bn, .int .i64 bx, .string bs, .int .i64 bq]
    rw [hW]; simpa using this)
  obtain ⟨k, hk⟩ : ∃ k, cmpV t an ax az bn bx bs = k := ⟨_, rfl⟩
  have C := Lib.hid (fun (X : World) => show Calls Try.prog 60 #[.int .i64 t, .agg #[.bool an, .int .i64 ax, .string az], .agg #[.bool bn, .int .i64 bx, .string bs]] X (RetN X k) by rw [← hk]; exact compare_any t an ax az bn bx bs X)
  obtain ⟨q, hq⟩ : ∃ q, ordI aq bq = q := ⟨_, rfl⟩
  have C2 := Lib.hid (fun (X : World) => show Calls Try.prog 61 #[.int .i64 aq, .int .i64 bq] X (RetI0 X q) by rw [← hq]; exact cmpI_any aq bq X)
  simp only [hk, hq]
  clear hk hq
  go_enter Try.func46, Try.ntmps46
  go_upto_region 1 with (fail)
  rw [← hW]
  clear hW
  refine wp_region_inv (by kernel_rfl) (by kernel_rfl) (fun L a w' => ∃ u6 u7 u8 u9 u10 u11 u12 u13 u14 u15 u16 u17 u18 u19 : Value, a = ⟨#[.int .i64 t, .agg #[.bool an, .int .i64 ax, .string az, .int .i64 aq], .agg #[.bool bn, .int .i64 bx, .string bs, .int .i64 bq], undef, .pointer (some ⟨w.heap.size, 0, none⟩), .pointer (some ⟨w.heap.size + 1, 0, none⟩), u6, u7, u8, u9, u10, u11, u12, u13, u14, u15, u16, u17, u18, u19], []⟩ ∧
      Below W.heap.size W w' ∧ Got (L 0) u7 (.int .i64 t) ∧ Got (L 1) u8 (.pointer (some ⟨w.heap.size, 0, none⟩)) ∧ Got (L 2) u9 (.agg #[.bool an, .int .i64 ax, .string az]) ∧ Got (L 3) u10 (.pointer (some ⟨w.heap.size + 1, 0, none⟩)) ∧ Got (L 4) u11 (.agg #[.bool bn, .int .i64 bx, .string bs]) ∧ Got (L 5) u12 (.int .i64 k) ∧ Got (L 6) u13 (.pointer (some ⟨w.heap.size, 3, none⟩)) ∧ Got (L 7) u14 (.int .i64 aq) ∧ Got (L 8) u15 (.pointer (some ⟨w.heap.size + 1, 3, none⟩)) ∧ Got (L 9) u16 (.int .i64 bq) ∧ Got (L 10) u17 (.int .i64 q) ∧ GotRow (L 11) W.heap.size u18 2 3 #[.int .i64 k, .int .i64 q] w' ∧ Got (L 12) u19 (.int .i64 (orV [k, q])) ∧ Got (L 13) u6 (.int .i64 (orV [k, q])))
    ?_ ?_ ?_
  · exact ⟨_, _, _, _, _, _, _, _, _, _, _, _, _, _, rfl, (Below.refl _ _).drew, nofun, nofun, nofun, nofun, nofun, nofun, nofun, nofun, nofun, nofun, nofun, nofun, nofun, nofun⟩
  · refine ⟨?_, ?_, ?_, ?_, ?_, ?_, ?_, ?_, ?_, ?_, ?_, ?_, ?_, ?_, trivial⟩
    · rintro L a w' ⟨u6, u7, u8, u9, u10, u11, u12, u13, u14, u15, u16, u17, u18, u19, rfl, hb, g0, g1, g2, g3, g4, g5, g6, g7, g8, g9, g10, g11, g12, g13⟩ hl hd K hK
      dsimp only at hK ⊢
      go_simp
      exact hK _ _ ⟨_, _, _, _, _, _, _, _, _, _, _, _, _, _, rfl, hb, fun _ => rfl, g1, g2, g3, g4, g5, g6, g7, g8, g9, g10, g11, g12, g13⟩
    · rintro L a w' ⟨u6, u7, u8, u9, u10, u11, u12, u13, u14, u15, u16, u17, u18, u19, rfl, hb, g0, g1, g2, g3, g4, g5, g6, g7, g8, g9, g10, g11, g12, g13⟩ hl hd K hK
      dsimp only at hK ⊢
      go_simp
      exact hK _ _ ⟨_, _, _, _, _, _, _, _, _, _, _, _, _, _, rfl, hb, g0, fun _ => rfl, g2, g3, g4, g5, g6, g7, g8, g9, g10, g11, g12, g13⟩
    · rintro L a w' ⟨u6, u7, u8, u9, u10, u11, u12, u13, u14, u15, u16, u17, u18, u19, rfl, hb, g0, g1, g2, g3, g4, g5, g6, g7, g8, g9, g10, g11, g12, g13⟩ hl hd K hK
      simp [Region.binds] at hd
      dsimp only at hK ⊢
      have e1 := g1 (by simp [hd])
      subst e1
      have bb := B1.out.below hb B1.out.lt
      have c0 := bb.cell 0
      have c1 := bb.cell 1
      have c2 := bb.cell 2
      simp only [List.getElem?_toArray, List.getElem?_cons_zero, List.getElem?_cons_succ] at c0 c1 c2
      go_simp
      exact hK _ _ ⟨_, _, _, _, _, _, _, _, _, _, _, _, _, _, rfl, hb, g0, g1, fun _ => rfl, g3, g4, g5, g6, g7, g8, g9, g10, g11, g12, g13⟩
    · rintro L a w' ⟨u6, u7, u8, u9, u10, u11, u12, u13, u14, u15, u16, u17, u18, u19, rfl, hb, g0, g1, g2, g3, g4, g5, g6, g7, g8, g9, g10, g11, g12, g13⟩ hl hd K hK
      dsimp only at hK ⊢
      go_simp
      exact hK _ _ ⟨_, _, _, _, _, _, _, _, _, _, _, _, _, _, rfl, hb, g0, g1, g2, fun _ => rfl, g4, g5, g6, g7, g8, g9, g10, g11, g12, g13⟩
    · rintro L a w' ⟨u6, u7, u8, u9, u10, u11, u12, u13, u14, u15, u16, u17, u18, u19, rfl, hb, g0, g1, g2, g3, g4, g5, g6, g7, g8, g9, g10, g11, g12, g13⟩ hl hd K hK
      simp [Region.binds] at hd
      dsimp only at hK ⊢
      have e3 := g3 (by simp [hd])
      subst e3
      have bb := B2.out.below hb B2.out.lt
      have c0 := bb.cell 0
      have c1 := bb.cell 1
      have c2 := bb.cell 2
      simp only [List.getElem?_toArray, List.getElem?_cons_zero, List.getElem?_cons_succ] at c0 c1 c2
      go_simp
      exact hK _ _ ⟨_, _, _, _, _, _, _, _, _, _, _, _, _, _, rfl, hb, g0, g1, g2, g3, fun _ => rfl, g5, g6, g7, g8, g9, g10, g11, g12, g13⟩
    · rintro L a w' ⟨u6, u7, u8, u9, u10, u11, u12, u13, u14, u15, u16, u17, u18, u19, rfl, hb, g0, g1, g2, g3, g4, g5, g6, g7, g8, g9, g10, g11, g12, g13⟩ hl hd K hK
      simp [Region.binds] at hd
      dsimp only at hK ⊢
      have e0 := g0 (by simp [hd])
      subst e0
      have e2 := g2 (by simp [hd])
      subst e2
      have e4 := g4 (by simp [hd])
      subst e4
      go_wp2_with fail
      refine (C.out w').mono ?_
      rintro _ w4 ⟨rfl, hb4⟩
      exact hK _ _ ⟨_, _, _, _, _, _, _, _, _, _, _, _, _, _, rfl, bst hb hb4, g0, g1, g2, g3, g4, fun _ => rfl, g6, g7, g8, g9, g10, g11.below hb4, g12, g13⟩
    · rintro L a w' ⟨u6, u7, u8, u9, u10, u11, u12, u13, u14, u15, u16, u17, u18, u19, rfl, hb, g0, g1, g2, g3, g4, g5, g6, g7, g8, g9, g10, g11, g12, g13⟩ hl hd K hK
      dsimp only at hK ⊢
      go_simp
      exact hK _ _ ⟨_, _, _, _, _, _, _, _, _, _, _, _, _, _, rfl, hb, g0, g1, g2, g3, g4, g5, fun _ => rfl, g7, g8, g9, g10, g11, g12, g13⟩
    · rintro L a w' ⟨u6, u7, u8, u9, u10, u11, u12, u13, u14, u15, u16, u17, u18, u19, rfl, hb, g0, g1, g2, g3, g4, g5, g6, g7, g8, g9, g10, g11, g12, g13⟩ hl hd K hK
      simp [Region.binds] at hd
      dsimp only at hK ⊢
      have e6 := g6 (by simp [hd])
      subst e6
      have bb := B1.out.below hb B1.out.lt
      have c3 := bb.cell 3
      simp only [List.getElem?_toArray, List.getElem?_cons_zero, List.getElem?_cons_succ] at c3
      go_simp
      exact hK _ _ ⟨_, _, _, _, _, _, _, _, _, _, _, _, _, _, rfl, hb, g0, g1, g2, g3, g4, g5, g6, fun _ => rfl, g8, g9, g10, g11, g12, g13⟩
    · rintro L a w' ⟨u6, u7, u8, u9, u10, u11, u12, u13, u14, u15, u16, u17, u18, u19, rfl, hb, g0, g1, g2, g3, g4, g5, g6, g7, g8, g9, g10, g11, g12, g13⟩ hl hd K hK
      dsimp only at hK ⊢
      go_simp
      exact hK _ _ ⟨_, _, _, _, _, _, _, _, _, _, _, _, _, _, rfl, hb, g0, g1, g2, g3, g4, g5, g6, g7, fun _ => rfl, g9, g10, g11, g12, g13⟩
    · rintro L a w' ⟨u6, u7, u8, u9, u10, u11, u12, u13, u14, u15, u16, u17, u18, u19, rfl, hb, g0, g1, g2, g3, g4, g5, g6, g7, g8, g9, g10, g11, g12, g13⟩ hl hd K hK
      simp [Region.binds] at hd
      dsimp only at hK ⊢
      have e8 := g8 (by simp [hd])
      subst e8
      have bb := B2.out.below hb B2.out.lt
      have c3 := bb.cell 3
      simp only [List.getElem?_toArray, List.getElem?_cons_zero, List.getElem?_cons_succ] at c3
      go_simp
      exact hK _ _ ⟨_, _, _, _, _, _, _, _, _, _, _, _, _, _, rfl, hb, g0, g1, g2, g3, g4, g5, g6, g7, g8, fun _ => rfl, g10, g11, g12, g13⟩
    · rintro L a w' ⟨u6, u7, u8, u9, u10, u11, u12, u13, u14, u15, u16, u17, u18, u19, rfl, hb, g0, g1, g2, g3, g4, g5, g6, g7, g8, g9, g10, g11, g12, g13⟩ hl hd K hK
      simp [Region.binds] at hd
      dsimp only at hK ⊢
      have e7 := g7 (by simp [hd])
      subst e7
      have e9 := g9 (by simp [hd])
      subst e9
      go_wp2_with fail
      refine (C2.out w').mono ?_
      rintro _ w4 ⟨rfl, rfl⟩
      exact hK _ _ ⟨_, _, _, _, _, _, _, _, _, _, _, _, _, _, rfl, hb, g0, g1, g2, g3, g4, g5, g6, g7, g8, g9, fun _ => rfl, g11, g12, g13⟩
    · rintro L a w' ⟨u6, u7, u8, u9, u10, u11, u12, u13, u14, u15, u16, u17, u18, u19, rfl, hb, g0, g1, g2, g3, g4, g5, g6, g7, g8, g9, g10, g11, g12, g13⟩ hl hd K hK
      simp [Region.binds] at hd
      dsimp only at hK ⊢
      have e5 := g5 (by simp [hd])
      subst e5
      have e10 := g10 (by simp [hd])
      subst e10
      go_simp
      exact hK _ _ ⟨_, _, _, _, _, _, _, _, _, _, _, _, _, _, rfl, hb.alloc hb.size _, g0, g1, g2, g3, g4, g5, g6, g7, g8, g9, g10, fun _ => ⟨_, rfl, hb.size, Blk.new _ _ _⟩, g12, g13⟩
    · rintro L a w' ⟨u6, u7, u8, u9, u10, u11, u12, u13, u14, u15, u16, u17, u18, u19, rfl, hb, g0, g1, g2, g3, g4, g5, g6, g7, g8, g9, g10, g11, g12, g13⟩ hl hd K hK
      simp [Region.binds] at hd
      dsimp only at hK ⊢
      obtain ⟨A, e18, hA, hB⟩ := g11 (by simp [hd])
      subst e18
      go_wp2_with fail
      refine (or_any _ [k, q] w' (show Sl w' 1 _ 2 (ints [k, q]) from blk_sl1 hB rfl (by decide)) (by simp)).mono ?_
      rintro _ w4 ⟨rfl, rfl⟩
      exact hK _ _ ⟨_, _, _, _, _, _, _, _, _, _, _, _, _, _, rfl, hb, g0, g1, g2, g3, g4, g5, g6, g7, g8, g9, g10, fun _ => ⟨_, rfl, hA, hB⟩, fun _ => rfl, g13⟩
    · rintro L a w' ⟨u6, u7, u8, u9, u10, u11, u12, u13, u14, u15, u16, u17, u18, u19, rfl, hb, g0, g1, g2, g3, g4, g5, g6, g7, g8, g9, g10, g11, g12, g13⟩ hl hd K hK
      simp [Region.binds] at hd
      dsimp only at hK ⊢
      have e12 := g12 (by simp [hd])
      subst e12
      go_simp
      exact hK _ _ ⟨_, _, _, _, _, _, _, _, _, _, _, _, _, _, rfl, hb, g0, g1, g2, g3, g4, g5, g6, g7, g8, g9, g10, g11, g12, fun _ => rfl⟩
  rintro a w3 ⟨u6, u7, u8, u9, u10, u11, u12, u13, u14, u15, u16, u17, u18, u19, rfl, hb, g0, g1, g2, g3, g4, g5, g6, g7, g8, g9, g10, g11, g12, g13⟩
  have e6 := g13 rfl
  subst e6
  have HX := Lib.hid (bst HB.out hb)
  clear g0 g1 g2 g3 g4 g5 g6 g7 g8 g9 g10 g11 g12 g13 hb
  go_wp2
  go_ret
  exact RetN.mk_ rfl HX.out
end Go.Proofs.Ytcjekbncllccbaa
