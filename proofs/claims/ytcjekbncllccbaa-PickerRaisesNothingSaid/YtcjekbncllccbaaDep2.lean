/-
  The contracts of depth.most, depth.Depth and depth.Peak.
-/
import Derived.Test.YtcjekbncllccbaaDep
namespace Go.Proofs.Ytcjekbncllccbaa
open Go.RowKit Go.Sort

def RetMost (w : World) (s : Nat × Rk) (e : Ending) (w' : World) : Prop := e = .returned (.tuple #[.int .i64 (s.1 : Int), .agg #[.bool s.2.null, .int .i64 s.2.n, .string s.2.s, .int .i64 s.2.seq]]) ∧ Below w.heap.size w w'
theorem Blk.set4 {w : World} {A : Nat} {T : TypeId} {x y z u : Value} (a b c d : Value) (h : Blk w A T #[x, y, z, u]) : Blk ((((w.setCell ⟨A, 0, none⟩ a).setCell ⟨A, 1, none⟩ b).setCell ⟨A, 2, none⟩ c).setCell ⟨A, 3, none⟩ d) A T #[a, b, c, d] := blk4 a b c d h
theorem mostTo_le (t : Int) (l : List Rg) (k : Nat) : (mostTo t l k).1 ≤ l.length := by
  unfold mostTo
  have : ∀ (m : List Rg) (s : Nat × Rk), s.1 ≤ l.length → (m.foldl (mostStep t l) s).1 ≤ l.length := by
    intro m
    induction m with
    | nil => intro s hs; exact hs
    | cons a m ih =>
      intro s hs
      refine ih _ ?_
      unfold mostStep
      split
      · exact List.countP_le_length
      · exact hs
  exact this _ _ (Nat.zero_le _)
set_option maxRecDepth 100000 in
set_option maxHeartbeats 8000000 in
theorem dmost_any (t : Int) (v : Value) (l : List Rg) (w : World) (hs : Sl w 8 v l.length (rngs l)) (hl : l.length ≤ 1000000) :
    Calls Try.prog 54 #[.int .i64 t, v] w (RetMost w (mostR t l)) := by
  obtain ⟨A, c, rfl, hc1, hc2⟩ := hs.form
  obtain ⟨W, hW⟩ : ∃ W, W = w.alloc (.cells #[.bool false, .int .i64 0, .string { data := #[] }, .int .i64 0] 37) := ⟨_, rfl⟩
  have hb0 : Below w.heap.size w W := by rw [hW]; exact abel _ _
  have BZ := Lib.hid (show Blk W w.heap.size 37 #[.bool false, .int .i64 0, .string { data := #[] }, .int .i64 0] by rw [hW]; exact Blk.new _ _ _)
  have HC := Lib.hid (dcheck_any t (.slice A l.length c) l W (hs.below hb0) hl)
  have HS := Lib.hid (hs.below hb0)
  have HB0 := Lib.hid hb0
  have hws : w.heap.size < W.heap.size := BZ.out.lt
  clear hs hb0
  go_enter Try.func54, Try.ntmps54
  go_upto_region 1 with (fail)
  rw [← hW]
  clear hW
  go_wp2_with fail
  refine HC.out.mono ?_
  cases hck : chkRs t l with
  | false =>
    have HM := Lib.hid (show mostR t l = (0, rk00) by unfold mostR; rw [if_neg (by simp [hck])])
    clear hck HC
    rintro _ w2 ⟨rfl, hb2⟩
    have BZ2 := Lib.hid (BZ.out.below hb2 BZ.out.lt)
    have HB2 := Lib.hid (bst HB0.out hb2)
    clear hb2
    have fz0 := (BZ2.out).frozen 0
    have fz1 := (BZ2.out).frozen 1
    have fz2 := (BZ2.out).frozen 2
    have fz3 := (BZ2.out).frozen 3
    have bb := BZ2.out
    have cz0 := bb.cell 0
    have cz1 := bb.cell 1
    have cz2 := bb.cell 2
    have cz3 := bb.cell 3
    simp only [List.getElem?_toArray, List.getElem?_cons_zero, List.getElem?_cons_succ] at cz0 cz1 cz2 cz3
    clear bb
    have hltz := BZ2.out.lt
    go_wp2
    have kg := grown4 w2 w.heap.size (.bool false) (.int .i64 0) (.string { data := #[] }) (.int .i64 0)
    have kb := Blk.set4 (.bool false) (.int .i64 0) (.string { data := #[] }) (.int .i64 0) BZ2.out
    have kw := below_row HB2.out kg (Nat.le_refl _) HB2.out.size
    obtain ⟨V, hV⟩ : ∃ V, V = (((w2.setCell ⟨w.heap.size, 0, none⟩ (.bool false)).setCell ⟨w.heap.size, 1, none⟩ (.int .i64 0)).setCell ⟨w.heap.size, 2, none⟩ (.string { data := #[] })).setCell ⟨w.heap.size, 3, none⟩ (.int .i64 0) := ⟨_, rfl⟩
    rw [← hV] at kb kw ⊢
    have bb := kb
    have d0 := bb.cell 0
    have d1 := bb.cell 1
    have d2 := bb.cell 2
    have d3 := bb.cell 3
    simp only [List.getElem?_toArray, List.getElem?_cons_zero, List.getElem?_cons_succ] at d0 d1 d2 d3
    clear bb
    exact bodyPost_ret (v := .tuple #[.int .i64 0, .agg #[.bool false, .int .i64 0, .string { data := #[] }, .int .i64 0]]) (by simp [results, Try.results54, go_sem, d0, d1, d2, d3]) rfl ⟨by rw [HM.out]; rfl, kw⟩
  | true =>
    have HM := Lib.hid (show mostR t l = mostTo t l l.length by unfold mostR; rw [if_pos hck])
    clear hck HC
    rintro _ w2 ⟨rfl, hb2⟩
    obtain ⟨N, hN⟩ : ∃ N, w2.heap.size = N := ⟨_, rfl⟩
    obtain ⟨W3, hW3⟩ : ∃ W3, W3 = w2.alloc (.cells #[.bool false, .int .i64 0, .string { data := #[] }, .int .i64 0] 37) := ⟨_, rfl⟩
    have hb3 : Below W.heap.size W W3 := by rw [hW3]; exact hb2.alloc hb2.size _
    have BN := Lib.hid (show Blk W3 N 37 #[.bool false, .int .i64 0, .string { data := #[] }, .int .i64 0] by rw [hW3, ← hN]; exact Blk.new _ _ _)
    have BZ3 := Lib.hid (BZ.out.below hb3 BZ.out.lt)
    have HB3 := Lib.hid hb3
    have hNW : W.heap.size ≤ N := by rw [← hN]; exact hb2.size
    clear hb2 hb3
    go_upto_region 4 with (fail)
    rw [← hW3]
    try simp only [hN]
    clear hW3 hN
    go_wp2
    go_loopw [6, 19] (fun n i wr => ∃ (k : Nat) (m : Nat) (q : Rk), k ≤ l.length ∧ i = .int .i64 k ∧ n = .int .i64 (m : Int) ∧ Hid (mostTo t l k = (m, q)) ∧ Blk wr N 37 #[.bool q.null, .int .i64 q.n, .string q.s, .int .i64 q.seq] ∧ Blk wr w.heap.size 37 #[.bool false, .int .i64 0, .string { data := #[] }, .int .i64 0] ∧ Below W.heap.size W wr) (fun _ i _ => l.length - (intOf i).toNat)
    case atStart => exact ⟨0, 0, rk00, by omega, rfl, rfl, Lib.hid rfl, BN.out, BZ3.out, HB3.out⟩
    case round =>
      obtain ⟨k, m, q, hk, rfl, rfl, hm, bN, bZ, hbel⟩ := hrel
      have hNlt := bN.lt
      by_cases hlt : k < l.length
      · obtain ⟨ad, r, p, rfl, he, hp, hE⟩ := (HS.out.below hbel).rg_load rfl hlt
        obtain ⟨hplt, c0, c1, c2, c3, c4, c5, c6, c7⟩ := hE
        have hN := mostTo_next (t := t) he
        rw [hm.out] at hN
        clear he
        obtain ⟨U, hU⟩ : ∃ U, U = wr.alloc (.cells #[.bool r.lo.null, .int .i64 r.lo.n, .string r.lo.s, .int .i64 r.lo.seq, .bool r.hi.null, .int .i64 r.hi.n, .string r.hi.s, .int .i64 r.hi.seq] 44) := ⟨_, rfl⟩
        have hbU : Below W.heap.size W U := by rw [hU]; exact hbel.alloc hbel.size _
        have BR := Lib.hid (show Blk U wr.heap.size 44 #[.bool r.lo.null, .int .i64 r.lo.n, .string r.lo.s, .int .i64 r.lo.seq, .bool r.hi.null, .int .i64 r.hi.n, .string r.hi.s, .int .i64 r.hi.seq] by rw [hU]; exact Blk.new _ _ _)
        have BN1 := Lib.hid (show Blk U N 37 #[.bool q.null, .int .i64 q.n, .string q.s, .int .i64 q.seq] by rw [hU]; exact bN.alloc _)
        have BZ1 := Lib.hid (show Blk U w.heap.size 37 #[.bool false, .int .i64 0, .string { data := #[] }, .int .i64 0] by rw [hU]; exact bZ.alloc _)
        have HC := Lib.hid (dstab_any t (.slice (some ad) l.length c) l r.lo U (HS.out.below hbU) hl)
        have hle : stabN t l r.lo ≤ l.length := List.countP_le_length
        obtain ⟨n, hn⟩ : ∃ n, stabN t l r.lo = n := ⟨_, rfl⟩
        have hml : m ≤ l.length := by have := mostTo_le t l k; rw [hm.out] at this; exact this
        unfold mostStep at hN
        rw [hn] at HC hle hN
        have BU := Lib.hid hbU
        have HLT := Lib.hid hlt
        have hNe : wr.heap.size ≠ N := by omega
        clear bN bZ hbel hbU hn
        have bb := BR.out
        have d0 := bb.cell 0
        have d1 := bb.cell 1
        have d2 := bb.cell 2
        have d3 := bb.cell 3
        have d4 := bb.cell 4
        have d5 := bb.cell 5
        have d6 := bb.cell 6
        have d7 := bb.cell 7
        simp only [List.getElem?_toArray, List.getElem?_cons_zero, List.getElem?_cons_succ] at d0 d1 d2 d3 d4 d5 d6 d7
        clear bb
        go_upto_region 7 with (fail)
        rw [← hU]
        clear hU
        go_wp2_with fail
        refine HC.out.mono ?_
        rintro _ w4 ⟨rfl, hb4⟩
        have BR4 := Lib.hid (BR.out.below hb4 BR.out.lt)
        have BN4 := Lib.hid (BN1.out.below hb4 BN1.out.lt)
        have BZ4 := Lib.hid (BZ1.out.below hb4 BZ1.out.lt)
        have HB4 := Lib.hid (BU.out.trans (hb4.mono BU.out.size))
        clear hb4
        clear d0 d1 d2 d3 d4 d5 d6 d7
        have bb := BR4.out
        have d0 := bb.cell 0
        have d1 := bb.cell 1
        have d2 := bb.cell 2
        have d3 := bb.cell 3
        have d4 := bb.cell 4
        have d5 := bb.cell 5
        have d6 := bb.cell 6
        have d7 := bb.cell 7
        simp only [List.getElem?_toArray, List.getElem?_cons_zero, List.getElem?_cons_succ] at d0 d1 d2 d3 d4 d5 d6 d7
        clear bb
        have bb := BN4.out
        have e0 := bb.cell 0
        have e1 := bb.cell 1
        have e2 := bb.cell 2
        have e3 := bb.cell 3
        simp only [List.getElem?_toArray, List.getElem?_cons_zero, List.getElem?_cons_succ] at e0 e1 e2 e3
        clear bb
        by_cases h1 : m < n
        · have HN := Lib.hid (show mostTo t l (k + 1) = (n, r.lo) by rw [hN, if_pos (.inl h1)])
          have q1 : decide (m < n) = true := by simpa using h1
          clear hN h1 HC hlt
          go_upto_region 9 with (fail)
          clear d0 d1 d2 d3 d4 d5 d6 d7
          clear e0 e1 e2 e3
          refine wp_region_inv (by kernel_rfl) (by kernel_rfl) (fun L a w' => ∃ u44 u45 u46 u6 : Value, a = ⟨#[.int .i64 t, .slice (some ad) l.length c, undef, undef, .int .i64 0, .pointer (some ⟨w.heap.size, 0, none⟩), u6, .pointer (some ⟨N, 0, none⟩), undef, .pointer (some ⟨wr.heap.size, 0, none⟩), .int .i64 n, .int .i64 t, .slice (some ad) l.length c, .bool true, .bool false, undef, .agg #[.bool false, .int .i64 0, .string { data := #[] }, .int .i64 0], .slice (some ad) l.length c, .int .i64 l.length, .int .i64 k, .bool true, .pointer (some p), .agg #[.bool r.lo.null, .int .i64 r.lo.n, .string r.lo.s, .int .i64 r.lo.seq, .bool r.hi.null, .int .i64 r.hi.n, .string r.hi.s, .int .i64 r.hi.seq], .int .i64 t, .slice (some ad) l.length c, .pointer (some ⟨wr.heap.size, 0, none⟩), .agg #[.bool r.lo.null, .int .i64 r.lo.n, .string r.lo.s, .int .i64 r.lo.seq], .int .i64 n, .int .i64 n, .int .i64 m, .bool true, .bool true, undef, undef, undef, undef, undef, undef, undef, undef, undef, undef, undef, .bool true, u44, u45, u46, u47, undef, undef], []⟩ ∧
              Below W.heap.size W w' ∧ Got (L 0) u44 (.int .i64 (n : Int)) ∧ Got (L 1) u45 (.pointer (some ⟨wr.heap.size, 0, none⟩)) ∧ Got (L 2) u46 (.agg #[.bool r.lo.null, .int .i64 r.lo.n, .string r.lo.s, .int .i64 r.lo.seq]) ∧ Got (L 3) u6 (.int .i64 (n : Int)) ∧ (L 4 = false → Blk w' N 37 #[.bool q.null, .int .i64 q.n, .string q.s, .int .i64 q.seq]) ∧ (L 4 = true → Blk w' N 37 #[.bool r.lo.null, .int .i64 r.lo.n, .string r.lo.s, .int .i64 r.lo.seq]) ∧ Blk w' wr.heap.size 44 #[.bool r.lo.null, .int .i64 r.lo.n, .string r.lo.s, .int .i64 r.lo.seq, .bool r.hi.null, .int .i64 r.hi.n, .string r.hi.s, .int .i64 r.hi.seq] ∧ Blk w' w.heap.size 37 #[.bool false, .int .i64 0, .string { data := #[] }, .int .i64 0])
            ?_ ?_ ?_
          · exact ⟨_, _, _, _, rfl, HB4.out.drew, nofun, nofun, nofun, nofun, fun _ => BN4.out.drewN 1, nofun, BR4.out.drewN 1, BZ4.out.drewN 1⟩
          · refine ⟨?_, ?_, ?_, ?_, ?_, trivial⟩
            · rintro L a w' ⟨u44, u45, u46, u6, rfl, hb, g0, g1, g2, g3, g4, g5, g6, g7⟩ hl hd K hK
              dsimp only at hK ⊢
              go_simp
              exact hK _ _ ⟨_, _, _, _, rfl, hb, fun _ => rfl, g1, g2, g3, g4, g5, g6, g7⟩
            · rintro L a w' ⟨u44, u45, u46, u6, rfl, hb, g0, g1, g2, g3, g4, g5, g6, g7⟩ hl hd K hK
              dsimp only at hK ⊢
              go_simp
              exact hK _ _ ⟨_, _, _, _, rfl, hb, g0, fun _ => rfl, g2, g3, g4, g5, g6, g7⟩
            · rintro L a w' ⟨u44, u45, u46, u6, rfl, hb, g0, g1, g2, g3, g4, g5, g6, g7⟩ hl hd K hK
              simp [Region.binds] at hd
              dsimp only at hK ⊢
              have e1 := g1 (by simp [hd])
              subst e1
              have bb := g6
              have d0 := bb.cell 0
              have d1 := bb.cell 1
              have d2 := bb.cell 2
              have d3 := bb.cell 3
              have d4 := bb.cell 4
              have d5 := bb.cell 5
              have d6 := bb.cell 6
              have d7 := bb.cell 7
              simp only [List.getElem?_toArray, List.getElem?_cons_zero, List.getElem?_cons_succ] at d0 d1 d2 d3 d4 d5 d6 d7
              clear bb
              go_simp
              exact hK _ _ ⟨_, _, _, _, rfl, hb, g0, g1, fun _ => rfl, g3, g4, g5, g6, g7⟩
            · rintro L a w' ⟨u44, u45, u46, u6, rfl, hb, g0, g1, g2, g3, g4, g5, g6, g7⟩ hl hd K hK
              simp [Region.binds] at hd
              dsimp only at hK ⊢
              have e0 := g0 (by simp [hd])
              subst e0
              go_simp
              exact hK _ _ ⟨_, _, _, _, rfl, hb, g0, g1, g2, fun _ => rfl, g4, g5, g6, g7⟩
            · rintro L a w' ⟨u44, u45, u46, u6, rfl, hb, g0, g1, g2, g3, g4, g5, g6, g7⟩ hl hd K hK
              simp [Region.binds] at hd
              dsimp only at hK ⊢
              have e2 := g2 (by simp [hd])
              subst e2
              have bb := g4 hl
              have e0 := bb.frozen 0
              have e1 := bb.frozen 1
              have e2 := bb.frozen 2
              have e3 := bb.frozen 3
              have h0 := bb.cell 0
              have h1 := bb.cell 1
              have h2 := bb.cell 2
              have h3 := bb.cell 3
              simp only [List.getElem?_toArray, List.getElem?_cons_zero, List.getElem?_cons_succ] at h0 h1 h2 h3
              have hlN := bb.lt
              go_simp
              have kg := grown4 w' N (.bool r.lo.null) (.int .i64 r.lo.n) (.string r.lo.s) (.int .i64 r.lo.seq)
              exact hK _ _ ⟨_, _, _, _, rfl, below_row hb kg hNW hb.size, g0, g1, g2, g3, fun h => absurd h (by simp [upd]), fun _ => Blk.set4 _ _ _ _ bb, g6.row kg hNe, g7.row kg (by omega)⟩
          rintro a w9 ⟨u44, u45, u46, u6, rfl, hb, g0, g1, g2, g3, g4, g5, g6, g7⟩
          have e0 := g0 rfl
          subst e0
          have e1 := g1 rfl
          subst e1
          have e2 := g2 rfl
          subst e2
          have e3 := g3 rfl
          subst e3
          have HB9 := Lib.hid hb
          have BN9 := Lib.hid (g5 rfl)
          have BZ9 := Lib.hid g7
          clear g0 g1 g2 g3 g4 g5 g6 g7 hb
          go_wp2
          go_roundw
          case rel => exact ⟨k + 1, n, r.lo, HLT.out, by go_num, rfl, HN, BN9.out, BZ9.out, HB9.out⟩
          case measure => have := HLT.out; simp [intOf]; omega
        · have q1 : decide (m < n) = false := by simpa using h1
          by_cases h2 : n = m
          · have q2 : ((n : Int) == (m : Int)) = true := by simp; omega
            have q2' : (n == m) = true := by simpa using h2
            obtain ⟨ck, hck⟩ : ∃ ck, cmpR t r.lo q = ck := ⟨_, rfl⟩
            have HCC := Lib.hid (fun X => show Calls Try.prog 46 #[.int .i64 t, .agg #[.bool r.lo.null, .int .i64 r.lo.n, .string r.lo.s, .int .i64 r.lo.seq], .agg #[.bool q.null, .int .i64 q.n, .string q.s, .int .i64 q.seq]] X (RetN X ck) by rw [← hck]; exact bcmp_any t r.lo q X)
            rw [hck] at hN
            clear hck HC
            by_cases h3 : ck < 0
            · have HN := Lib.hid (show mostTo t l (k + 1) = (n, r.lo) by rw [hN, if_pos (.inr ⟨h2, h3⟩)])
              have q3 : decide (ck < 0) = true := by simpa using h3
              clear hN h1 h2 h3 hlt
              go_wp2_with fail
              refine (HCC.out _).mono ?_
              rintro _ w5 ⟨rfl, hb5⟩
              have BR5 := Lib.hid (BR4.out.below hb5 BR4.out.lt)
              have BN5 := Lib.hid (BN4.out.below hb5 BN4.out.lt)
              have BZ5 := Lib.hid (BZ4.out.below hb5 BZ4.out.lt)
              have HB5 := Lib.hid (HB4.out.trans (hb5.mono HB4.out.size))
              clear hb5
              go_upto_region 9 with (fail)
              clear d0 d1 d2 d3 d4 d5 d6 d7
              clear e0 e1 e2 e3
              refine wp_region_inv (by kernel_rfl) (by kernel_rfl) (fun L a w' => ∃ u44 u45 u46 u6 : Value, a = ⟨#[.int .i64 t, .slice (some ad) l.length c, undef, undef, .int .i64 0, .pointer (some ⟨w.heap.size, 0, none⟩), u6, .pointer (some ⟨N, 0, none⟩), undef, .pointer (some ⟨wr.heap.size, 0, none⟩), .int .i64 n, .int .i64 t, .slice (some ad) l.length c, .bool true, .bool false, undef, .agg #[.bool false, .int .i64 0, .string { data := #[] }, .int .i64 0], .slice (some ad) l.length c, .int .i64 l.length, .int .i64 k, .bool true, .pointer (some p), .agg #[.bool r.lo.null, .int .i64 r.lo.n, .string r.lo.s, .int .i64 r.lo.seq, .bool r.hi.null, .int .i64 r.hi.n, .string r.hi.s, .int .i64 r.hi.seq], .int .i64 t, .slice (some ad) l.length c, .pointer (some ⟨wr.heap.size, 0, none⟩), .agg #[.bool r.lo.null, .int .i64 r.lo.n, .string r.lo.s, .int .i64 r.lo.seq], .int .i64 n, .int .i64 n, .int .i64 m, .bool false, .bool false, .int .i64 n, .int .i64 m, .bool true, .bool true, .int .i64 t, .pointer (some ⟨wr.heap.size, 0, none⟩), .agg #[.bool r.lo.null, .int .i64 r.lo.n, .string r.lo.s, .int .i64 r.lo.seq], .agg #[.bool q.null, .int .i64 q.n, .string q.s, .int .i64 q.seq], .int .i64 ck, .bool true, .bool true, .bool true, u44, u45, u46, u47, undef, undef], []⟩ ∧
                  Below W.heap.size W w' ∧ Got (L 0) u44 (.int .i64 (n : Int)) ∧ Got (L 1) u45 (.pointer (some ⟨wr.heap.size, 0, none⟩)) ∧ Got (L 2) u46 (.agg #[.bool r.lo.null, .int .i64 r.lo.n, .string r.lo.s, .int .i64 r.lo.seq]) ∧ Got (L 3) u6 (.int .i64 (n : Int)) ∧ (L 4 = false → Blk w' N 37 #[.bool q.null, .int .i64 q.n, .string q.s, .int .i64 q.seq]) ∧ (L 4 = true → Blk w' N 37 #[.bool r.lo.null, .int .i64 r.lo.n, .string r.lo.s, .int .i64 r.lo.seq]) ∧ Blk w' wr.heap.size 44 #[.bool r.lo.null, .int .i64 r.lo.n, .string r.lo.s, .int .i64 r.lo.seq, .bool r.hi.null, .int .i64 r.hi.n, .string r.hi.s, .int .i64 r.hi.seq] ∧ Blk w' w.heap.size 37 #[.bool false, .int .i64 0, .string { data := #[] }, .int .i64 0])
                ?_ ?_ ?_
              · exact ⟨_, _, _, _, rfl, HB5.out.drew, nofun, nofun, nofun, nofun, fun _ => BN5.out.drewN 1, nofun, BR5.out.drewN 1, BZ5.out.drewN 1⟩
              · refine ⟨?_, ?_, ?_, ?_, ?_, trivial⟩
                · rintro L a w' ⟨u44, u45, u46, u6, rfl, hb, g0, g1, g2, g3, g4, g5, g6, g7⟩ hl hd K hK
                  dsimp only at hK ⊢
                  go_simp
                  exact hK _ _ ⟨_, _, _, _, rfl, hb, fun _ => rfl, g1, g2, g3, g4, g5, g6, g7⟩
                · rintro L a w' ⟨u44, u45, u46, u6, rfl, hb, g0, g1, g2, g3, g4, g5, g6, g7⟩ hl hd K hK
                  dsimp only at hK ⊢
                  go_simp
                  exact hK _ _ ⟨_, _, _, _, rfl, hb, g0, fun _ => rfl, g2, g3, g4, g5, g6, g7⟩
                · rintro L a w' ⟨u44, u45, u46, u6, rfl, hb, g0, g1, g2, g3, g4, g5, g6, g7⟩ hl hd K hK
                  simp [Region.binds] at hd
                  dsimp only at hK ⊢
                  have e1 := g1 (by simp [hd])
                  subst e1
                  have bb := g6
                  have d0 := bb.cell 0
                  have d1 := bb.cell 1
                  have d2 := bb.cell 2
                  have d3 := bb.cell 3
                  have d4 := bb.cell 4
                  have d5 := bb.cell 5
                  have d6 := bb.cell 6
                  have d7 := bb.cell 7
                  simp only [List.getElem?_toArray, List.getElem?_cons_zero, List.getElem?_cons_succ] at d0 d1 d2 d3 d4 d5 d6 d7
                  clear bb
                  go_simp
                  exact hK _ _ ⟨_, _, _, _, rfl, hb, g0, g1, fun _ => rfl, g3, g4, g5, g6, g7⟩
                · rintro L a w' ⟨u44, u45, u46, u6, rfl, hb, g0, g1, g2, g3, g4, g5, g6, g7⟩ hl hd K hK
                  simp [Region.binds] at hd
                  dsimp only at hK ⊢
                  have e0 := g0 (by simp [hd])
                  subst e0
                  go_simp
                  exact hK _ _ ⟨_, _, _, _, rfl, hb, g0, g1, g2, fun _ => rfl, g4, g5, g6, g7⟩
                · rintro L a w' ⟨u44, u45, u46, u6, rfl, hb, g0, g1, g2, g3, g4, g5, g6, g7⟩ hl hd K hK
                  simp [Region.binds] at hd
                  dsimp only at hK ⊢
                  have e2 := g2 (by simp [hd])
                  subst e2
                  have bb := g4 hl
                  have e0 := bb.frozen 0
                  have e1 := bb.frozen 1
                  have e2 := bb.frozen 2
                  have e3 := bb.frozen 3
                  have h0 := bb.cell 0
                  have h1 := bb.cell 1
                  have h2 := bb.cell 2
                  have h3 := bb.cell 3
                  simp only [List.getElem?_toArray, List.getElem?_cons_zero, List.getElem?_cons_succ] at h0 h1 h2 h3
                  have hlN := bb.lt
                  go_simp
                  have kg := grown4 w' N (.bool r.lo.null) (.int .i64 r.lo.n) (.string r.lo.s) (.int .i64 r.lo.seq)
                  exact hK _ _ ⟨_, _, _, _, rfl, below_row hb kg hNW hb.size, g0, g1, g2, g3, fun h => absurd h (by simp [upd]), fun _ => Blk.set4 _ _ _ _ bb, g6.row kg hNe, g7.row kg (by omega)⟩
              rintro a w9 ⟨u44, u45, u46, u6, rfl, hb, g0, g1, g2, g3, g4, g5, g6, g7⟩
              have e0 := g0 rfl
              subst e0
              have e1 := g1 rfl
              subst e1
              have e2 := g2 rfl
              subst e2
              have e3 := g3 rfl
              subst e3
              have HB9 := Lib.hid hb
              have BN9 := Lib.hid (g5 rfl)
              have BZ9 := Lib.hid g7
              clear g0 g1 g2 g3 g4 g5 g6 g7 hb
              go_wp2
              go_roundw
              case rel => exact ⟨k + 1, n, r.lo, HLT.out, by go_num, rfl, HN, BN9.out, BZ9.out, HB9.out⟩
              case measure => have := HLT.out; simp [intOf]; omega
            · have HN := Lib.hid (show mostTo t l (k + 1) = (m, q) by rw [hN, if_neg (by first | omega | (simp only; omega))])
              have q3 : decide (ck < 0) = false := by simpa using h3
              clear hN h1 h3
              go_wp2_with fail
              refine (HCC.out _).mono ?_
              rintro _ w5 ⟨rfl, hb5⟩
              have BN5 := Lib.hid (BN4.out.below hb5 BN4.out.lt)
              have BZ5 := Lib.hid (BZ4.out.below hb5 BZ4.out.lt)
              have HB5 := Lib.hid (HB4.out.trans (hb5.mono HB4.out.size))
              clear hb5
              go_wp2
              go_roundw
              case rel => exact ⟨k + 1, m, q, HLT.out, by go_num, rfl, HN, BN5.out, BZ5.out, HB5.out⟩
              case measure => have := HLT.out; simp [intOf]; omega
          · have HN := Lib.hid (show mostTo t l (k + 1) = (m, q) by rw [hN, if_neg (by first | omega | (simp only; omega))])
            have q2 : ((n : Int) == (m : Int)) = false := by simp; omega
            have q2' : (n == m) = false := by simpa using h2
            clear hN h1 h2
            go_wp2
            go_roundw
            case rel => exact ⟨k + 1, m, q, HLT.out, by go_num, rfl, HN, BN4.out, BZ4.out, HB4.out⟩
            case measure => have := HLT.out; simp [intOf]; omega
      · have hkl : k = l.length := by omega
        have HF := Lib.hid (show mostR t l = (m, q) by rw [HM.out, ← hkl, hm.out])
        have BNr := Lib.hid bN
        have BZr := Lib.hid bZ
        have HBr := Lib.hid hbel
        have hNe : N ≠ w.heap.size := by omega
        clear bN bZ hbel hkl
        go_upto_region 11 with (fail)
        refine wp_region_inv (by kernel_rfl) (by kernel_rfl) (fun L a w' => ∃ u48 u49 u4 : Value, a = ⟨#[.int .i64 t, .slice A l.length c, undef, undef, u4, .pointer (some ⟨w.heap.size, 0, none⟩), .int .i64 m, .pointer (some ⟨N, 0, none⟩), undef, u9, u10, .int .i64 t, .slice A l.length c, .bool true, .bool false, undef, .agg #[.bool false, .int .i64 0, .string { data := #[] }, .int .i64 0], .slice A l.length c, .int .i64 l.length, .int .i64 k, .bool false, u21, u22, u23, u24, u25, u26, u27, u28, u29, u30, u31, u32, u33, u34, u35, u36, u37, u38, u39, u40, u41, u42, u43, u44, u45, u46, u47, u48, u49], []⟩ ∧
            Below w.heap.size w w' ∧ Got (L 0) u48 (.int .i64 (m : Int)) ∧ Got (L 1) u49 (.agg #[.bool q.null, .int .i64 q.n, .string q.s, .int .i64 q.seq]) ∧ Got (L 2) u4 (.int .i64 (m : Int)) ∧ (L 3 = false → Blk w' w.heap.size 37 #[.bool false, .int .i64 0, .string { data := #[] }, .int .i64 0]) ∧ (L 3 = true → Blk w' w.heap.size 37 #[.bool q.null, .int .i64 q.n, .string q.s, .int .i64 q.seq]) ∧ Blk w' N 37 #[.bool q.null, .int .i64 q.n, .string q.s, .int .i64 q.seq])
          ?_ ?_ ?_
        · exact ⟨_, _, _, rfl, (HB0.out.trans (HBr.out.mono HB0.out.size)).drew, nofun, nofun, nofun, fun _ => BZr.out.drewN 1, nofun, BNr.out.drewN 1⟩
        · refine ⟨?_, ?_, ?_, ?_, trivial⟩
          · rintro L a w' ⟨u48, u49, u4, rfl, hb, g0, g1, g2, g3, g4, g5⟩ hl hd K hK
            dsimp only at hK ⊢
            go_simp
            exact hK _ _ ⟨_, _, _, rfl, hb, fun _ => rfl, g1, g2, g3, g4, g5⟩
          · rintro L a w' ⟨u48, u49, u4, rfl, hb, g0, g1, g2, g3, g4, g5⟩ hl hd K hK
            dsimp only at hK ⊢
            have bb := g5
            have e0 := bb.cell 0
            have e1 := bb.cell 1
            have e2 := bb.cell 2
            have e3 := bb.cell 3
            simp only [List.getElem?_toArray, List.getElem?_cons_zero, List.getElem?_cons_succ] at e0 e1 e2 e3
            clear bb
            go_simp
            exact hK _ _ ⟨_, _, _, rfl, hb, g0, fun _ => rfl, g2, g3, g4, g5⟩
          · rintro L a w' ⟨u48, u49, u4, rfl, hb, g0, g1, g2, g3, g4, g5⟩ hl hd K hK
            simp [Region.binds] at hd
            dsimp only at hK ⊢
            have e0 := g0 (by simp [hd])
            subst e0
            go_simp
            exact hK _ _ ⟨_, _, _, rfl, hb, g0, g1, fun _ => rfl, g3, g4, g5⟩
          · rintro L a w' ⟨u48, u49, u4, rfl, hb, g0, g1, g2, g3, g4, g5⟩ hl hd K hK
            simp [Region.binds] at hd
            dsimp only at hK ⊢
            have e1 := g1 (by simp [hd])
            subst e1
            have bb := g3 hl
            have e0 := bb.frozen 0
            have e1 := bb.frozen 1
            have e2 := bb.frozen 2
            have e3 := bb.frozen 3
            have h0 := bb.cell 0
            have h1 := bb.cell 1
            have h2 := bb.cell 2
            have h3 := bb.cell 3
            simp only [List.getElem?_toArray, List.getElem?_cons_zero, List.getElem?_cons_succ] at h0 h1 h2 h3
            have hlN := bb.lt
            go_simp
            have kg := grown4 w' w.heap.size (.bool q.null) (.int .i64 q.n) (.string q.s) (.int .i64 q.seq)
            exact hK _ _ ⟨_, _, _, rfl, below_row hb kg (Nat.le_refl _) hb.size, g0, g1, g2, fun h => absurd h (by simp [upd]), fun _ => Blk.set4 _ _ _ _ bb, g5.row kg hNe⟩
        rintro a w9 ⟨u48, u49, u4, rfl, hb, g0, g1, g2, g3, g4, g5⟩
        have e0 := g0 rfl
        subst e0
        have e1 := g1 rfl
        subst e1
        have e2 := g2 rfl
        subst e2
        have HB9 := Lib.hid hb
        have BZ9 := Lib.hid (g4 rfl)
        clear g0 g1 g2 g3 g4 g5 hb
        have bb := BZ9.out
        have d0 := bb.cell 0
        have d1 := bb.cell 1
        have d2 := bb.cell 2
        have d3 := bb.cell 3
        simp only [List.getElem?_toArray, List.getElem?_cons_zero, List.getElem?_cons_succ] at d0 d1 d2 d3
        clear bb
        go_wp2
        exact bodyPost_ret (v := .tuple #[.int .i64 (m : Int), .agg #[.bool q.null, .int .i64 q.n, .string q.s, .int .i64 q.seq]]) (by simp [results, Try.results54, go_sem, d0, d1, d2, d3]) rfl ⟨by rw [HF.out], HB9.out⟩
set_option maxRecDepth 100000 in
set_option maxHeartbeats 8000000 in
theorem ddepth_any (t : Int) (v : Value) (l : List Rg) (w : World) (hs : Sl w 8 v l.length (rngs l)) (hl : l.length ≤ 1000000) :
    Calls Try.prog 30 #[.int .i64 t, v] w (RetN w ((mostR t l).1 : Int)) := by
  obtain ⟨A, c, rfl, hc1, hc2⟩ := hs.form
  have HC := Lib.hid (dmost_any t (.slice A l.length c) l w hs hl)
  obtain ⟨s, hse⟩ : ∃ s, mostR t l = s := ⟨_, rfl⟩
  rw [hse] at HC ⊢
  obtain ⟨m, q⟩ := s
  clear hs hse
  go_enter Try.func30, Try.ntmps30
  go_wp2_with fail
  refine HC.out.mono ?_
  rintro _ w2 ⟨rfl, hb2⟩
  have HB2 := Lib.hid hb2
  clear hb2
  go_wp2
  go_ret
  exact RetN.mk_ rfl (HB2.out.alloc HB2.out.size _)
def RetPeak (w : World) (s : Nat × Rk) (e : Ending) (w' : World) : Prop := e = .returned (.tuple #[.agg #[.bool s.2.null, .int .i64 s.2.n, .string s.2.s, .int .i64 s.2.seq], .bool (decide (0 < s.1))]) ∧ Below w.heap.size w w'
set_option maxRecDepth 100000 in
set_option maxHeartbeats 8000000 in
theorem dpeak_any (t : Int) (v : Value) (l : List Rg) (w : World) (hs : Sl w 8 v l.length (rngs l)) (hl : l.length ≤ 1000000) :
    Calls Try.prog 32 #[.int .i64 t, v] w (RetPeak w (mostR t l)) := by
  obtain ⟨A, c, rfl, hc1, hc2⟩ := hs.form
  obtain ⟨W, hW⟩ : ∃ W, W = w.alloc (.cells #[.bool false, .int .i64 0, .string { data := #[] }, .int .i64 0] 37) := ⟨_, rfl⟩
  have hb0 : Below w.heap.size w W := by rw [hW]; exact abel _ _
  have BZ := Lib.hid (show Blk W w.heap.size 37 #[.bool false, .int .i64 0, .string { data := #[] }, .int .i64 0] by rw [hW]; exact Blk.new _ _ _)
  have HC := Lib.hid (dmost_any t (.slice A l.length c) l W (hs.below hb0) hl)
  obtain ⟨s, hse⟩ : ∃ s, mostR t l = s := ⟨_, rfl⟩
  rw [hse] at HC ⊢
  obtain ⟨m, q⟩ := s
  have HB0 := Lib.hid hb0
  clear hs hse hb0
  go_enter Try.func32, Try.ntmps32
  go_upto_region 1 with (fail)
  rw [← hW]
  clear hW
  go_wp2_with fail
  refine HC.out.mono ?_
  rintro _ w2 ⟨rfl, hb2⟩
  obtain ⟨U, hU⟩ : ∃ U, U = w2.alloc (.cells #[.bool q.null, .int .i64 q.n, .string q.s, .int .i64 q.seq] 37) := ⟨_, rfl⟩
  have BU := Lib.hid (show Blk U w2.heap.size 37 #[.bool q.null, .int .i64 q.n, .string q.s, .int .i64 q.seq] by rw [hU]; exact Blk.new _ _ _)
  have hbU : Below W.heap.size W U := by rw [hU]; exact hb2.alloc hb2.size _
  have BZ2 := Lib.hid (BZ.out.below hbU BZ.out.lt)
  have HB2 := Lib.hid (bst HB0.out hbU)
  clear hb2 hbU
  go_upto_region 2 with (fail)
  rw [← hU]
  clear hU
  have fz0 := (BZ2.out).frozen 0
  have fz1 := (BZ2.out).frozen 1
  have fz2 := (BZ2.out).frozen 2
  have fz3 := (BZ2.out).frozen 3
  have bb := BZ2.out
  have cz0 := bb.cell 0
  have cz1 := bb.cell 1
  have cz2 := bb.cell 2
  have cz3 := bb.cell 3
  simp only [List.getElem?_toArray, List.getElem?_cons_zero, List.getElem?_cons_succ] at cz0 cz1 cz2 cz3
  clear bb
  have bb := BU.out
  have cu0 := bb.cell 0
  have cu1 := bb.cell 1
  have cu2 := bb.cell 2
  have cu3 := bb.cell 3
  simp only [List.getElem?_toArray, List.getElem?_cons_zero, List.getElem?_cons_succ] at cu0 cu1 cu2 cu3
  clear bb
  have hltz := BZ2.out.lt
  go_wp2
  have kg := grown4 U w.heap.size (.bool q.null) (.int .i64 q.n) (.string q.s) (.int .i64 q.seq)
  have kb := Blk.set4 (.bool q.null) (.int .i64 q.n) (.string q.s) (.int .i64 q.seq) BZ2.out
  have kw := below_row HB2.out kg (Nat.le_refl _) HB2.out.size
  obtain ⟨V, hV⟩ : ∃ V, V = (((U.setCell ⟨w.heap.size, 0, none⟩ (.bool q.null)).setCell ⟨w.heap.size, 1, none⟩ (.int .i64 q.n)).setCell ⟨w.heap.size, 2, none⟩ (.string q.s)).setCell ⟨w.heap.size, 3, none⟩ (.int .i64 q.seq) := ⟨_, rfl⟩
  rw [← hV] at kb kw ⊢
  have bb := kb
  have d0 := bb.cell 0
  have d1 := bb.cell 1
  have d2 := bb.cell 2
  have d3 := bb.cell 3
  simp only [List.getElem?_toArray, List.getElem?_cons_zero, List.getElem?_cons_succ] at d0 d1 d2 d3
  clear bb
  exact bodyPost_ret (v := .tuple #[.agg #[.bool q.null, .int .i64 q.n, .string q.s, .int .i64 q.seq], .bool (decide (0 < m))]) (by simp [results, Try.results32, go_sem, d0, d1, d2, d3]) rfl ⟨rfl, kw⟩
end Go.Proofs.Ytcjekbncllccbaa
