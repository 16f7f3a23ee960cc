/-
  The walk of the law SchemaIds.
-/
import Derived.Test.YtlchfaakmgclcaaDoorSId
import Derived.Test.YtlchfaakmgclcaaDoorKSchemaLaw
import Derived.Test.YtlchfaakmgclcaaDoorApp
import Derived.Test.YtlchfaakmgclcaaDoorIdLaw
import Derived.Test.YtlchfaakmgclcaaDoorSameC
namespace Go.Proofs.YtlchfaakmgclcaaDoor
open Go.RowKit Go.Sort
set_option linter.unusedVariables false
theorem cols_one (l : List Col) : ∀ y ∈ cols l, y.oneCell' = true := by
  intro y hy
  unfold cols at hy
  rw [List.mem_flatMap] at hy
  obtain ⟨c, _, hc⟩ := hy
  simp only [Col.cells, List.mem_cons, List.not_mem_nil, or_false] at hc
  rcases hc with rfl | rfl | rfl | rfl <;> rfl
theorem cols_set : ∀ {l : List Col} {i j : Nat} {c c' : Col} {u : Value}, l[i]? = some c → j < 4 → c'.cells = c.cells.set j u → (cols l).set (i * 4 + j) u = cols (l.set i c')
  | [], i, j, c, c', u, h, _, _ => by simp at h
  | x :: r, 0, j, c, c', u, h, hj, hc => by
    simp at h; subst h
    rw [List.set_cons_zero, cols_cons, cols_cons, hc, List.set_append, if_pos (by rw [Col.cells_length]; omega), Nat.zero_mul, Nat.zero_add]
  | x :: r, i + 1, j, c, c', u, h, hj, hc => by
    rw [List.set_cons_succ, cols_cons, cols_cons, List.set_append, if_neg (by rw [Col.cells_length]; omega), Col.cells_length, show (i + 1) * 4 + j - 4 = i * 4 + j by omega, cols_set (by simpa using h) hj hc]
theorem set_small {l : List Col} {i : Nat} {c' : Col} {B : Nat} (h : ∀ c ∈ l, c.nm.size ≤ B) (hc : c'.nm.size ≤ B) : ∀ c ∈ l.set i c', c.nm.size ≤ B := by
  intro d hd
  rcases List.mem_or_eq_of_mem_set hd with h1 | h1
  · exact h d h1
  · subst h1; exact hc
theorem reg_pick {w : World} {v n : Int} {i : Nat} (h : pick v n = (i : Int)) (h0 : 0 < n) (h1 : n ≤ 4294967296) : ∀ d os, Calls Tryd.prog 18 #[.int .i64 v, .int .i64 n] (grow (redrawn w d) os) fun e w'' => e = .returned (.int .i64 i) ∧ ∃ p : Regrown, w'' = grow (redrawn w p.d) p.os :=
  fun d os => Calls.regrown_of ((pick_any v n (grow (redrawn w d) os) h0 h1).mono fun _ _ ⟨a, b⟩ => ⟨by rw [a, h], by rw [← b]; exact Below.refl _ _⟩)
theorem own_form4 {w : World} {base : Nat} {e : TypeId} {v : Value} {n : Nat} {xs : List Value} (h : w.ownsRow base e 4 v n xs) (hn : 1 ≤ n) : ∃ g cap, v = .slice (some ⟨g, 0, none⟩) n cap := by
  rcases h.2 with ⟨_, h0⟩ | ⟨g, cap, _, hv, _⟩
  · omega
  · exact ⟨g, cap, hv⟩
set_option maxRecDepth 100000 in
set_option maxHeartbeats 1000000 in
theorem schemaIds_walk (v : Value) (zs : List Int) (at' : Int) (w : World) (ht : Tab w) (hs : Sl w 1 v zs.length (ints zs)) (hl : zs.length ≤ 9223372036854775807) (hr : ∀ x ∈ zs, -9223372036854775808 ≤ x ∧ x ≤ 9223372036854775807) :
    Calls Tryd.prog 5 #[v, .int .i64 at'] w (RetBl w true) := by
  have HK := Lib.hid (kschema_any v zs w hs hl hr)
  obtain ⟨A, c, rfl, _, _⟩ := hs.form
  clear hs hl hr
  go_enter Tryd.func5, Tryd.ntmps5
  go_wp2_with fail
  refine HK.out.mono ?_
  rintro _ w1 ⟨vs, l, key, rfl, h1, h4, hG, k0, k1, hsl, hb1⟩
  obtain ⟨A2, cp2, rfl, _, _⟩ := hsl.form
  have HV := Lib.hid (gen_valid h1 h4 hG k0 k1)
  have HN := Lib.hid (gen_small hG)
  have HG := Lib.hid hG
  have HB1 := Lib.hid hb1
  clear hG hb1
  go_upto_region 2 with (fail)
  have bS0 := Blk.new w1 24 #[.slice A2 l.length cp2, .int .i64 key]
  have hbS := below_new w1 (.cells #[.slice A2 l.length cp2, .int .i64 key] 24)
  have hslS0 := hsl.alloc (.cells #[.slice A2 l.length cp2, .int .i64 key] 24)
  obtain ⟨WF, hWF⟩ : ∃ W, W = w1.alloc (.cells #[.slice A2 l.length cp2, .int .i64 key] 24) := ⟨_, rfl⟩
  rw [← hWF] at bS0 hbS hslS0 ⊢
  obtain ⟨S, hS⟩ : ∃ S, S = w1.heap.size := ⟨_, rfl⟩
  rw [← hS] at bS0 ⊢
  have HBF := Lib.hid (bst HB1.out hbS)
  clear hWF hbS hsl hS
  obtain ⟨T, hT⟩ : ∃ T : ByteArray, T = ⟨(linesC l ++ keyC l key).toArray⟩ := ⟨_, rfl⟩
  have HT := Lib.hid (show T.data.toList = linesC l ++ keyC l key by rw [hT])
  have HSF := Lib.hid (show sfmtV l key = (linesC l ++ keyC l key, 0) by unfold sfmtV; rw [if_neg (by rw [HV.out]; simp)])
  have hTs : T.size ≤ 9223372036854775807 := by
    rw [← sizeD, HT.out]
    have := sfmt_len l key
    rw [HSF.out] at this
    exact Nat.le_trans this (by decide)
  have HF := Lib.hid (retDec_to (r := sfmtV l key) (T := T) (E := 0) (by rw [HSF.out]; exact hT) (by rw [HSF.out]) (sfmt_any _ l key WF (ht.below HBF.out) hslS0 (by omega) (fun c hc => by have := HN.out c hc; omega)))
  have i0 : WF.cell? ⟨S, 0, none⟩ = some (.slice A2 l.length cp2) := bS0.cell 0
  have i1 : WF.cell? ⟨S, 1, none⟩ = some (.int .i64 key) := bS0.cell 1
  clear hT
  go_wp2_with fail
  refine HF.out.mono ?_
  rintro _ WS ⟨rfl, hbG⟩
  have bS := bS0.below hbG bS0.lt
  have hslS := hslS0.below hbG
  have hSl := bS.lt
  have HBS := Lib.hid (bst HBF.out hbG)
  clear i0 i1 bS0 hslS0 hbG HF HBF HB1
  go_upto_region 3 with (fail)
  refine wp_region_inv (by kernel_rfl) (by kernel_rfl) (fun L a w' => ∃ u8 u21 u22 u23 u24 u25 u26 : Value,
      a = ⟨#[.slice A zs.length c, .int .i64 at', undef, undef, .bool false, .pointer (some ⟨S, 0, none⟩), .string T, .int .i64 0, u8, undef, undef, undef, undef, undef, .slice A zs.length c, .agg #[.slice A2 l.length cp2, .int .i64 key], .tuple #[.string T, .int .i64 0], .agg #[.slice A2 l.length cp2, .int .i64 key], .tuple #[.string T, .int .i64 0], .string T, .int .i64 0, u21, u22, u23, u24, u25, u26, undef, undef, undef, undef, undef, undef, undef, undef, undef, undef, undef, undef, undef, undef, undef, undef, undef, undef, undef, undef, undef, undef, undef, undef, undef, undef, undef, undef, undef, undef, undef, undef, undef, undef, undef, undef, undef, undef, undef, undef, undef, undef, undef, undef, undef, undef, undef, undef, undef, undef, undef, undef, undef, undef, undef, undef, undef, undef, undef, undef, undef, undef, undef], []⟩ ∧ Below WS.heap.size WS w' ∧
      Got (L 0) u21 (.pointer (some ⟨S, 0, none⟩)) ∧ Got (L 1) u22 (.slice A2 l.length cp2) ∧ (L 2 = true → w'.ownsRow WS.heap.size 31 4 u23 l.length (cols l)) ∧ Got (L 3) u24 (.pointer (some ⟨S, 1, none⟩)) ∧ Got (L 4) u25 (.int .i64 key) ∧
      (L 5 = true → u26 = .agg #[u23, .int .i64 key] ∧ L 2 = true) ∧ (L 7 = true → L 6 = true) ∧ (L 7 = true → L 5 = true) ∧ (L 6 = true → ∃ X, u8 = .pointer (some ⟨X, 0, none⟩) ∧ WS.heap.size ≤ X ∧ Blk w' X 24 (if L 7 = true then #[u23, .int .i64 key] else #[.slice none 0 0, .int .i64 0])))
    ?_ ?_ ?_
  · exact ⟨undef, undef, undef, undef, undef, undef, undef, rfl, (Below.refl _ _).drew, nofun, nofun, nofun, nofun, nofun, nofun, nofun, nofun, nofun⟩
  · refine ⟨?_, ?_, ?_, ?_, ?_, ?_, ?_, ?_, trivial⟩
    · rintro L a w' ⟨u8, u21, u22, u23, u24, u25, u26, rfl, hb, g0, g1, g2, g3, g4, g5, k76, k75, kA⟩ hl hd K hK
      dsimp only at hK ⊢
      go_simp
      exact hK _ _ ⟨_, _, _, _, _, _, _, rfl, hb, fun _ => rfl, g1, g2, g3, g4, g5, k76, k75, kA⟩
    · rintro L a w' ⟨u8, u21, u22, u23, u24, u25, u26, rfl, hb, g0, g1, g2, g3, g4, g5, k76, k75, kA⟩ hl hd K hK
      simp [Region.binds] at hd
      dsimp only at hK ⊢
      have e := g0 (by simp [hd])
      subst e
      have c0 : w'.cell? ⟨S, 0, none⟩ = some (.slice A2 l.length cp2) := (hb.cell (p := ⟨S, 0, none⟩) hSl).trans (bS.cell 0)
      go_simp
      exact hK _ _ ⟨_, _, _, _, _, _, _, rfl, hb, g0, fun _ => rfl, g2, g3, g4, g5, k76, k75, kA⟩
    · rintro L a w' ⟨u8, u21, u22, u23, u24, u25, u26, rfl, hb, g0, g1, g2, g3, g4, g5, k76, k75, kA⟩ hl hd K hK
      simp [Region.binds] at hd
      dsimp only at hK ⊢
      have e := g1 (by simp [hd])
      subst e
      have h5f : L 5 = false := by
          cases h : L 5 with
          | false => rfl
          | true => rw [(g5 h).2] at hl; cases hl
      refine wp_app (P := Tryd.prog) (n := 0) (xs := []) (m := l.length) (base := WS.heap.size) (.const (.slice none 0 0)) (.tmp 22) (World.ownsRow_nil _ _ _ _) (hslS.below hb) hb.size under_col info_col rfl (by decide) (cols_one l) (by omega) (by omega) rfl rfl rfl ?_
      intro v' w3 hown hgr _
      rw [List.nil_append, Nat.zero_add] at hown
      have hgn : w'.grownBy w3 none := hgr
      exact hK _ _ ⟨_, _, _, v', _, _, _, rfl, hb.grown hgn hb.size (by simp), g0, g1, fun _ => hown, g3, g4, fun h => (by have h' : L 5 = true := h; rw [h5f] at h'; cases h'), k76, k75, fun h => by
            obtain ⟨X, e1, e2, e3⟩ := kA h
            refine ⟨X, e1, e2, ?_⟩
            have h7 : L 7 = false := by
              cases hh : L 7 with
              | false => rfl
              | true => rw [(g5 (k75 hh)).2] at hl; cases hl
            rw [h7] at e3
            show Blk w3 X _ (if L 7 = true then _ else _)
            rw [h7]
            exact e3.grown hgn (by simp)⟩
    · rintro L a w' ⟨u8, u21, u22, u23, u24, u25, u26, rfl, hb, g0, g1, g2, g3, g4, g5, k76, k75, kA⟩ hl hd K hK
      dsimp only at hK ⊢
      go_simp
      exact hK _ _ ⟨_, _, _, _, _, _, _, rfl, hb, g0, g1, g2, fun _ => rfl, g4, g5, k76, k75, kA⟩
    · rintro L a w' ⟨u8, u21, u22, u23, u24, u25, u26, rfl, hb, g0, g1, g2, g3, g4, g5, k76, k75, kA⟩ hl hd K hK
      simp [Region.binds] at hd
      dsimp only at hK ⊢
      have e := g3 (by simp [hd])
      subst e
      have c0 : w'.cell? ⟨S, 1, none⟩ = some (.int .i64 key) := (hb.cell (p := ⟨S, 1, none⟩) hSl).trans (bS.cell 1)
      go_simp
      exact hK _ _ ⟨_, _, _, _, _, _, _, rfl, hb, g0, g1, g2, g3, fun _ => rfl, g5, k76, k75, kA⟩
    · rintro L a w' ⟨u8, u21, u22, u23, u24, u25, u26, rfl, hb, g0, g1, g2, g3, g4, g5, k76, k75, kA⟩ hl hd K hK
      simp [Region.binds] at hd
      dsimp only at hK ⊢
      have e := g4 (by simp [hd])
      subst e
      obtain ⟨A3, cp3, rfl, _, _⟩ := (Sl.of_own (g2 (by simp [hd]))).form
      go_simp
      exact hK _ _ ⟨_, _, _, _, _, _, _, rfl, hb, g0, g1, g2, g3, g4, fun _ => ⟨rfl, by simp [hd, upd]⟩, k76, fun _ => rfl, kA⟩
    · rintro L a w' ⟨u8, u21, u22, u23, u24, u25, u26, rfl, hb, g0, g1, g2, g3, g4, g5, k76, k75, kA⟩ hl hd K hK
      dsimp only at hK ⊢
      go_simp
      exact hK _ _ ⟨_, _, _, _, _, _, _, rfl, hb.alloc hb.size _, g0, g1, fun h => (g2 h).alloc _, g3, g4, g5, fun _ => rfl, k75, fun _ => ⟨_, rfl, hb.size, by rw [if_neg (show ¬upd L 6 7 = true from fun h => by have h' : L 6 = true := k76 h; rw [hl] at h'; cases h')]; exact Blk.new _ _ _⟩⟩
    · rintro L a w' ⟨u8, u21, u22, u23, u24, u25, u26, rfl, hb, g0, g1, g2, g3, g4, g5, k76, k75, kA⟩ hl hd K hK
      simp [Region.binds] at hd
      dsimp only at hK ⊢
      obtain ⟨X, e1, hX, bX⟩ := kA (by simp [hd])
      rw [hl] at bX
      simp only [Bool.false_eq_true, if_false] at bX
      obtain ⟨e2, k2⟩ := g5 (by simp [hd])
      have hown := g2 k2
      obtain ⟨A3, cp3, rfl, _, _⟩ := (Sl.of_own hown).form
      subst e1 e2
      have n0 : w'.cell? ⟨X, 0, none⟩ = some (.slice none 0 0) := bX.cell 0
      have n1 : w'.cell? ⟨X, 1, none⟩ = some (.int .i64 0) := bX.cell 1
      have f0 := bX.frozen 0
      have f1 := bX.frozen 1
      have kg0 := grownBy_set w' ⟨X, 0, none⟩ (.slice A3 l.length cp3)
      have kg1 := grownBy_set (w'.setCell ⟨X, 0, none⟩ (.slice A3 l.length cp3)) ⟨X, 1, none⟩ (.int .i64 key)
      have kg : w'.grownBy ((w'.setCell ⟨X, 0, none⟩ (.slice A3 l.length cp3)).setCell ⟨X, 1, none⟩ (.int .i64 key)) (some X) := grown_trans' kg0 kg1
      have bX2 : Blk ((w'.setCell ⟨X, 0, none⟩ (.slice A3 l.length cp3)).setCell ⟨X, 1, none⟩ (.int .i64 key)) X 24 #[.slice A3 l.length cp3, .int .i64 key] := (bX.set_ 0 _).set_ 1 _
      have hown2 := own_row hown kg (fun b hb' e => own_blk_ne hown bX (by decide) (by rw [hb', e]))
      have hb2 := hb.grown kg hb.size (fun k hk => by injection hk with hk; omega)
      go_simp
      exact hK _ _ ⟨_, _, _, _, _, _, _, rfl, hb2, g0, g1, fun _ => hown2, g3, g4, fun _ => ⟨rfl, k2⟩, fun _ => by simp [hd, upd], fun _ => by simp [hd, upd], fun _ => ⟨X, rfl, hX, bX2⟩⟩
  · rintro a w2 ⟨u8, u21, u22, u23, u24, u25, u26, rfl, hb, g0, g1, g2, g3, g4, g5, -, -, kA⟩
    have e := g0 rfl
    subst e
    clear g0
    have e := g1 rfl
    subst e
    clear g1
    have e := g3 rfl
    subst e
    clear g3
    have e := g4 rfl
    subst e
    clear g4
    obtain ⟨e, -⟩ := g5 rfl
    subst e
    have hown := g2 rfl
    obtain ⟨X, e, hX, bX⟩ := kA rfl
    subst e
    simp only [if_true] at bX
    clear g2 g5 kA
    have HB2 := Lib.hid hb
    obtain ⟨gr, cap, rfl⟩ := own_form4 hown h1
    have m0 := cell_regrown (show w2.cell? ⟨X, 0, none⟩ = some (.slice (some ⟨gr, 0, none⟩) l.length cap) from bX.cell 0)
    have hi0 := pick_lo at' l.length (by omega)
    have hi1 := pick_hi at' l.length (by omega)
    obtain ⟨i, hi⟩ : ∃ i : Nat, pick at' l.length = (i : Int) := ⟨(pick at' l.length).toNat, by omega⟩
    rw [hi] at hi0 hi1
    have PK := Lib.hid (reg_pick (w := w2) (v := at') (n := (l.length : Int)) hi (by omega) (by omega))
    have hil : i < l.length := by omega
    have HI := Lib.hid hi
    clear hb hi hi0
    go_upto_region 4 with (fail)
    refine wp_region_quiet_below (by kernel_rfl) (by kernel_rfl) ?_
    repeat (go_big_quiet_step ((first | (with_reducible exact PK.out _ _))))
    refine wpQuiet_nil ?_
    intro _ hw'
    obtain ⟨⟨dq, osq⟩, hw''⟩ := hw'
    subst hw''
    go_upto_region 5 with (fail)
    have hbR := below_regrown w2 dq osq
    obtain ⟨W3, hW3⟩ : ∃ W, W = grow (redrawn w2 dq) osq := ⟨_, rfl⟩
    rw [← hW3] at hbR ⊢
    have hX3 := bX.below hbR bX.lt
    have hown3 := own_below hown hbR
    have HB3 := Lib.hid (bst HB2.out hbR)
    clear hW3 hbR hown bX m0 PK
    obtain ⟨⟨nm, ty, sc, nu⟩, hc0⟩ : ∃ c, l[i]? = some c := ⟨_, List.getElem?_eq_getElem hil⟩
    have c1 : W3.cell? ⟨gr, i * 4, none⟩ = some (.string nm) := (hown3.cellAt (i * 4 + 0) (by omega)).trans (cols_get hc0 (by omega))
    have f1 : W3.frozen? ⟨gr, i * 4, none⟩ = false := hown3.frozenAt (i * 4 + 0)
    have hst := hown3.stored (i * 4 + 0) (.string ⟨#[121]⟩)
    rw [cols_set (c' := colY ⟨nm, ty, sc, nu⟩) hc0 (by omega) rfl, Nat.add_zero] at hst
    have hlen2 : (l.set i (colY ⟨nm, ty, sc, nu⟩)).length = l.length := List.length_set
    have hgrX : X ≠ gr := fun e => own_blk_ne hown3 hX3 (by decide) (by rw [e]; rfl)
    have hgrB : WS.heap.size ≤ gr := (hown3.lt gr rfl).1
    have HC0 := Lib.hid hc0
    clear hc0
    go_upto_region 6 with (fail)
    have hX4 := hX3.row hst.2 hgrX
    have hown4 := hst.1
    have HB4 := Lib.hid (HB3.out.setCell (p := ⟨gr, i * 4, none⟩) hgrB (.string ⟨#[121]⟩))
    clear hst c1 f1
    obtain ⟨W4, hW4⟩ : ∃ W, W = W3.setCell ⟨gr, i * 4, none⟩ (.string ⟨#[121]⟩) := ⟨_, rfl⟩
    rw [← hW4] at hX4 hown4 HB4 ⊢
    clear hW4 hX3 hown3
    have m0 := cell_regrown (show W4.cell? ⟨X, 0, none⟩ = some (.slice (some ⟨gr, 0, none⟩) l.length cap) from hX4.cell 0)
    have m1 := cell_regrown (show W4.cell? ⟨X, 1, none⟩ = some (.int .i64 key) from hX4.cell 1)
    have PK := Lib.hid (reg_pick (w := W4) (v := at') (n := (l.length : Int)) HI.out (by omega) (by omega))
    by_cases hk : key = (i : Int)
    case pos =>
      have qk : (key == (i : Int)) = true := by simpa using hk
      have HKI := Lib.hid hk
      clear hk
      refine wp_region_quiet_below (by kernel_rfl) (by kernel_rfl) ?_
      repeat (go_big_quiet_step ((first | (with_reducible exact PK.out _ _))))
      refine wpQuiet_nil ?_
      intro _ hw'
      obtain ⟨⟨dq2, osq2⟩, hw''⟩ := hw'
      subst hw''
      have hbR2 := below_regrown W4 dq2 osq2
      obtain ⟨W5, hW5⟩ : ∃ W, W = grow (redrawn W4 dq2) osq2 := ⟨_, rfl⟩
      rw [← hW5] at hbR2 ⊢
      have hX5 := hX4.below hbR2 hX4.lt
      have hown5 := own_below hown4 hbR2
      have HB5 := Lib.hid (bst HB4.out hbR2)
      clear hW5 hbR2 hown4 hX4 m0 m1 PK
      have s0 : W5.cell? ⟨S, 0, none⟩ = some (.slice A2 l.length cp2) := (HB5.out.cell (p := ⟨S, 0, none⟩) hSl).trans (bS.cell 0)
      have x1 : W5.cell? ⟨X, 1, none⟩ = some (.int .i64 (i : Int)) := (hX5.cell 1).trans (by rw [← HKI.out]; rfl)
      obtain ⟨ad, e, p, rfl, he, hp, hE⟩ := (hslS.below HB5.out).col_load rfl hil
      obtain rfl : e = ⟨nm, ty, sc, nu⟩ := by rw [HC0.out] at he; injection he with he; exact he.symm
      have e0 : W5.cell? p = some (.string nm) := hE.c0
      have hc5 : (l.set i (colY ⟨nm, ty, sc, nu⟩))[i]? = some (colY ⟨nm, ty, sc, nu⟩) := List.getElem?_set_self hil
      have c1 : W5.cell? ⟨gr, i * 4, none⟩ = some (.string ⟨#[121]⟩) := (hown5.cellAt (i * 4 + 0) (by omega)).trans (cols_get hc5 (by omega))
      have f1 : W5.frozen? ⟨gr, i * 4, none⟩ = false := hown5.frozenAt (i * 4 + 0)
      have hst := hown5.stored (i * 4 + 0) (.string nm)
      rw [cols_set (c' := ⟨nm, ty, sc, nu⟩) hc5 (by omega) rfl, Nat.add_zero] at hst
      have hback : (l.set i (colY ⟨nm, ty, sc, nu⟩)).set i ⟨nm, ty, sc, nu⟩ = l := by
        rw [List.set_set]
        apply List.ext_getElem?
        intro j
        by_cases ej : j = i
        · subst ej; rw [List.getElem?_set_self hil, HC0.out]
        · rw [List.getElem?_set_ne (Ne.symm ej)]
      rw [hback] at hst
      clear he hE hc5 hback
      go_upto_region 8 with (fail)
      have hX6 := hX5.row hst.2 hgrX
      have hown6 := hst.1
      have HB6 := Lib.hid (HB5.out.setCell (p := ⟨gr, i * 4, none⟩) hgrB (.string nm))
      clear hst c1 f1 e0 s0 x1
      obtain ⟨W6, hW6⟩ : ∃ W, W = W5.setCell ⟨gr, i * 4, none⟩ (.string nm) := ⟨_, rfl⟩
      rw [← hW6] at hX6 hown6 HB6 ⊢
      clear hW6 hX5 hown5 hp
      have hsl6 : Sl W6 4 (.slice (some ⟨gr, 0, none⟩) l.length cap) l.length (cols l) := Sl.of_own hown6
      obtain ⟨I1, hI1⟩ : ∃ I, sumV T.data.toList = I := ⟨_, rfl⟩
      have HI1 := Lib.hid hI1
      have HJ := Lib.hid (show idV (sfmtV l key) = (I1, 0) by rw [id_valid HV.out, ← HT.out, HI1.out])
      have qI : (I1 == I1) = true := by simp
      clear hI1 hown6
      have HYX := Lib.hid hX6
      have HYS := Lib.hid hsl6
      have hXY := hX6.lt
      clear hX6 hsl6
      have HI0 := Lib.hid (show idV (sfmtV l key) = (I1, 0) by rw [id_valid HV.out, ← HT.out, HI1.out])
      have s0 : W6.cell? ⟨S, 0, none⟩ = some (.slice (some ad) l.length cp2) := (HB6.out.cell (p := ⟨S, 0, none⟩) hSl).trans (bS.cell 0)
      have s1 : W6.cell? ⟨S, 1, none⟩ = some (.int .i64 key) := (HB6.out.cell (p := ⟨S, 1, none⟩) hSl).trans (bS.cell 1)
      go_wp2_with fail
      refine (retId_to (I := I1) (G := 0) (by rw [HI0.out]) (by rw [HI0.out]) (id_any _ l key W6 ((ht.below HBS.out).below HB6.out) (hslS.below HB6.out) (by omega) (fun c hc => by have := HN.out c hc; omega))).mono ?_
      rintro _ y1 ⟨rfl, hq1⟩
      have T1 := Lib.hid (bst HB6.out hq1)
      have R1 := Lib.hid hq1
      clear hq1 s0 s1
      have x0 : y1.cell? ⟨X, 0, none⟩ = some (.slice (some ⟨gr, 0, none⟩) l.length cap) := (R1.out.cell (p := ⟨X, 0, none⟩) hXY).trans (HYX.out.cell 0)
      have x1 : y1.cell? ⟨X, 1, none⟩ = some (.int .i64 key) := (R1.out.cell (p := ⟨X, 1, none⟩) hXY).trans (HYX.out.cell 1)
      go_wp2_with fail
      refine (retId_to (I := I1) (G := 0) (by rw [HJ.out]) (by rw [HJ.out]) (id_any _ l key y1 ((ht.below HBS.out).below T1.out) (HYS.out.below R1.out) (by omega) (fun c hc => by have := HN.out c hc; omega))).mono ?_
      rintro _ y2 ⟨rfl, hq2⟩
      have T2 := Lib.hid (bst T1.out hq2)
      have R2 := Lib.hid (bst R1.out hq2)
      clear hq2 x0 x1
      go_wp2_with fail
      refine (awake7_any _).mono ?_
      rintro _ y3 ⟨rfl, hq3⟩
      have T3 := Lib.hid (bst T2.out hq3)
      have R3 := Lib.hid (bst R2.out hq3)
      clear hq3
      go_wp2_with fail
      refine (rcrc_any T y3 hTs).mono ?_
      rintro _ y4 ⟨rfl, hq4⟩
      have T4 := Lib.hid (bst T3.out hq4)
      have R4 := Lib.hid (bst R3.out hq4)
      clear hq4
      rw [HI1.out]
      have s0 : y4.cell? ⟨S, 0, none⟩ = some (.slice (some ad) l.length cp2) := (T4.out.cell (p := ⟨S, 0, none⟩) hSl).trans (bS.cell 0)
      have s1 : y4.cell? ⟨S, 1, none⟩ = some (.int .i64 key) := (T4.out.cell (p := ⟨S, 1, none⟩) hSl).trans (bS.cell 1)
      have x0 : y4.cell? ⟨X, 0, none⟩ = some (.slice (some ⟨gr, 0, none⟩) l.length cap) := (R4.out.cell (p := ⟨X, 0, none⟩) hXY).trans (HYX.out.cell 0)
      have x1 : y4.cell? ⟨X, 1, none⟩ = some (.int .i64 key) := (R4.out.cell (p := ⟨X, 1, none⟩) hXY).trans (HYX.out.cell 1)
      go_wp2_with fail
      refine (sameSchema_any _ _ l l key y4 (hslS.below T4.out) (HYS.out.below R4.out) (B := true) ⟨fun _ => rfl, fun _ => rfl⟩).mono ?_
      rintro _ y5 ⟨rfl, hq5⟩
      go_wp2
      go_ret
      exact ⟨rfl, bst HBS.out (bst T4.out hq5)⟩
    case neg =>
      have qk : (key == (i : Int)) = false := by simpa using hk
      have HKI := Lib.hid hk
      clear hk
      refine wp_region_quiet_below (by kernel_rfl) (by kernel_rfl) ?_
      repeat (go_big_quiet_step ((first | (with_reducible exact PK.out _ _))))
      refine wpQuiet_nil ?_
      intro _ hw'
      obtain ⟨⟨dq2, osq2⟩, hw''⟩ := hw'
      subst hw''
      have hbR2 := below_regrown W4 dq2 osq2
      obtain ⟨W6, hW6⟩ : ∃ W, W = grow (redrawn W4 dq2) osq2 := ⟨_, rfl⟩
      rw [← hW6] at hbR2 ⊢
      have hX6 := hX4.below hbR2 hX4.lt
      have hown6 := own_below hown4 hbR2
      have HB6 := Lib.hid (bst HB4.out hbR2)
      clear hW6 hbR2 hown4 hX4 m0 m1 PK
      obtain ⟨l3, hl3⟩ : ∃ l3, l3 = l.set i (colY ⟨nm, ty, sc, nu⟩) := ⟨_, rfl⟩
      have HV3 := Lib.hid (show schkV l3 key = 0 by rw [hl3]; exact set_valid h1 h4 HG.out k0 k1 HC0.out)
      have HN3 := Lib.hid (show ∀ c ∈ l3, c.nm.size ≤ 1 by rw [hl3]; exact set_small HN.out (Nat.le_refl 1))
      have HNE := Lib.hid (show sumV (linesC l ++ keyC l key) ≠ sumV (linesC l3 ++ keyC l3 key) by rw [hl3]; exact id_ne h1 h4 HG.out k0 HC0.out HKI.out)
      have hl34 : l3.length = l.length := by rw [hl3]; exact hlen2
      rw [← hl3] at hown6
      have hsl6 : Sl W6 4 (.slice (some ⟨gr, 0, none⟩) l.length cap) l3.length (cols l3) := by rw [hl34]; exact Sl.of_own hown6
      obtain ⟨I1, hI1⟩ : ∃ I, sumV T.data.toList = I := ⟨_, rfl⟩
      have HI1 := Lib.hid hI1
      obtain ⟨I2, hI2⟩ : ∃ I, sumV (linesC l3 ++ keyC l3 key) = I := ⟨_, rfl⟩
      have HI2 := Lib.hid hI2
      have HJ := Lib.hid (show idV (sfmtV l3 key) = (I2, 0) by rw [id_valid HV3.out, HI2.out])
      have hne : l ≠ l3 := fun e => HNE.out (by rw [← e])
      have HSC := Lib.hid hne
      have qI : (I1 == I2) = false := by
        rw [beq_eq_false_iff_ne, ← HI1.out, ← HI2.out, HT.out]; exact HNE.out
      have HL3 := Lib.hid hl34
      clear hI1 hI2 hown6 hl3 hne hl34
      have HYX := Lib.hid hX6
      have HYS := Lib.hid hsl6
      have hXY := hX6.lt
      clear hX6 hsl6
      have HI0 := Lib.hid (show idV (sfmtV l key) = (I1, 0) by rw [id_valid HV.out, ← HT.out, HI1.out])
      have s0 : W6.cell? ⟨S, 0, none⟩ = some (.slice A2 l.length cp2) := (HB6.out.cell (p := ⟨S, 0, none⟩) hSl).trans (bS.cell 0)
      have s1 : W6.cell? ⟨S, 1, none⟩ = some (.int .i64 key) := (HB6.out.cell (p := ⟨S, 1, none⟩) hSl).trans (bS.cell 1)
      go_wp2_with fail
      refine (retId_to (I := I1) (G := 0) (by rw [HI0.out]) (by rw [HI0.out]) (id_any _ l key W6 ((ht.below HBS.out).below HB6.out) (hslS.below HB6.out) (by omega) (fun c hc => by have := HN.out c hc; omega))).mono ?_
      rintro _ y1 ⟨rfl, hq1⟩
      have T1 := Lib.hid (bst HB6.out hq1)
      have R1 := Lib.hid hq1
      clear hq1 s0 s1
      have x0 : y1.cell? ⟨X, 0, none⟩ = some (.slice (some ⟨gr, 0, none⟩) l.length cap) := (R1.out.cell (p := ⟨X, 0, none⟩) hXY).trans (HYX.out.cell 0)
      have x1 : y1.cell? ⟨X, 1, none⟩ = some (.int .i64 key) := (R1.out.cell (p := ⟨X, 1, none⟩) hXY).trans (HYX.out.cell 1)
      go_wp2_with fail
      refine (retId_to (I := I2) (G := 0) (by rw [HJ.out]) (by rw [HJ.out]) (id_any _ l3 key y1 ((ht.below HBS.out).below T1.out) (HYS.out.below R1.out) (by have := HL3.out; omega) (fun c hc => by have := HN3.out c hc; omega))).mono ?_
      rintro _ y2 ⟨rfl, hq2⟩
      have T2 := Lib.hid (bst T1.out hq2)
      have R2 := Lib.hid (bst R1.out hq2)
      clear hq2 x0 x1
      go_wp2_with fail
      refine (awake7_any _).mono ?_
      rintro _ y3 ⟨rfl, hq3⟩
      have T3 := Lib.hid (bst T2.out hq3)
      have R3 := Lib.hid (bst R2.out hq3)
      clear hq3
      go_wp2_with fail
      refine (rcrc_any T y3 hTs).mono ?_
      rintro _ y4 ⟨rfl, hq4⟩
      have T4 := Lib.hid (bst T3.out hq4)
      have R4 := Lib.hid (bst R3.out hq4)
      clear hq4
      rw [HI1.out]
      have s0 : y4.cell? ⟨S, 0, none⟩ = some (.slice A2 l.length cp2) := (T4.out.cell (p := ⟨S, 0, none⟩) hSl).trans (bS.cell 0)
      have s1 : y4.cell? ⟨S, 1, none⟩ = some (.int .i64 key) := (T4.out.cell (p := ⟨S, 1, none⟩) hSl).trans (bS.cell 1)
      have x0 : y4.cell? ⟨X, 0, none⟩ = some (.slice (some ⟨gr, 0, none⟩) l.length cap) := (R4.out.cell (p := ⟨X, 0, none⟩) hXY).trans (HYX.out.cell 0)
      have x1 : y4.cell? ⟨X, 1, none⟩ = some (.int .i64 key) := (R4.out.cell (p := ⟨X, 1, none⟩) hXY).trans (HYX.out.cell 1)
      go_wp2_with fail
      refine (sameSchema_any _ _ l l3 key y4 (hslS.below T4.out) (HYS.out.below R4.out) (B := false) ⟨fun h => (by cases h), fun h => absurd h HSC.out⟩).mono ?_
      rintro _ y5 ⟨rfl, hq5⟩
      go_wp2
      go_ret
      exact ⟨rfl, bst HBS.out (bst T4.out hq5)⟩
end Go.Proofs.YtlchfaakmgclcaaDoor
