/-
  The walk of the law SchemaGenerated (under way).
-/
import Derived.Test.YtlchfaakmgclcaaDoorSId
import Derived.Test.YtlchfaakmgclcaaDoorKSchemaLaw
import Derived.Test.YtlchfaakmgclcaaDoorApp
namespace Go.Proofs.YtlchfaakmgclcaaDoor
open Go.RowKit Go.Sort
set_option linter.unusedVariables false
theorem cols_one (l : List Col) : ∀ y ∈ cols l, y.oneCell' = true := by
  intro y hy
  unfold cols at hy
  rw [List.mem_flatMap] at hy
  obtain ⟨c, _, hc⟩ := hy
  simp only [Col.cells, List.mem_cons, List.not_mem_nil, or_false] at hc
  rcases hc with rfl | rfl | rfl | rfl <;> rfl
theorem sl_oneC {w : World} {g : Nat} {a : ByteArray} {b c : Int} {d : Bool} (h : Blk w g 31 #[.string a, .int .i64 b, .int .i64 c, .bool d]) : Sl w 4 (.slice (some ⟨g, 0, none⟩) 1 1) 1 (#[.string a, .int .i64 b, .int .i64 c, .bool d] : Array Value).toList :=
  ⟨_, _, rfl, Nat.le_refl _, by decide, rfl, fun _ => ⟨_, rfl, h.lt, fun j u hu => by
    have e1 : (⟨g, 0, none⟩ : Addr).add j = ⟨g, j, none⟩ := by unfold Addr.add; split <;> simp_all
    rw [e1, h.cell j]; rw [Array.getElem?_toList] at hu; exact hu⟩⟩
theorem word_at {k : Nat} (h : k < 8) : ∃ U : ByteArray, (#[.string { data := #[] }, .string { data := #[97] }, .string { data := #[107, 101, 121] }, .string { data := #[65] }, .string { data := #[97, 32, 98] }, .string { data := #[97, 98, 99, 100, 101, 102, 103, 104, 105, 106, 107, 108, 109, 110, 111, 112, 113] }, .string { data := #[95, 97] }, .string { data := #[97, 57, 95] }] : Array Value)[k]? = some (.string U) ∧ U.size ≤ 17 := by
  have : ∀ j : Fin 8, ∃ U : ByteArray, (#[.string { data := #[] }, .string { data := #[97] }, .string { data := #[107, 101, 121] }, .string { data := #[65] }, .string { data := #[97, 32, 98] }, .string { data := #[97, 98, 99, 100, 101, 102, 103, 104, 105, 106, 107, 108, 109, 110, 111, 112, 113] }, .string { data := #[95, 97] }, .string { data := #[97, 57, 95] }] : Array Value)[j.val]? = some (.string U) ∧ U.size ≤ 17 := by
    intro j
    match j with
    | 0 => exact ⟨_, rfl, by decide⟩
    | 1 => exact ⟨_, rfl, by decide⟩
    | 2 => exact ⟨_, rfl, by decide⟩
    | 3 => exact ⟨_, rfl, by decide⟩
    | 4 => exact ⟨_, rfl, by decide⟩
    | 5 => exact ⟨_, rfl, by decide⟩
    | 6 => exact ⟨_, rfl, by decide⟩
    | 7 => exact ⟨_, rfl, by decide⟩
  exact this ⟨k, h⟩
theorem cols_set : ∀ {l : List Col} {i j : Nat} {c c' : Col} {u : Value}, l[i]? = some c → j < 4 → c'.cells = c.cells.set j u → (cols l).set (i * 4 + j) u = cols (l.set i c')
  | [], i, j, c, c', u, h, _, _ => by simp at h
  | x :: r, 0, j, c, c', u, h, hj, hc => by
    simp at h; subst h
    rw [List.set_cons_zero, cols_cons, cols_cons, hc, List.set_append, if_pos (by rw [Col.cells_length]; omega), Nat.zero_mul, Nat.zero_add]
  | x :: r, i + 1, j, c, c', u, h, hj, hc => by
    rw [List.set_cons_succ, cols_cons, cols_cons, List.set_append, if_neg (by rw [Col.cells_length]; omega), Col.cells_length, show (i + 1) * 4 + j - 4 = i * 4 + j by omega, cols_set (by simpa using h) hj hc]
theorem set_small {l : List Col} {i : Nat} {c' : Col} {B : Nat} (h : ∀ c ∈ l, c.nm.size ≤ B) (hc : c'.nm.size ≤ B) : ∀ c ∈ l.set i c', c.nm.size ≤ B := by
  intro d hd
  rcases List.mem_or_eq_of_mem_set hd with h1 | h1
  · exact h d h1
  · subst h1; exact hc
theorem reg_pick {w : World} {v n : Int} {i : Nat} (h : pick v n = (i : Int)) (h0 : 0 < n) (h1 : n ≤ 4294967296) : ∀ d os, Calls Tryd.prog 18 #[.int .i64 v, .int .i64 n] (grow (redrawn w d) os) fun e w'' => e = .returned (.int .i64 i) ∧ ∃ p : Regrown, w'' = grow (redrawn w p.d) p.os :=
  fun d os => Calls.regrown_of ((pick_any v n (grow (redrawn w d) os) h0 h1).mono fun _ _ ⟨a, b⟩ => ⟨by rw [a, h], by rw [← b]; exact Below.refl _ _⟩)
theorem own_form4 {w : World} {base : Nat} {e : TypeId} {v : Value} {n : Nat} {xs : List Value} (h : w.ownsRow base e 4 v n xs) (hn : 1 ≤ n) : ∃ g cap, v = .slice (some ⟨g, 0, none⟩) n cap := by
  rcases h.2 with ⟨_, h0⟩ | ⟨g, cap, _, hv, _⟩
  · omega
  · exact ⟨g, cap, hv⟩
set_option maxRecDepth 100000 in
set_option maxHeartbeats 1000000 in
theorem schemaGenerated_walk (v : Value) (zs : List Int) (how at' vv : Int) (w : World) (ht : Tab w) (hs : Sl w 1 v zs.length (ints zs)) (hl : zs.length ≤ 9223372036854775807) (hr : ∀ x ∈ zs, -9223372036854775808 ≤ x ∧ x ≤ 9223372036854775807) :
    Calls Tryd.prog 4 #[v, .int .i64 how, .int .i64 at', .int .i64 vv] w (RetBl w true) := by
  have HK := Lib.hid (kschema_any v zs w hs hl hr)
  obtain ⟨A, c, rfl, _, _⟩ := hs.form
  clear hs hl hr
  go_enter Tryd.func4, Tryd.ntmps4
  go_wp2_with fail
  refine HK.out.mono ?_
  rintro _ w1 ⟨vs, l, key, rfl, h1, h4, hG, k0, k1, hsl, hb1⟩
  obtain ⟨A2, cp2, rfl, _, _⟩ := hsl.form
  have HV := Lib.hid (gen_valid h1 h4 hG k0 k1)
  have HN := Lib.hid (gen_small hG)
  have HB1 := Lib.hid hb1
  clear hG hb1
  go_upto_region 2 with (fail)
  have bS := Blk.new w1 24 #[.slice A2 l.length cp2, .int .i64 key]
  have hbS := below_new w1 (.cells #[.slice A2 l.length cp2, .int .i64 key] 24)
  have hslS := hsl.alloc (.cells #[.slice A2 l.length cp2, .int .i64 key] 24)
  obtain ⟨WS, hWS⟩ : ∃ W, W = w1.alloc (.cells #[.slice A2 l.length cp2, .int .i64 key] 24) := ⟨_, rfl⟩
  rw [← hWS] at bS hbS hslS ⊢
  obtain ⟨S, hS⟩ : ∃ S, S = w1.heap.size := ⟨_, rfl⟩
  rw [← hS] at bS ⊢
  have hSl := bS.lt
  have HBS := Lib.hid (bst HB1.out hbS)
  have HSS := Lib.hid hS
  clear hWS hbS hsl hS
  refine wp_region_inv (by kernel_rfl) (by kernel_rfl) (fun L a w' => ∃ u10 u14 u15 u16 u17 u18 u19 : Value,
      a = ⟨#[.slice A zs.length c, .int .i64 how, .int .i64 at', .int .i64 vv, undef, undef, undef, undef, .bool false, .pointer (some ⟨S, 0, none⟩), u10, undef, .slice A zs.length c, .agg #[.slice A2 l.length cp2, .int .i64 key], u14, u15, u16, u17, u18, u19, undef, undef, undef, undef, undef, undef, undef, undef, undef, undef, undef, undef, undef, undef, undef, undef, undef, undef, undef, undef, undef, undef, undef, undef, undef, undef, undef, undef, undef, undef, undef, undef, undef, undef, undef, undef, undef, undef, undef, undef, undef, undef, undef, undef, undef, undef, undef, undef, undef, undef, undef, undef, undef, undef, undef, undef, undef, undef, undef, undef, undef, undef, undef, undef, undef, undef, undef, undef, undef, undef, undef, undef, undef, undef, undef, undef], []⟩ ∧ Below WS.heap.size WS w' ∧
      Got (L 0) u14 (.pointer (some ⟨S, 0, none⟩)) ∧ Got (L 1) u15 (.slice A2 l.length cp2) ∧ (L 2 = true → w'.ownsRow WS.heap.size 31 4 u16 l.length (cols l)) ∧ Got (L 3) u17 (.pointer (some ⟨S, 1, none⟩)) ∧ Got (L 4) u18 (.int .i64 key) ∧
      (L 5 = true → u19 = .agg #[u16, .int .i64 key] ∧ L 2 = true) ∧ (L 7 = true → L 6 = true) ∧ (L 7 = true → L 5 = true) ∧ (L 6 = true → ∃ X, u10 = .pointer (some ⟨X, 0, none⟩) ∧ WS.heap.size ≤ X ∧ Blk w' X 24 (if L 7 = true then #[u16, .int .i64 key] else #[.slice none 0 0, .int .i64 0])))
    ?_ ?_ ?_
  · exact ⟨undef, undef, undef, undef, undef, undef, undef, rfl, (Below.refl _ _).drew, nofun, nofun, nofun, nofun, nofun, nofun, nofun, nofun, nofun⟩
  · refine ⟨?_, ?_, ?_, ?_, ?_, ?_, ?_, ?_, trivial⟩
    · rintro L a w' ⟨u10, u14, u15, u16, u17, u18, u19, rfl, hb, g0, g1, g2, g3, g4, g5, k76, k75, kA⟩ hl hd K hK
      dsimp only at hK ⊢
      go_simp
      exact hK _ _ ⟨_, _, _, _, _, _, _, rfl, hb, fun _ => rfl, g1, g2, g3, g4, g5, k76, k75, kA⟩
    · rintro L a w' ⟨u10, u14, u15, u16, u17, u18, u19, rfl, hb, g0, g1, g2, g3, g4, g5, k76, k75, kA⟩ hl hd K hK
      simp [Region.binds] at hd
      dsimp only at hK ⊢
      have e := g0 (by simp [hd])
      subst e
      have c0 : w'.cell? ⟨S, 0, none⟩ = some (.slice A2 l.length cp2) := (hb.cell (p := ⟨S, 0, none⟩) hSl).trans (bS.cell 0)
      go_simp
      exact hK _ _ ⟨_, _, _, _, _, _, _, rfl, hb, g0, fun _ => rfl, g2, g3, g4, g5, k76, k75, kA⟩
    · rintro L a w' ⟨u10, u14, u15, u16, u17, u18, u19, rfl, hb, g0, g1, g2, g3, g4, g5, k76, k75, kA⟩ hl hd K hK
      simp [Region.binds] at hd
      dsimp only at hK ⊢
      have e := g1 (by simp [hd])
      subst e
      have h5f : L 5 = false := by
          cases h : L 5 with
          | false => rfl
          | true => rw [(g5 h).2] at hl; cases hl
      refine wp_app (P := Tryd.prog) (n := 0) (xs := []) (m := l.length) (base := WS.heap.size) (.const (.slice none 0 0)) (.tmp 15) (World.ownsRow_nil _ _ _ _) (hslS.below hb) hb.size under_col info_col rfl (by decide) (cols_one l) (by omega) (by omega) rfl rfl rfl ?_
      intro v' w3 hown hgr _
      rw [List.nil_append, Nat.zero_add] at hown
      have hgn : w'.grownBy w3 none := hgr
      exact hK _ _ ⟨_, _, _, v', _, _, _, rfl, hb.grown hgn hb.size (by simp), g0, g1, fun _ => hown, g3, g4, fun h => (by have h' : L 5 = true := h; rw [h5f] at h'; cases h'), k76, k75, fun h => by
            obtain ⟨X, e1, e2, e3⟩ := kA h
            refine ⟨X, e1, e2, ?_⟩
            have h7 : L 7 = false := by
              cases hh : L 7 with
              | false => rfl
              | true => rw [(g5 (k75 hh)).2] at hl; cases hl
            rw [h7] at e3
            show Blk w3 X _ (if L 7 = true then _ else _)
            rw [h7]
            exact e3.grown hgn (by simp)⟩
    · rintro L a w' ⟨u10, u14, u15, u16, u17, u18, u19, rfl, hb, g0, g1, g2, g3, g4, g5, k76, k75, kA⟩ hl hd K hK
      dsimp only at hK ⊢
      go_simp
      exact hK _ _ ⟨_, _, _, _, _, _, _, rfl, hb, g0, g1, g2, fun _ => rfl, g4, g5, k76, k75, kA⟩
    · rintro L a w' ⟨u10, u14, u15, u16, u17, u18, u19, rfl, hb, g0, g1, g2, g3, g4, g5, k76, k75, kA⟩ hl hd K hK
      simp [Region.binds] at hd
      dsimp only at hK ⊢
      have e := g3 (by simp [hd])
      subst e
      have c0 : w'.cell? ⟨S, 1, none⟩ = some (.int .i64 key) := (hb.cell (p := ⟨S, 1, none⟩) hSl).trans (bS.cell 1)
      go_simp
      exact hK _ _ ⟨_, _, _, _, _, _, _, rfl, hb, g0, g1, g2, g3, fun _ => rfl, g5, k76, k75, kA⟩
    · rintro L a w' ⟨u10, u14, u15, u16, u17, u18, u19, rfl, hb, g0, g1, g2, g3, g4, g5, k76, k75, kA⟩ hl hd K hK
      simp [Region.binds] at hd
      dsimp only at hK ⊢
      have e := g4 (by simp [hd])
      subst e
      obtain ⟨A3, cp3, rfl, _, _⟩ := (Sl.of_own (g2 (by simp [hd]))).form
      go_simp
      exact hK _ _ ⟨_, _, _, _, _, _, _, rfl, hb, g0, g1, g2, g3, g4, fun _ => ⟨rfl, by simp [hd, upd]⟩, k76, fun _ => rfl, kA⟩
    · rintro L a w' ⟨u10, u14, u15, u16, u17, u18, u19, rfl, hb, g0, g1, g2, g3, g4, g5, k76, k75, kA⟩ hl hd K hK
      dsimp only at hK ⊢
      go_simp
      exact hK _ _ ⟨_, _, _, _, _, _, _, rfl, hb.alloc hb.size _, g0, g1, fun h => (g2 h).alloc _, g3, g4, g5, fun _ => rfl, k75, fun _ => ⟨_, rfl, hb.size, by rw [if_neg (show ¬upd L 6 7 = true from fun h => by have h' : L 6 = true := k76 h; rw [hl] at h'; cases h')]; exact Blk.new _ _ _⟩⟩
    · rintro L a w' ⟨u10, u14, u15, u16, u17, u18, u19, rfl, hb, g0, g1, g2, g3, g4, g5, k76, k75, kA⟩ hl hd K hK
      simp [Region.binds] at hd
      dsimp only at hK ⊢
      obtain ⟨X, e1, hX, bX⟩ := kA (by simp [hd])
      rw [hl] at bX
      simp only [Bool.false_eq_true, if_false] at bX
      obtain ⟨e2, k2⟩ := g5 (by simp [hd])
      have hown := g2 k2
      obtain ⟨A3, cp3, rfl, _, _⟩ := (Sl.of_own hown).form
      subst e1 e2
      have n0 : w'.cell? ⟨X, 0, none⟩ = some (.slice none 0 0) := bX.cell 0
      have n1 : w'.cell? ⟨X, 1, none⟩ = some (.int .i64 0) := bX.cell 1
      have f0 := bX.frozen 0
      have f1 := bX.frozen 1
      have kg0 := grownBy_set w' ⟨X, 0, none⟩ (.slice A3 l.length cp3)
      have kg1 := grownBy_set (w'.setCell ⟨X, 0, none⟩ (.slice A3 l.length cp3)) ⟨X, 1, none⟩ (.int .i64 key)
      have kg : w'.grownBy ((w'.setCell ⟨X, 0, none⟩ (.slice A3 l.length cp3)).setCell ⟨X, 1, none⟩ (.int .i64 key)) (some X) := grown_trans' kg0 kg1
      have bX2 : Blk ((w'.setCell ⟨X, 0, none⟩ (.slice A3 l.length cp3)).setCell ⟨X, 1, none⟩ (.int .i64 key)) X 24 #[.slice A3 l.length cp3, .int .i64 key] := (bX.set_ 0 _).set_ 1 _
      have hown2 := own_row hown kg (fun b hb' e => own_blk_ne hown bX (by decide) (by rw [hb', e]))
      have hb2 := hb.grown kg hb.size (fun k hk => by injection hk with hk; omega)
      go_simp
      exact hK _ _ ⟨_, _, _, _, _, _, _, rfl, hb2, g0, g1, fun _ => hown2, g3, g4, fun _ => ⟨rfl, k2⟩, fun _ => by simp [hd, upd], fun _ => by simp [hd, upd], fun _ => ⟨X, rfl, hX, bX2⟩⟩
  · rintro a w2 ⟨u10, u14, u15, u16, u17, u18, u19, rfl, hb, g0, g1, g2, g3, g4, g5, -, -, kA⟩
    have e := g0 rfl
    subst e
    clear g0
    have e := g1 rfl
    subst e
    clear g1
    have e := g3 rfl
    subst e
    clear g3
    have e := g4 rfl
    subst e
    clear g4
    obtain ⟨e, -⟩ := g5 rfl
    subst e
    have hown := g2 rfl
    obtain ⟨X, e, hX, bX⟩ := kA rfl
    subst e
    simp only [if_true] at bX
    clear g2 g5 kA
    have HB2 := Lib.hid hb
    obtain ⟨gr, cap, rfl⟩ := own_form4 hown h1
    have m0 := cell_regrown (show w2.cell? ⟨X, 0, none⟩ = some (.slice (some ⟨gr, 0, none⟩) l.length cap) from bX.cell 0)
    have hi0 := pick_lo at' l.length (by omega)
    have hi1 := pick_hi at' l.length (by omega)
    obtain ⟨i, hi⟩ : ∃ i : Nat, pick at' l.length = (i : Int) := ⟨(pick at' l.length).toNat, by omega⟩
    rw [hi] at hi0 hi1
    have PK := Lib.hid (reg_pick (w := w2) (v := at') (n := (l.length : Int)) hi (by omega) (by omega))
    have hil : i < l.length := by omega
    clear hb hi hi0
    go_upto_region 3 with (fail)
    refine wp_region_quiet_below (by kernel_rfl) (by kernel_rfl) ?_
    repeat (go_big_quiet_step ((first | (with_reducible exact PK.out _ _))))
    refine wpQuiet_nil ?_
    intro _ hw'
    obtain ⟨⟨dq, osq⟩, hw''⟩ := hw'
    subst hw''
    go_upto_region 4 with (fail)
    have hbR := below_regrown w2 dq osq
    obtain ⟨W3, hW3⟩ : ∃ W, W = grow (redrawn w2 dq) osq := ⟨_, rfl⟩
    rw [← hW3] at hbR ⊢
    have hX3 := bX.below hbR bX.lt
    have hown3 := own_below hown hbR
    have HB3 := Lib.hid (bst HB2.out hbR)
    have h60 := pick_lo how 6 (by omega)
    have h61 := pick_hi how 6 (by omega)
    have HPH := Lib.hid (pick_any how 6 W3 (by omega) (by omega))
    obtain ⟨hh, hhe⟩ : ∃ hh, pick how 6 = hh := ⟨_, rfl⟩
    rw [hhe] at h60 h61 HPH
    clear hW3 hbR hown bX m0 PK hhe
    go_wp2_with fail
    refine HPH.out.mono ?_
    rintro _ _ ⟨rfl, rfl⟩
    have hh6 : hh = 0 ∨ hh = 1 ∨ hh = 2 ∨ hh = 3 ∨ hh = 4 ∨ hh = 5 := by omega
    clear HPH h60 h61
    rcases hh6 with rfl | rfl | rfl | rfl | rfl | rfl
    · have PK := Lib.hid (fun Y => pick_any vv 8 Y (by omega) (by omega))
      have p0 := pick_lo vv 8 (by omega)
      have p1 := pick_hi vv 8 (by omega)
      obtain ⟨pk, hpk⟩ : ∃ pk : Nat, pick vv 8 = (pk : Int) := ⟨(pick vv 8).toNat, by omega⟩
      rw [hpk] at p0 p1 PK
      have hpk8 : pk < 8 := by omega
      obtain ⟨U, hU, hUs⟩ := word_at hpk8
      clear hpk p0
      obtain ⟨⟨nm, ty, sc, nu⟩, hc0⟩ : ∃ c, l[i]? = some c := ⟨_, List.getElem?_eq_getElem hil⟩
      have bN := Blk.new W3 9 #[.string { data := #[] }, .string { data := #[97] }, .string { data := #[107, 101, 121] }, .string { data := #[65] }, .string { data := #[97, 32, 98] }, .string { data := #[97, 98, 99, 100, 101, 102, 103, 104, 105, 106, 107, 108, 109, 110, 111, 112, 113] }, .string { data := #[95, 97] }, .string { data := #[97, 57, 95] }]
      have hXa := hX3.alloc (.cells #[.string { data := #[] }, .string { data := #[97] }, .string { data := #[107, 101, 121] }, .string { data := #[65] }, .string { data := #[97, 32, 98] }, .string { data := #[97, 98, 99, 100, 101, 102, 103, 104, 105, 106, 107, 108, 109, 110, 111, 112, 113] }, .string { data := #[95, 97] }, .string { data := #[97, 57, 95] }] 9)
      have howna := hown3.alloc (.cells #[.string { data := #[] }, .string { data := #[97] }, .string { data := #[107, 101, 121] }, .string { data := #[65] }, .string { data := #[97, 32, 98] }, .string { data := #[97, 98, 99, 100, 101, 102, 103, 104, 105, 106, 107, 108, 109, 110, 111, 112, 113] }, .string { data := #[95, 97] }, .string { data := #[97, 57, 95] }] 9)
      have HBa := Lib.hid (HB3.out.alloc HB3.out.size (.cells #[.string { data := #[] }, .string { data := #[97] }, .string { data := #[107, 101, 121] }, .string { data := #[65] }, .string { data := #[97, 32, 98] }, .string { data := #[97, 98, 99, 100, 101, 102, 103, 104, 105, 106, 107, 108, 109, 110, 111, 112, 113] }, .string { data := #[95, 97] }, .string { data := #[97, 57, 95] }] 9))
      obtain ⟨Wa, hWa⟩ : ∃ W, W = W3.alloc (.cells #[.string { data := #[] }, .string { data := #[97] }, .string { data := #[107, 101, 121] }, .string { data := #[65] }, .string { data := #[97, 32, 98] }, .string { data := #[97, 98, 99, 100, 101, 102, 103, 104, 105, 106, 107, 108, 109, 110, 111, 112, 113] }, .string { data := #[95, 97] }, .string { data := #[97, 57, 95] }] 9) := ⟨_, rfl⟩
      rw [← hWa] at bN hXa howna HBa
      have c1 : Wa.cell? ⟨gr, i * 4, none⟩ = some (.string nm) := (howna.cellAt (i * 4 + 0) (by omega)).trans (cols_get hc0 (by omega))
      have f1 : Wa.frozen? ⟨gr, i * 4, none⟩ = false := howna.frozenAt (i * 4 + 0)
      have hst := howna.stored (i * 4 + 0) (.string U)
      rw [cols_set (c' := ⟨U, ty, sc, nu⟩) hc0 (by omega) rfl, Nat.add_zero] at hst
      have hlen2 : (l.set i ⟨U, ty, sc, nu⟩).length = l.length := List.length_set
      have hsm : ∀ c ∈ l.set i ⟨U, ty, sc, nu⟩, c.nm.size ≤ 9223372036854775807 := set_small (fun c hc => by have := HN.out c hc; omega) (by show U.size ≤ _; omega)
      obtain ⟨l2, hl2⟩ : ∃ l2, l2 = l.set i ⟨U, ty, sc, nu⟩ := ⟨_, rfl⟩
      rw [← hl2] at hst hlen2 hsm
      have hgrX : X ≠ gr := fun e => own_blk_ne howna hXa (by decide) (by rw [e]; rfl)
      have hgrB : WS.heap.size ≤ gr := (howna.lt gr rfl).1
      have n0 : Wa.cell? ⟨W3.heap.size, pk, none⟩ = some (.string U) := (bN.cell pk).trans hU
      clear hl2 hc0 hX3 hown3
      go_wp2_with fail
      rw [← hWa]
      clear hWa
      refine (PK.out _).mono ?_
      rintro _ _ ⟨rfl, rfl⟩
      have hX4 := hXa.row hst.2 hgrX
      have hown4 := hst.1
      rw [← hlen2] at hown4 hX4
      have HB4 := Lib.hid (HBa.out.setCell (p := ⟨gr, i * 4, none⟩) hgrB (.string U))
      clear hst
      go_upto_region 16 with (fail)
      obtain ⟨W4, hW4⟩ : ∃ W, W = Wa.setCell ⟨gr, i * 4, none⟩ (.string U) := ⟨_, rfl⟩
      rw [← hW4] at hX4 hown4 HB4 ⊢
      have HL2 := Lib.hid hlen2
      have hl24 : l2.length ≤ 4 := by omega
      clear hW4 hXa howna c1 f1 n0 PK hlen2
      have HYB := Lib.hid HB4.out
      have HYS := Lib.hid (Sl.of_own hown4)
      have HYX := Lib.hid hX4
      have hXY := hX4.lt
      have HNM := Lib.hid (show ∀ c ∈ l2, c.nm.size ≤ 9223372036854775807 from hsm)
      clear hX4 hown4
      go_wp2_with fail
      refine (awake7_any _).mono ?_
      rintro _ y1 ⟨rfl, hq1⟩
      have T1 := Lib.hid (bst HYB.out hq1)
      have R1 := Lib.hid hq1
      have s0 : y1.cell? ⟨S, 0, none⟩ = some (.slice A2 l.length cp2) := (T1.out.cell (p := ⟨S, 0, none⟩) hSl).trans (bS.cell 0)
      have s1 : y1.cell? ⟨S, 1, none⟩ = some (.int .i64 key) := (T1.out.cell (p := ⟨S, 1, none⟩) hSl).trans (bS.cell 1)
      clear hq1
      go_wp2_with fail
      refine (retN_to HV.out (schk_any _ l key y1 (hslS.below T1.out) (by omega) (fun c hc => by have := HN.out c hc; omega))).mono ?_
      rintro _ y2 ⟨rfl, hq2⟩
      have T2 := Lib.hid (bst T1.out hq2)
      have R2 := Lib.hid (bst R1.out hq2)
      clear hq2 s0 s1
      have s0 : y2.cell? ⟨S, 0, none⟩ = some (.slice A2 l.length cp2) := (T2.out.cell (p := ⟨S, 0, none⟩) hSl).trans (bS.cell 0)
      have s1 : y2.cell? ⟨S, 1, none⟩ = some (.int .i64 key) := (T2.out.cell (p := ⟨S, 1, none⟩) hSl).trans (bS.cell 1)
      go_wp2_with fail
      refine (agrees_any _ l key _ y2 ((ht.below HBS.out).below T2.out) (hslS.below T2.out) (by omega) (fun c hc => by have := HN.out c hc; omega)).mono ?_
      rintro _ y3 ⟨rfl, hq3⟩
      have T3 := Lib.hid (bst T2.out hq3)
      have R3 := Lib.hid (bst R2.out hq3)
      clear hq3 s0 s1
      have x0 : y3.cell? ⟨X, 0, none⟩ = some (.slice (some ⟨gr, 0, none⟩) l2.length cap) := (R3.out.cell (p := ⟨X, 0, none⟩) hXY).trans (HYX.out.cell 0)
      have x1 : y3.cell? ⟨X, 1, none⟩ = some (.int .i64 key) := (R3.out.cell (p := ⟨X, 1, none⟩) hXY).trans (HYX.out.cell 1)
      go_wp2_with fail
      refine (agrees_any _ l2 key _ y3 ((ht.below HBS.out).below T3.out) (HYS.out.below R3.out) (by omega) HNM.out).mono ?_
      rintro _ y4 ⟨rfl, hq4⟩
      go_wp2
      go_ret
      exact ⟨rfl, bst HBS.out (bst T3.out hq4)⟩
    · have PK := Lib.hid (pick_any vv 8 W3 (by omega) (by omega))
      have p0 := pick_lo vv 8 (by omega)
      have p1 := pick_hi vv 8 (by omega)
      obtain ⟨pk, hpk⟩ : ∃ pk, pick vv 8 = pk := ⟨_, rfl⟩
      rw [hpk] at p0 p1 PK
      clear hpk
      obtain ⟨⟨nm, ty, sc, nu⟩, hc0⟩ : ∃ c, l[i]? = some c := ⟨_, List.getElem?_eq_getElem hil⟩
      have hnm0 := HN.out _ (List.mem_of_getElem? hc0)
      have c1 : W3.cell? ⟨gr, i * 4 + 1, none⟩ = some (.int .i64 ty) := (hown3.cellAt (i * 4 + 1) (by omega)).trans (cols_get hc0 (by omega))
      have f1 := hown3.frozenAt (i * 4 + 1)
      have hst := hown3.stored (i * 4 + 1) (.int .i64 (pk - 1))
      rw [cols_set (c' := ⟨nm, pk - 1, sc, nu⟩) hc0 (by omega) rfl] at hst
      have hlen2 : (l.set i ⟨nm, pk - 1, sc, nu⟩).length = l.length := List.length_set
      have hsm : ∀ c ∈ l.set i ⟨nm, pk - 1, sc, nu⟩, c.nm.size ≤ 9223372036854775807 := set_small (fun c hc => by have := HN.out c hc; omega) (by show nm.size ≤ _; have : nm.size ≤ 1 := hnm0; omega)
      obtain ⟨l2, hl2⟩ : ∃ l2, l2 = l.set i ⟨nm, pk - 1, sc, nu⟩ := ⟨_, rfl⟩
      rw [← hl2] at hst hlen2 hsm
      have hgrX : X ≠ gr := fun e => own_blk_ne hown3 hX3 (by decide) (by rw [e]; rfl)
      have hgrB : WS.heap.size ≤ gr := (hown3.lt gr rfl).1
      clear hl2 hc0 hnm0
      go_wp2_with fail
      refine PK.out.mono ?_
      rintro _ _ ⟨rfl, rfl⟩
      have hpw : IntKind.i64.wrap (pk - 1) = pk - 1 := IntWalk.i64_in _ (by omega)
      have hX4 := hX3.row hst.2 hgrX
      have hown4 := hst.1
      rw [← hlen2] at hown4 hX4
      have HB4 := Lib.hid (HB3.out.setCell (p := ⟨gr, i * 4 + 1, none⟩) hgrB (.int .i64 (pk - 1)))
      clear hst
      go_upto_region 16 with (fail)
      obtain ⟨W4, hW4⟩ : ∃ W, W = W3.setCell ⟨gr, i * 4 + 1, none⟩ (.int .i64 (pk - 1)) := ⟨_, rfl⟩
      rw [← hW4] at hX4 hown4 HB4 ⊢
      have HL2 := Lib.hid hlen2
      have hl24 : l2.length ≤ 4 := by omega
      clear hW4 hX3 hown3 c1 f1 hpw PK hlen2
      have HYB := Lib.hid HB4.out
      have HYS := Lib.hid (Sl.of_own hown4)
      have HYX := Lib.hid hX4
      have hXY := hX4.lt
      have HNM := Lib.hid (show ∀ c ∈ l2, c.nm.size ≤ 9223372036854775807 from hsm)
      clear hX4 hown4
      go_wp2_with fail
      refine (awake7_any _).mono ?_
      rintro _ y1 ⟨rfl, hq1⟩
      have T1 := Lib.hid (bst HYB.out hq1)
      have R1 := Lib.hid hq1
      have s0 : y1.cell? ⟨S, 0, none⟩ = some (.slice A2 l.length cp2) := (T1.out.cell (p := ⟨S, 0, none⟩) hSl).trans (bS.cell 0)
      have s1 : y1.cell? ⟨S, 1, none⟩ = some (.int .i64 key) := (T1.out.cell (p := ⟨S, 1, none⟩) hSl).trans (bS.cell 1)
      clear hq1
      go_wp2_with fail
      refine (retN_to HV.out (schk_any _ l key y1 (hslS.below T1.out) (by omega) (fun c hc => by have := HN.out c hc; omega))).mono ?_
      rintro _ y2 ⟨rfl, hq2⟩
      have T2 := Lib.hid (bst T1.out hq2)
      have R2 := Lib.hid (bst R1.out hq2)
      clear hq2 s0 s1
      have s0 : y2.cell? ⟨S, 0, none⟩ = some (.slice A2 l.length cp2) := (T2.out.cell (p := ⟨S, 0, none⟩) hSl).trans (bS.cell 0)
      have s1 : y2.cell? ⟨S, 1, none⟩ = some (.int .i64 key) := (T2.out.cell (p := ⟨S, 1, none⟩) hSl).trans (bS.cell 1)
      go_wp2_with fail
      refine (agrees_any _ l key _ y2 ((ht.below HBS.out).below T2.out) (hslS.below T2.out) (by omega) (fun c hc => by have := HN.out c hc; omega)).mono ?_
      rintro _ y3 ⟨rfl, hq3⟩
      have T3 := Lib.hid (bst T2.out hq3)
      have R3 := Lib.hid (bst R2.out hq3)
      clear hq3 s0 s1
      have x0 : y3.cell? ⟨X, 0, none⟩ = some (.slice (some ⟨gr, 0, none⟩) l2.length cap) := (R3.out.cell (p := ⟨X, 0, none⟩) hXY).trans (HYX.out.cell 0)
      have x1 : y3.cell? ⟨X, 1, none⟩ = some (.int .i64 key) := (R3.out.cell (p := ⟨X, 1, none⟩) hXY).trans (HYX.out.cell 1)
      go_wp2_with fail
      refine (agrees_any _ l2 key _ y3 ((ht.below HBS.out).below T3.out) (HYS.out.below R3.out) (by omega) HNM.out).mono ?_
      rintro _ y4 ⟨rfl, hq4⟩
      go_wp2
      go_ret
      exact ⟨rfl, bst HBS.out (bst T3.out hq4)⟩
    · have PK := Lib.hid (pick_any vv 22 W3 (by omega) (by omega))
      have p0 := pick_lo vv 22 (by omega)
      have p1 := pick_hi vv 22 (by omega)
      obtain ⟨pk, hpk⟩ : ∃ pk, pick vv 22 = pk := ⟨_, rfl⟩
      rw [hpk] at p0 p1 PK
      clear hpk
      obtain ⟨⟨nm, ty, sc, nu⟩, hc0⟩ : ∃ c, l[i]? = some c := ⟨_, List.getElem?_eq_getElem hil⟩
      have hnm0 := HN.out _ (List.mem_of_getElem? hc0)
      have c1 : W3.cell? ⟨gr, i * 4 + 2, none⟩ = some (.int .i64 sc) := (hown3.cellAt (i * 4 + 2) (by omega)).trans (cols_get hc0 (by omega))
      have f1 := hown3.frozenAt (i * 4 + 2)
      have hst := hown3.stored (i * 4 + 2) (.int .i64 (pk - 1))
      rw [cols_set (c' := ⟨nm, ty, pk - 1, nu⟩) hc0 (by omega) rfl] at hst
      have hlen2 : (l.set i ⟨nm, ty, pk - 1, nu⟩).length = l.length := List.length_set
      have hsm : ∀ c ∈ l.set i ⟨nm, ty, pk - 1, nu⟩, c.nm.size ≤ 9223372036854775807 := set_small (fun c hc => by have := HN.out c hc; omega) (by show nm.size ≤ _; have : nm.size ≤ 1 := hnm0; omega)
      obtain ⟨l2, hl2⟩ : ∃ l2, l2 = l.set i ⟨nm, ty, pk - 1, nu⟩ := ⟨_, rfl⟩
      rw [← hl2] at hst hlen2 hsm
      have hgrX : X ≠ gr := fun e => own_blk_ne hown3 hX3 (by decide) (by rw [e]; rfl)
      have hgrB : WS.heap.size ≤ gr := (hown3.lt gr rfl).1
      clear hl2 hc0 hnm0
      go_wp2_with fail
      refine PK.out.mono ?_
      rintro _ _ ⟨rfl, rfl⟩
      have hpw : IntKind.i64.wrap (pk - 1) = pk - 1 := IntWalk.i64_in _ (by omega)
      have hX4 := hX3.row hst.2 hgrX
      have hown4 := hst.1
      rw [← hlen2] at hown4 hX4
      have HB4 := Lib.hid (HB3.out.setCell (p := ⟨gr, i * 4 + 2, none⟩) hgrB (.int .i64 (pk - 1)))
      clear hst
      go_upto_region 16 with (fail)
      obtain ⟨W4, hW4⟩ : ∃ W, W = W3.setCell ⟨gr, i * 4 + 2, none⟩ (.int .i64 (pk - 1)) := ⟨_, rfl⟩
      rw [← hW4] at hX4 hown4 HB4 ⊢
      have HL2 := Lib.hid hlen2
      have hl24 : l2.length ≤ 4 := by omega
      clear hW4 hX3 hown3 c1 f1 hpw PK hlen2
      have HYB := Lib.hid HB4.out
      have HYS := Lib.hid (Sl.of_own hown4)
      have HYX := Lib.hid hX4
      have hXY := hX4.lt
      have HNM := Lib.hid (show ∀ c ∈ l2, c.nm.size ≤ 9223372036854775807 from hsm)
      clear hX4 hown4
      go_wp2_with fail
      refine (awake7_any _).mono ?_
      rintro _ y1 ⟨rfl, hq1⟩
      have T1 := Lib.hid (bst HYB.out hq1)
      have R1 := Lib.hid hq1
      have s0 : y1.cell? ⟨S, 0, none⟩ = some (.slice A2 l.length cp2) := (T1.out.cell (p := ⟨S, 0, none⟩) hSl).trans (bS.cell 0)
      have s1 : y1.cell? ⟨S, 1, none⟩ = some (.int .i64 key) := (T1.out.cell (p := ⟨S, 1, none⟩) hSl).trans (bS.cell 1)
      clear hq1
      go_wp2_with fail
      refine (retN_to HV.out (schk_any _ l key y1 (hslS.below T1.out) (by omega) (fun c hc => by have := HN.out c hc; omega))).mono ?_
      rintro _ y2 ⟨rfl, hq2⟩
      have T2 := Lib.hid (bst T1.out hq2)
      have R2 := Lib.hid (bst R1.out hq2)
      clear hq2 s0 s1
      have s0 : y2.cell? ⟨S, 0, none⟩ = some (.slice A2 l.length cp2) := (T2.out.cell (p := ⟨S, 0, none⟩) hSl).trans (bS.cell 0)
      have s1 : y2.cell? ⟨S, 1, none⟩ = some (.int .i64 key) := (T2.out.cell (p := ⟨S, 1, none⟩) hSl).trans (bS.cell 1)
      go_wp2_with fail
      refine (agrees_any _ l key _ y2 ((ht.below HBS.out).below T2.out) (hslS.below T2.out) (by omega) (fun c hc => by have := HN.out c hc; omega)).mono ?_
      rintro _ y3 ⟨rfl, hq3⟩
      have T3 := Lib.hid (bst T2.out hq3)
      have R3 := Lib.hid (bst R2.out hq3)
      clear hq3 s0 s1
      have x0 : y3.cell? ⟨X, 0, none⟩ = some (.slice (some ⟨gr, 0, none⟩) l2.length cap) := (R3.out.cell (p := ⟨X, 0, none⟩) hXY).trans (HYX.out.cell 0)
      have x1 : y3.cell? ⟨X, 1, none⟩ = some (.int .i64 key) := (R3.out.cell (p := ⟨X, 1, none⟩) hXY).trans (HYX.out.cell 1)
      go_wp2_with fail
      refine (agrees_any _ l2 key _ y3 ((ht.below HBS.out).below T3.out) (HYS.out.below R3.out) (by omega) HNM.out).mono ?_
      rintro _ y4 ⟨rfl, hq4⟩
      go_wp2
      go_ret
      exact ⟨rfl, bst HBS.out (bst T3.out hq4)⟩
    · have PK := Lib.hid (pick_any vv 7 W3 (by omega) (by omega))
      have p0 := pick_lo vv 7 (by omega)
      have p1 := pick_hi vv 7 (by omega)
      obtain ⟨pk, hpk⟩ : ∃ pk, pick vv 7 = pk := ⟨_, rfl⟩
      rw [hpk] at p0 p1 PK
      clear hpk
      go_wp2_with fail
      refine PK.out.mono ?_
      rintro _ _ ⟨rfl, rfl⟩
      have c1 : W3.cell? ⟨X, 1, none⟩ = some (.int .i64 key) := hX3.cell 1
      have f1 := hX3.frozen 1
      have hpw : IntKind.i64.wrap (pk - 1) = pk - 1 := IntWalk.i64_in _ (by omega)
      have kg := grownBy_set W3 ⟨X, 1, none⟩ (.int .i64 (pk - 1))
      have hX4 : Blk (W3.setCell ⟨X, 1, none⟩ (.int .i64 (pk - 1))) X 24 #[.slice (some ⟨gr, 0, none⟩) l.length cap, .int .i64 (pk - 1)] := hX3.set_ 1 _
      have hown4 := own_row (A := X) hown3 kg (fun b hb e => own_blk_ne hown3 hX3 (by decide) (by rw [hb, e]))
      have HB4 := Lib.hid (HB3.out.setCell (p := ⟨X, 1, none⟩) hX (.int .i64 (pk - 1)))
      go_upto_region 16 with (fail)
      obtain ⟨W4, hW4⟩ : ∃ W, W = W3.setCell ⟨X, 1, none⟩ (.int .i64 (pk - 1)) := ⟨_, rfl⟩
      rw [← hW4] at hX4 hown4 HB4 ⊢
      clear hW4 kg hX3 hown3 c1 f1 hpw PK
      have HYB := Lib.hid HB4.out
      have HYS := Lib.hid (Sl.of_own hown4)
      have HYX := Lib.hid hX4
      have hXY := hX4.lt
      have HNM := Lib.hid (show ∀ c ∈ l, c.nm.size ≤ 9223372036854775807 from (fun c hc => by have := HN.out c hc; omega))
      clear hX4 hown4
      go_wp2_with fail
      refine (awake7_any _).mono ?_
      rintro _ y1 ⟨rfl, hq1⟩
      have T1 := Lib.hid (bst HYB.out hq1)
      have R1 := Lib.hid hq1
      have s0 : y1.cell? ⟨S, 0, none⟩ = some (.slice A2 l.length cp2) := (T1.out.cell (p := ⟨S, 0, none⟩) hSl).trans (bS.cell 0)
      have s1 : y1.cell? ⟨S, 1, none⟩ = some (.int .i64 key) := (T1.out.cell (p := ⟨S, 1, none⟩) hSl).trans (bS.cell 1)
      clear hq1
      go_wp2_with fail
      refine (retN_to HV.out (schk_any _ l key y1 (hslS.below T1.out) (by omega) (fun c hc => by have := HN.out c hc; omega))).mono ?_
      rintro _ y2 ⟨rfl, hq2⟩
      have T2 := Lib.hid (bst T1.out hq2)
      have R2 := Lib.hid (bst R1.out hq2)
      clear hq2 s0 s1
      have s0 : y2.cell? ⟨S, 0, none⟩ = some (.slice A2 l.length cp2) := (T2.out.cell (p := ⟨S, 0, none⟩) hSl).trans (bS.cell 0)
      have s1 : y2.cell? ⟨S, 1, none⟩ = some (.int .i64 key) := (T2.out.cell (p := ⟨S, 1, none⟩) hSl).trans (bS.cell 1)
      go_wp2_with fail
      refine (agrees_any _ l key _ y2 ((ht.below HBS.out).below T2.out) (hslS.below T2.out) (by omega) (fun c hc => by have := HN.out c hc; omega)).mono ?_
      rintro _ y3 ⟨rfl, hq3⟩
      have T3 := Lib.hid (bst T2.out hq3)
      have R3 := Lib.hid (bst R2.out hq3)
      clear hq3 s0 s1
      have x0 : y3.cell? ⟨X, 0, none⟩ = some (.slice (some ⟨gr, 0, none⟩) l.length cap) := (R3.out.cell (p := ⟨X, 0, none⟩) hXY).trans (HYX.out.cell 0)
      have x1 : y3.cell? ⟨X, 1, none⟩ = some (.int .i64 (pk - 1)) := (R3.out.cell (p := ⟨X, 1, none⟩) hXY).trans (HYX.out.cell 1)
      go_wp2_with fail
      refine (agrees_any _ l (pk - 1) _ y3 ((ht.below HBS.out).below T3.out) (HYS.out.below R3.out) (by omega) HNM.out).mono ?_
      rintro _ y4 ⟨rfl, hq4⟩
      go_wp2
      go_ret
      exact ⟨rfl, bst HBS.out (bst T3.out hq4)⟩
    · have r0 := pick_lo vv 2 (by omega)
      have r1 := pick_hi vv 2 (by omega)
      obtain ⟨q, hq⟩ : ∃ q : Nat, pick vv 2 = (q : Int) := ⟨(pick vv 2).toNat, by omega⟩
      have HQ := Lib.hid hq
      rw [hq] at r0 r1
      clear hq r0
      have hX0 : X ≠ gr := fun e => own_blk_ne hown3 hX3 (by decide) (by rw [e]; rfl)
      have hsm0 : ∀ c ∈ l, c.nm.size ≤ 9223372036854775807 := fun c hc => by have := HN.out c hc; omega
      go_wp2_with fail
      go_loopw [81] (fun x wr => ∃ (v2 : Value) (l2 : List Col), l2.length ≤ 13 ∧ 1 ≤ l2.length ∧ (∀ c ∈ l2, c.nm.size ≤ 9223372036854775807) ∧ Blk wr X 24 #[v2, .int .i64 key] ∧ wr.ownsRow WS.heap.size 31 4 v2 l2.length (cols l2) ∧ Below WS.heap.size WS wr) (fun _ wr => 13 - (match wr.cell? ⟨X, 0, none⟩ with | some (.slice _ n _) => n | _ => 0))
      case atStart => exact ⟨_, l, by omega, by omega, hsm0, hX3, hown3, HB3.out⟩
      case round =>
        obtain ⟨v2, l2, hl13, hl1, hsm, hbX, hown, hbel⟩ := hrel
        obtain ⟨A4, cp4, rfl, _, _⟩ := (Sl.of_own hown).form
        have m0 := cell_regrown (show wr.cell? ⟨X, 0, none⟩ = some (.slice A4 l2.length cp4) from hbX.cell 0)
        have PK2 := Lib.hid (reg_pick (w := wr) (v := vv) (n := 2) HQ.out (by omega) (by omega))
        have hqw : IntKind.i64.wrap (12 + (q : Int)) = 12 + (q : Int) := IntWalk.i64_in _ (by omega)
        by_cases hlt : (l2.length : Int) < 12 + (q : Int)
        case pos =>
          have HOW := Lib.hid hown
          have HBX := Lib.hid hbX
          have HBL := Lib.hid hbel
          go_wp2_with fail
          refine wp_region_quiet_below (by kernel_rfl) (by kernel_rfl) ?_
          repeat (go_big_quiet_step ((first | (with_reducible exact PK2.out _ _))))
          refine wpQuiet_nil ?_
          intro _ hw'
          obtain ⟨⟨dq2, osq2⟩, hw''⟩ := hw'
          subst hw''
          have hbR2 := below_regrown wr dq2 osq2
          obtain ⟨W5, hW5⟩ : ∃ W, W = grow (redrawn wr dq2) osq2 := ⟨_, rfl⟩
          rw [← hW5] at hbR2 ⊢
          have hX5 := HBX.out.below hbR2 HBX.out.lt
          have hown5 := own_below HOW.out hbR2
          have HB5 := Lib.hid (bst HBL.out hbR2)
          clear hW5 hbR2 m0 PK2 hown hbX hbel
          go_upto_region 15 with (fail)
          obtain ⟨D, hD⟩ : ∃ D : ByteArray, D.data.toList = Lib.itoa (l2.length : Int) := ⟨⟨(Lib.itoa (l2.length : Int)).toArray⟩, by simp⟩
          have CN := Lib.hid (fun Y => retS_of hD (number6_any (l2.length : Int) Y (by omega) (by omega)))
          have hDs : D.size ≤ 20 := by rw [← sizeD, hD]; exact itoa_small (by omega) (by omega)
          have hz1 : ¬9223372036854775807 < 1 + D.size := by omega
          obtain ⟨Z, hZ⟩ : ∃ Z : ByteArray, ({ data := #[122] } : ByteArray) ++ D = Z := ⟨_, rfl⟩
          have hZs : Z.size ≤ 21 := by rw [← hZ, ByteArray.size_append]; show 1 + D.size ≤ 21; omega
          have HZ := Lib.hid hZ
          clear hD hZ
          refine wp_region_inv (by kernel_rfl) (by kernel_rfl) (fun L a w' => ∃ u71 u72 u73 u74 u75 u76 u77 u78 u79 u80 u81 : Value,
              a = ⟨#[.slice A zs.length c, .int .i64 how, .int .i64 at', .int .i64 vv, undef, undef, undef, undef, .bool false, .pointer (some ⟨S, 0, none⟩), .pointer (some ⟨X, 0, none⟩), .pointer (some ⟨gr, i * 4, none⟩), .slice A zs.length c, .agg #[.slice A2 l.length cp2, .int .i64 key], .pointer (some ⟨S, 0, none⟩), .slice A2 l.length cp2, .slice (some ⟨gr, 0, none⟩) l.length cap, .pointer (some ⟨S, 1, none⟩), .int .i64 key, .agg #[.slice (some ⟨gr, 0, none⟩) l.length cap, .int .i64 key], .pointer (some ⟨X, 0, none⟩), .slice (some ⟨gr, 0, none⟩) l.length cap, .int .i64 at', .pointer (some ⟨X, 0, none⟩), .slice (some ⟨gr, 0, none⟩) l.length cap, .int .i64 ↑l.length, .int .i64 ↑i, .pointer (some ⟨gr, i * 4, none⟩), .int .i64 how, .int .i64 4, .bool false, .bool false, undef, undef, undef, undef, undef, undef, undef, undef, .bool false, .bool false, undef, undef, undef, undef, undef, undef, .bool false, .bool false, undef, undef, undef, undef, undef, undef, .bool false, .bool false, undef, undef, undef, undef, .bool true, .bool true, .pointer (some ⟨X, 0, none⟩), .slice A4 l2.length cp4, .int .i64 ↑l2.length, .int .i64 vv, .int .i64 ↑q, .int .i64 (12 + ↑q), .bool true, u71, u72, u73, u74, u75, u76, u77, u78, u79, u80, u81, undef, undef, undef, undef, undef, undef, undef, undef, undef, undef, undef, undef, undef, undef], []⟩ ∧ Below WS.heap.size WS w' ∧
              (L 9 = false → w'.ownsRow WS.heap.size 31 4 (.slice A4 l2.length cp4) l2.length (cols l2)) ∧ (L 9 = true → w'.ownsRow WS.heap.size 31 4 u80 (l2.length + 1) (cols l2 ++ (#[.string Z, .int .i64 1, .int .i64 0, .bool false] : Array Value).toList)) ∧
              (L 11 = false → Blk w' X 24 #[.slice A4 l2.length cp4, .int .i64 key]) ∧ (L 11 = true → Blk w' X 24 #[u80, .int .i64 key]) ∧ (L 11 = true → L 9 = true) ∧ (L 9 = true → L 8 = true) ∧ (L 9 = true → L 1 = true ∧ L 3 = true) ∧ (L 5 = true → L 3 = true) ∧ (L 4 = true → L 3 = true) ∧
              Got (L 0) u71 (.pointer (some ⟨X, 0, none⟩)) ∧ Got (L 1) u72 (.slice A4 l2.length cp4) ∧ Got (L 2) u73 (.pointer (some ⟨X, 0, none⟩)) ∧ Got (L 3) u74 (.slice A4 l2.length cp4) ∧ Got (L 4) u75 (.int .i64 l2.length) ∧ Got (L 5) u76 (.string D) ∧ Got (L 6) u77 (.string Z) ∧ Got (L 7) u78 (.agg #[.string Z, .int .i64 1, .int .i64 0, .bool false]) ∧ GotRow (L 8 && !L 9) WS.heap.size u79 1 31 #[.string Z, .int .i64 1, .int .i64 0, .bool false] w' ∧ Got (L 10) u81 (.pointer (some ⟨X, 0, none⟩)))
            ?_ ?_ ?_
          · exact ⟨u71, u72, u73, u74, u75, u76, u77, u78, u79, u80, u81, rfl, HB5.out.drew, fun _ => hown5.drew, nofun, fun _ => hX5, nofun, nofun, nofun, nofun, nofun, nofun, nofun, nofun, nofun, nofun, nofun, nofun, nofun, nofun, nofun, nofun⟩
          · refine ⟨?_, ?_, ?_, ?_, ?_, ?_, ?_, ?_, ?_, ?_, ?_, ?_, trivial⟩
            · rintro L a w' ⟨u71, u72, u73, u74, u75, u76, u77, u78, u79, u80, u81, rfl, hb, p9, q9, pX, qX, d1, d2, d3, d4, d5, g0, g1, g2, g3, g4, g5, g6, g7, g8, g10⟩ hl hd K hK
              dsimp only at hK ⊢
              go_simp
              exact hK _ _ ⟨_, _, _, _, _, _, _, _, _, _, _, rfl, hb, p9, q9, pX, qX, d1, d2, d3, d4, d5, fun _ => rfl, g1, g2, g3, g4, g5, g6, g7, g8, g10⟩
            · rintro L a w' ⟨u71, u72, u73, u74, u75, u76, u77, u78, u79, u80, u81, rfl, hb, p9, q9, pX, qX, d1, d2, d3, d4, d5, g0, g1, g2, g3, g4, g5, g6, g7, g8, g10⟩ hl hd K hK
              simp [Region.binds] at hd
              dsimp only at hK ⊢
              have e0 := g0 (by simp [hd])
              subst e0
              have c0 : w'.cell? ⟨X, 0, none⟩ = some (.slice A4 l2.length cp4) := (pX (by cases h : L 11 with | false => rfl | true => have h9 := d3 (d1 h); rw [hl] at h9; simp at h9)).cell 0
              go_simp
              exact hK _ _ ⟨_, _, _, _, _, _, _, _, _, _, _, rfl, hb, p9, q9, pX, qX, d1, d2, fun h => ⟨rfl, (d3 h).2⟩, d4, d5, g0, fun _ => rfl, g2, g3, g4, g5, g6, g7, g8, g10⟩
            · rintro L a w' ⟨u71, u72, u73, u74, u75, u76, u77, u78, u79, u80, u81, rfl, hb, p9, q9, pX, qX, d1, d2, d3, d4, d5, g0, g1, g2, g3, g4, g5, g6, g7, g8, g10⟩ hl hd K hK
              dsimp only at hK ⊢
              go_simp
              exact hK _ _ ⟨_, _, _, _, _, _, _, _, _, _, _, rfl, hb, p9, q9, pX, qX, d1, d2, d3, d4, d5, g0, g1, fun _ => rfl, g3, g4, g5, g6, g7, g8, g10⟩
            · rintro L a w' ⟨u71, u72, u73, u74, u75, u76, u77, u78, u79, u80, u81, rfl, hb, p9, q9, pX, qX, d1, d2, d3, d4, d5, g0, g1, g2, g3, g4, g5, g6, g7, g8, g10⟩ hl hd K hK
              simp [Region.binds] at hd
              dsimp only at hK ⊢
              have e2 := g2 (by simp [hd])
              subst e2
              have c0 : w'.cell? ⟨X, 0, none⟩ = some (.slice A4 l2.length cp4) := (pX (by cases h : L 11 with | false => rfl | true => have h9 := d3 (d1 h); rw [hl] at h9; simp at h9)).cell 0
              go_simp
              exact hK _ _ ⟨_, _, _, _, _, _, _, _, _, _, _, rfl, hb, p9, q9, pX, qX, d1, d2, fun h => ⟨(d3 h).1, rfl⟩, fun _ => rfl, fun _ => rfl, g0, g1, g2, fun _ => rfl, g4, g5, g6, g7, g8, g10⟩
            · rintro L a w' ⟨u71, u72, u73, u74, u75, u76, u77, u78, u79, u80, u81, rfl, hb, p9, q9, pX, qX, d1, d2, d3, d4, d5, g0, g1, g2, g3, g4, g5, g6, g7, g8, g10⟩ hl hd K hK
              simp [Region.binds] at hd
              dsimp only at hK ⊢
              have e3 := g3 (by simp [hd])
              subst e3
              go_simp
              exact hK _ _ ⟨_, _, _, _, _, _, _, _, _, _, _, rfl, hb, p9, q9, pX, qX, d1, d2, d3, d4, fun _ => by simp [upd, hd], g0, g1, g2, g3, fun _ => rfl, g5, g6, g7, g8, g10⟩
            · rintro L a w' ⟨u71, u72, u73, u74, u75, u76, u77, u78, u79, u80, u81, rfl, hb, p9, q9, pX, qX, d1, d2, d3, d4, d5, g0, g1, g2, g3, g4, g5, g6, g7, g8, g10⟩ hl hd K hK
              simp [Region.binds] at hd
              dsimp only at hK ⊢
              have e4 := g4 (by simp [hd])
              subst e4
              go_wp2_with (go_at_call 19; (with_reducible refine (CN.out _).mono ?_); rintro _ _ ⟨rfl, rfl⟩)
              exact ⟨_, _, _, _, _, _, _, _, _, _, _, rfl, hb, p9, q9, pX, qX, d1, d2, d3, fun _ => d5 (by simp [hd]), d5, g0, g1, g2, g3, g4, fun _ => rfl, g6, g7, g8, g10⟩
            · rintro L a w' ⟨u71, u72, u73, u74, u75, u76, u77, u78, u79, u80, u81, rfl, hb, p9, q9, pX, qX, d1, d2, d3, d4, d5, g0, g1, g2, g3, g4, g5, g6, g7, g8, g10⟩ hl hd K hK
              simp [Region.binds] at hd
              dsimp only at hK ⊢
              have e5 := g5 (by simp [hd])
              subst e5
              go_simp
              exact hK _ _ ⟨_, _, _, _, _, _, _, _, _, _, _, rfl, hb, p9, q9, pX, qX, d1, d2, d3, d4, d5, g0, g1, g2, g3, g4, g5, fun _ => by rw [HZ.out], g7, g8, g10⟩
            · rintro L a w' ⟨u71, u72, u73, u74, u75, u76, u77, u78, u79, u80, u81, rfl, hb, p9, q9, pX, qX, d1, d2, d3, d4, d5, g0, g1, g2, g3, g4, g5, g6, g7, g8, g10⟩ hl hd K hK
              simp [Region.binds] at hd
              dsimp only at hK ⊢
              have e6 := g6 (by simp [hd])
              subst e6
              go_simp
              exact hK _ _ ⟨_, _, _, _, _, _, _, _, _, _, _, rfl, hb, p9, q9, pX, qX, d1, d2, d3, d4, d5, g0, g1, g2, g3, g4, g5, g6, fun _ => rfl, g8, g10⟩
            · rintro L a w' ⟨u71, u72, u73, u74, u75, u76, u77, u78, u79, u80, u81, rfl, hb, p9, q9, pX, qX, d1, d2, d3, d4, d5, g0, g1, g2, g3, g4, g5, g6, g7, g8, g10⟩ hl hd K hK
              simp [Region.binds] at hd
              dsimp only at hK ⊢
              have e7 := g7 (by simp [hd])
              subst e7
              go_simp
              exact hK _ _ ⟨_, _, _, _, _, _, _, _, _, _, _, rfl, hb.alloc hb.size _, fun h => (p9 h).alloc _, fun h => (q9 h).alloc _, fun h => (pX h).alloc _, fun h => (qX h).alloc _, d1, fun _ => rfl, d3, d4, d5, g0, g1, g2, g3, g4, g5, g6, g7, fun _ => ⟨_, rfl, hb.size, Blk.new _ _ _⟩, g10⟩
            · rintro L a w' ⟨u71, u72, u73, u74, u75, u76, u77, u78, u79, u80, u81, rfl, hb, p9, q9, pX, qX, d1, d2, d3, d4, d5, g0, g1, g2, g3, g4, g5, g6, g7, g8, g10⟩ hl hd K hK
              simp [Region.binds] at hd
              dsimp only at hK ⊢
              have e1 := g1 (by simp [hd])
              subst e1
              obtain ⟨A8, e8, hA8, bA⟩ := g8 (by simp [hd, hl])
              subst e8
              have hn1 : l2.length ≤ 12 := by omega
              have h11 : L 11 = false := (by cases h : L 11 with | false => rfl | true => rw [d1 h] at hl; cases hl)
              have bX0 := pX h11
              refine wp_app (P := Tryd.prog) (m := 1) (.tmp 72) (.tmp 79) (p9 hl) (sl_oneC bA) hb.size under_col info_col rfl (by decide) (oneCol _ _ _ _) (by omega) (by omega) rfl rfl rfl ?_
              intro v' w3 hown' hgr' _
              exact hK _ _ ⟨_, _, _, _, _, _, _, _, _, v', _, rfl, hb.grown hgr' hb.size (fun k hk => ((p9 hl).lt k hk).1), (fun h => by simp [upd] at h), fun _ => hown', (fun _ => bX0.grown hgr' (own_blk_ne (p9 hl) bX0 (by decide))), (fun h => by have h' : L 11 = true := h; rw [h11] at h'; cases h'), (fun h => by have h' : L 11 = true := h; rw [h11] at h'; cases h'), (fun _ => by simp [upd, hd]), (fun _ => ⟨by simp [upd, hd], d4 (by simp [hd])⟩), d4, d5, g0, fun _ => rfl, g2, g3, g4, g5, g6, g7, (fun h => by simp [upd] at h), g10⟩
            · rintro L a w' ⟨u71, u72, u73, u74, u75, u76, u77, u78, u79, u80, u81, rfl, hb, p9, q9, pX, qX, d1, d2, d3, d4, d5, g0, g1, g2, g3, g4, g5, g6, g7, g8, g10⟩ hl hd K hK
              simp [Region.binds] at hd
              dsimp only at hK ⊢
              go_simp
              exact hK _ _ ⟨_, _, _, _, _, _, _, _, _, _, _, rfl, hb, p9, q9, pX, qX, d1, d2, d3, d4, d5, g0, g1, g2, g3, g4, g5, g6, g7, g8, fun _ => rfl⟩
            · rintro L a w' ⟨u71, u72, u73, u74, u75, u76, u77, u78, u79, u80, u81, rfl, hb, p9, q9, pX, qX, d1, d2, d3, d4, d5, g0, g1, g2, g3, g4, g5, g6, g7, g8, g10⟩ hl hd K hK
              simp [Region.binds] at hd
              dsimp only at hK ⊢
              have e10 := g10 (by simp [hd])
              subst e10
              have h9 : L 9 = true := by simp [hd]
              have hown' := q9 h9
              have bX0 := pX hl
              obtain ⟨A5, cp5, rfl, _, _⟩ := (Sl.of_own hown').form
              have c0 : w'.cell? ⟨X, 0, none⟩ = some (.slice A4 l2.length cp4) := bX0.cell 0
              have f0 := bX0.frozen 0
              have kg := grownBy_set w' ⟨X, 0, none⟩ (.slice A5 (l2.length + 1) cp5)
              have hw2 := own_row (A := X) hown' kg (fun b hb' e => own_blk_ne hown' bX0 (by decide) (by rw [hb', e]))
              have hb2 := hb.grown kg hb.size (fun k hk => by have hk' := Option.some.inj hk; rw [← hk']; exact hX)
              have bX2 : Blk (w'.setCell ⟨X, 0, none⟩ (.slice A5 (l2.length + 1) cp5)) X 24 #[.slice A5 (l2.length + 1) cp5, .int .i64 key] := bX0.set_ 0 _
              go_simp
              exact hK _ _ ⟨_, _, _, _, _, _, _, _, _, _, _, rfl, hb2, (fun h => by have h' : L 9 = false := h; rw [h9] at h'; cases h'), fun _ => hw2, (fun h => by simp [upd] at h), fun _ => bX2, fun _ => h9, d2, d3, d4, d5, g0, g1, g2, g3, g4, g5, g6, g7, (fun h => by simp [upd, h9] at h), fun _ => rfl⟩
          · rintro a w6 ⟨u71, u72, u73, u74, u75, u76, u77, u78, u79, u80, u81, rfl, hb, -, q9, -, qX, -, -, -, -, -, g0, g1, g2, g3, g4, g5, g6, g7, -, g10⟩
            have hown6 := q9 rfl
            have hX6 := qX rfl
            clear q9 qX
            obtain ⟨A6, cp6, rfl, _, _⟩ := (Sl.of_own hown6).form
            go_wp2_with fail
            go_roundw
            case rel => exact ⟨_, l2 ++ [⟨Z, 1, 0, false⟩], by rw [List.length_append]; show l2.length + 1 ≤ 13; omega, by rw [List.length_append]; show 1 ≤ l2.length + 1; omega, (fun c hc => (List.mem_append.1 hc).elim (hsm c) (fun h => by simp at h; subst h; show Z.size ≤ _; omega)), hX6, own_colsS hown6, hb⟩
            case measure =>
              have m6 : w6.cell? ⟨X, 0, none⟩ = some (.slice A6 (l2.length + 1) cp6) := hX6.cell 0
              have m5 : wr.cell? ⟨X, 0, none⟩ = some (.slice A4 l2.length cp4) := HBX.out.cell 0
              simp [m6, m5]
              omega
        case neg =>
          have HSn := Lib.hid hown
          go_wp2_with fail
          refine wp_region_quiet_below (by kernel_rfl) (by kernel_rfl) ?_
          repeat (go_big_quiet_step ((first | (with_reducible exact PK2.out _ _))))
          refine wpQuiet_nil ?_
          intro _ hw'
          obtain ⟨⟨dq2, osq2⟩, hw''⟩ := hw'
          subst hw''
          have hbR2 := below_regrown wr dq2 osq2
          obtain ⟨W5, hW5⟩ : ∃ W, W = grow (redrawn wr dq2) osq2 := ⟨_, rfl⟩
          rw [← hW5] at hbR2 ⊢
          have hX5 := hbX.below hbR2 hbX.lt
          have hown5 := own_below HSn.out hbR2
          have HB5 := Lib.hid (bst hbel hbR2)
          clear hW5 hbR2 hbX m0 PK2 hown HSn
          go_upto_region 16 with (fail)
          have HYB := Lib.hid HB5.out
          have HYS := Lib.hid (Sl.of_own hown5)
          have HYX := Lib.hid hX5
          have hXY := hX5.lt
          have HNM := Lib.hid (show ∀ c ∈ l2, c.nm.size ≤ 9223372036854775807 from hsm)
          clear hX5 hown5
          go_wp2_with fail
          refine (awake7_any _).mono ?_
          rintro _ y1 ⟨rfl, hq1⟩
          have T1 := Lib.hid (bst HYB.out hq1)
          have R1 := Lib.hid hq1
          have s0 : y1.cell? ⟨S, 0, none⟩ = some (.slice A2 l.length cp2) := (T1.out.cell (p := ⟨S, 0, none⟩) hSl).trans (bS.cell 0)
          have s1 : y1.cell? ⟨S, 1, none⟩ = some (.int .i64 key) := (T1.out.cell (p := ⟨S, 1, none⟩) hSl).trans (bS.cell 1)
          clear hq1
          go_wp2_with fail
          refine (retN_to HV.out (schk_any _ l key y1 (hslS.below T1.out) (by omega) (fun c hc => by have := HN.out c hc; omega))).mono ?_
          rintro _ y2 ⟨rfl, hq2⟩
          have T2 := Lib.hid (bst T1.out hq2)
          have R2 := Lib.hid (bst R1.out hq2)
          clear hq2 s0 s1
          have s0 : y2.cell? ⟨S, 0, none⟩ = some (.slice A2 l.length cp2) := (T2.out.cell (p := ⟨S, 0, none⟩) hSl).trans (bS.cell 0)
          have s1 : y2.cell? ⟨S, 1, none⟩ = some (.int .i64 key) := (T2.out.cell (p := ⟨S, 1, none⟩) hSl).trans (bS.cell 1)
          go_wp2_with fail
          refine (agrees_any _ l key _ y2 ((ht.below HBS.out).below T2.out) (hslS.below T2.out) (by omega) (fun c hc => by have := HN.out c hc; omega)).mono ?_
          rintro _ y3 ⟨rfl, hq3⟩
          have T3 := Lib.hid (bst T2.out hq3)
          have R3 := Lib.hid (bst R2.out hq3)
          clear hq3 s0 s1
          have x0 : y3.cell? ⟨X, 0, none⟩ = some (.slice A4 l2.length cp4) := (R3.out.cell (p := ⟨X, 0, none⟩) hXY).trans (HYX.out.cell 0)
          have x1 : y3.cell? ⟨X, 1, none⟩ = some (.int .i64 key) := (R3.out.cell (p := ⟨X, 1, none⟩) hXY).trans (HYX.out.cell 1)
          go_wp2_with fail
          refine (agrees_any _ l2 key _ y3 ((ht.below HBS.out).below T3.out) (HYS.out.below R3.out) (by omega) HNM.out).mono ?_
          rintro _ y4 ⟨rfl, hq4⟩
          go_wp2
          go_ret
          exact ⟨rfl, bst HBS.out (bst T3.out hq4)⟩
    · skip
      have HYB := Lib.hid HB3.out
      have HYS := Lib.hid (Sl.of_own hown3)
      have HYX := Lib.hid hX3
      have hXY := hX3.lt
      have HNM := Lib.hid (show ∀ c ∈ l, c.nm.size ≤ 9223372036854775807 from (fun c hc => by have := HN.out c hc; omega))
      clear hX3 hown3
      go_wp2_with fail
      refine (awake7_any _).mono ?_
      rintro _ y1 ⟨rfl, hq1⟩
      have T1 := Lib.hid (bst HYB.out hq1)
      have R1 := Lib.hid hq1
      have s0 : y1.cell? ⟨S, 0, none⟩ = some (.slice A2 l.length cp2) := (T1.out.cell (p := ⟨S, 0, none⟩) hSl).trans (bS.cell 0)
      have s1 : y1.cell? ⟨S, 1, none⟩ = some (.int .i64 key) := (T1.out.cell (p := ⟨S, 1, none⟩) hSl).trans (bS.cell 1)
      clear hq1
      go_wp2_with fail
      refine (retN_to HV.out (schk_any _ l key y1 (hslS.below T1.out) (by omega) (fun c hc => by have := HN.out c hc; omega))).mono ?_
      rintro _ y2 ⟨rfl, hq2⟩
      have T2 := Lib.hid (bst T1.out hq2)
      have R2 := Lib.hid (bst R1.out hq2)
      clear hq2 s0 s1
      have s0 : y2.cell? ⟨S, 0, none⟩ = some (.slice A2 l.length cp2) := (T2.out.cell (p := ⟨S, 0, none⟩) hSl).trans (bS.cell 0)
      have s1 : y2.cell? ⟨S, 1, none⟩ = some (.int .i64 key) := (T2.out.cell (p := ⟨S, 1, none⟩) hSl).trans (bS.cell 1)
      go_wp2_with fail
      refine (agrees_any _ l key _ y2 ((ht.below HBS.out).below T2.out) (hslS.below T2.out) (by omega) (fun c hc => by have := HN.out c hc; omega)).mono ?_
      rintro _ y3 ⟨rfl, hq3⟩
      have T3 := Lib.hid (bst T2.out hq3)
      have R3 := Lib.hid (bst R2.out hq3)
      clear hq3 s0 s1
      have x0 : y3.cell? ⟨X, 0, none⟩ = some (.slice (some ⟨gr, 0, none⟩) l.length cap) := (R3.out.cell (p := ⟨X, 0, none⟩) hXY).trans (HYX.out.cell 0)
      have x1 : y3.cell? ⟨X, 1, none⟩ = some (.int .i64 key) := (R3.out.cell (p := ⟨X, 1, none⟩) hXY).trans (HYX.out.cell 1)
      go_wp2_with fail
      refine (agrees_any _ l key _ y3 ((ht.below HBS.out).below T3.out) (HYS.out.below R3.out) (by omega) HNM.out).mono ?_
      rintro _ y4 ⟨rfl, hq4⟩
      go_wp2
      go_ret
      exact ⟨rfl, bst HBS.out (bst T3.out hq4)⟩
end Go.Proofs.YtlchfaakmgclcaaDoor
