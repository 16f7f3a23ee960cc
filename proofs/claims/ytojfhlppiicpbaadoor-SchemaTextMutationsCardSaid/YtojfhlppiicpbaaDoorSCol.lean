/-
  The contract of schema.column.
-/
import Derived.Test.YtojfhlppiicpbaaDoorScale
import Derived.Test.YtojfhlppiicpbaaDoorSFmt
import Derived.Test.YtojfhlppiicpbaaDoorSplit
import Derived.Test.YtojfhlppiicpbaaDoorKSchema
namespace Go.Proofs.YtojfhlppiicpbaaDoor
open Go.RowKit Go.Sort
set_option linter.unusedVariables false
/-- A column and whether it is one. -/
def RetCl (w : World) (r : Option Col) (e : Ending) (w' : World) : Prop := ∃ (c : Col) (b : Bool), e = .returned (.tuple #[.agg #[.string c.nm, .int .i64 c.ty, .int .i64 c.sc, .bool c.nu], .bool b]) ∧ (b = true → r = some c) ∧ (b = false → r = none) ∧ Below w.heap.size w w'
theorem RetCl.no {w w' : World} {r : Option Col} {nm : ByteArray} {ty sc : Int} {nu : Bool} (h : r = none) (hb : Below w.heap.size w w') : RetCl w r (.returned (.tuple #[.agg #[.string nm, .int .i64 ty, .int .i64 sc, .bool nu], .bool false])) w' := ⟨⟨nm, ty, sc, nu⟩, false, rfl, nofun, fun _ => h, hb⟩
theorem RetCl.yes {w w' : World} {r : Option Col} {nm : ByteArray} {ty sc : Int} {nu : Bool} (h : r = some ⟨nm, ty, sc, nu⟩) (hb : Below w.heap.size w w') : RetCl w r (.returned (.tuple #[.agg #[.string nm, .int .i64 ty, .int .i64 sc, .bool nu], .bool true])) w' := ⟨⟨nm, ty, sc, nu⟩, true, rfl, fun _ => h, nofun, hb⟩
def tyB : List ByteArray := [{ data := #[105, 110, 116] }, { data := #[98, 111, 111, 108] }, { data := #[98, 121, 116, 101, 115] }, { data := #[100, 97, 116, 101] }, { data := #[100, 101, 99, 105, 109, 97, 108] }]
theorem byt_iff (l : List UInt8) (s : ByteArray) : (mkS l = s) ↔ (s.data.toList = l) := ⟨fun h => by rw [← h, mkS_data], fun h => by rw [← h, mkS_of]⟩
theorem idx_ty (s : ByteArray) : Lib.idxOfS tyB s + 1 = tyN s.data.toList := by
  have e : tyB = [mkS (tyW 1), mkS (tyW 2), mkS (tyW 3), mkS (tyW 4), mkS (tyW 5)] := rfl
  rw [e]
  unfold Lib.idxOfS tyN
  simp only [Lib.idxFromS, byt_iff]
  by_cases h1 : s.data.toList = tyW 1
  · rw [if_pos h1, if_pos h1]; rfl
  · rw [if_neg h1, if_neg h1]
    by_cases h2 : s.data.toList = tyW 2
    · rw [if_pos h2, if_pos h2]; rfl
    · rw [if_neg h2, if_neg h2]
      by_cases h3 : s.data.toList = tyW 3
      · rw [if_pos h3, if_pos h3]; rfl
      · rw [if_neg h3, if_neg h3]
        by_cases h4 : s.data.toList = tyW 4
        · rw [if_pos h4, if_pos h4]; rfl
        · rw [if_neg h4, if_neg h4]
          by_cases h5 : s.data.toList = tyW 5
          · rw [if_pos h5, if_pos h5]; rfl
          · rw [if_neg h5, if_neg h5]; rfl
theorem index_ty (g : Nat) (s : ByteArray) (w : World) (h : Blk w g 9 #[.string { data := #[105, 110, 116] }, .string { data := #[98, 111, 111, 108] }, .string { data := #[98, 121, 116, 101, 115] }, .string { data := #[100, 97, 116, 101] }, .string { data := #[100, 101, 99, 105, 109, 97, 108] }]) :
    Calls Tryd.prog 42 #[.slice (some ⟨g, 0, none⟩) 5 5, .string s] w fun e w' => e = .returned (.int .i64 (tyN s.data.toList - 1)) ∧ w = w' := by
  have := Tryd.slices_Index_string g 0 5 5 tyB s w (by decide) (by decide) (fun j hj => by
    rw [Nat.zero_add, h.cell j]
    have : ∀ j : Fin 5, (#[.string { data := #[105, 110, 116] }, .string { data := #[98, 111, 111, 108] }, .string { data := #[98, 121, 116, 101, 115] }, .string { data := #[100, 97, 116, 101] }, .string { data := #[100, 101, 99, 105, 109, 97, 108] }] : Array Value)[j.val]? = some (.string (tyB.getD j.val ByteArray.empty)) := by
      intro j
      match j with
      | 0 => rfl
      | 1 => rfl
      | 2 => rfl
      | 3 => rfl
      | 4 => rfl
    exact this ⟨j, hj⟩)
  refine this.mono fun _ _ ⟨a, b⟩ => ⟨?_, b.symm⟩
  rw [a, show tyB.take 5 = tyB from rfl, ← idx_ty, show Lib.idxOfS tyB s + 1 - 1 = Lib.idxOfS tyB s by omega]
theorem blk_ne {w : World} {a b : Nat} {s t : TypeId} {cs ds : Array Value} (h : Blk w a s cs) (k : Blk w b t ds) (hst : s ≠ t) : a ≠ b := by
  rintro rfl
  have := h.symm.trans k
  injection this with this
  injection this with _ h2
  exact hst h2
theorem below4C {w w' : World} {A B : Nat} (a b c d : Value) (h : Below B w w') (hB : B ≤ A) : Below B w ((((w'.setCell ⟨A, 0, none⟩ a).setCell ⟨A, 1, none⟩ b).setCell ⟨A, 2, none⟩ c).setCell ⟨A, 3, none⟩ d) := (((h.setCell (p := ⟨A, 0, none⟩) hB a).setCell (p := ⟨A, 1, none⟩) hB b).setCell (p := ⟨A, 2, none⟩) hB c).setCell (p := ⟨A, 3, none⟩) hB d
theorem blkS3 {w : World} {A : Nat} {T : TypeId} {x y z u : Value} (d : Value) (h : Blk w A T #[x, y, z, u]) : Blk (w.setCell ⟨A, 3, none⟩ d) A T #[x, y, z, d] := h.set_ 3 d
theorem blkS2 {w : World} {A : Nat} {T : TypeId} {x y z u : Value} (d : Value) (h : Blk w A T #[x, y, z, u]) : Blk (w.setCell ⟨A, 2, none⟩ d) A T #[x, y, d, u] := h.set_ 2 d
theorem farC {w : World} {A g : Nat} {T : TypeId} {cs : Array Value} (i : Nat) (v : Value) (hg : g ≠ A) (h : Blk w g T cs) : Blk (w.setCell ⟨A, i, none⟩ v) g T cs := h.far (by exact hg) v
theorem col_zero {a b : List UInt8} {r : List (List UInt8)} (h : tyN b = 0) : colV (a :: b :: r) = none := by simp only [colV, if_pos h]
theorem col_mid {a b : List UInt8} {r : List (List UInt8)} {u : Bool} (h0 : tyN b ≠ 0) (h5 : tyN b ≠ 5) (hu : nuV r = some u) : colV (a :: b :: r) = some ⟨mkS a, tyN b, 0, u⟩ := by simp only [colV, if_neg h0, if_neg h5, hu]
theorem col_midno {a b : List UInt8} {r : List (List UInt8)} (h0 : tyN b ≠ 0) (h5 : tyN b ≠ 5) (hu : nuV r = none) : colV (a :: b :: r) = none := by simp only [colV, if_neg h0, if_neg h5, hu]
theorem col_dec0 {a b : List UInt8} (h5 : tyN b = 5) : colV [a, b] = none := by simp only [colV, if_neg (show tyN b ≠ 0 by omega), if_pos h5]
theorem col_decno {a b k : List UInt8} {q : List (List UInt8)} (h5 : tyN b = 5) (hk : scaV k = none) : colV (a :: b :: k :: q) = none := by simp only [colV, if_neg (show tyN b ≠ 0 by omega), if_pos h5, hk]
theorem col_dec {a b k : List UInt8} {q : List (List UInt8)} {n : Int} {u : Bool} (h5 : tyN b = 5) (hk : scaV k = some n) (hu : nuV q = some u) : colV (a :: b :: k :: q) = some ⟨mkS a, 5, n, u⟩ := by simp only [colV, if_neg (show tyN b ≠ 0 by omega), if_pos h5, hk, hu]
theorem col_decno2 {a b k : List UInt8} {q : List (List UInt8)} {n : Int} (h5 : tyN b = 5) (hk : scaV k = some n) (hu : nuV q = none) : colV (a :: b :: k :: q) = none := by simp only [colV, if_neg (show tyN b ≠ 0 by omega), if_pos h5, hk, hu]
set_option maxRecDepth 100000 in
set_option maxHeartbeats 8000000 in
theorem scol_any (g : Nat) (W : List (List UInt8)) (w : World) (hE : Env w) (hB : Blk w g 9 (strV (W.map mkS)).toArray) (hz : ∀ x ∈ W, x.length ≤ 281474976710656) (hl : W.length ≤ 140737488355328) :
    Calls Tryd.prog 27 #[.slice (some ⟨g, 0, none⟩) W.length W.length] w (RetCl w (colV W)) := by
  have hgw := hB.lt
  have hbR := below_new w (.cells #[.string { data := #[] }, .int .i64 0, .int .i64 0, .bool false] 41)
  have bR0 := Blk.new w 41 #[.string { data := #[] }, .int .i64 0, .int .i64 0, .bool false]
  obtain ⟨W0, hW0⟩ : ∃ X, X = w.alloc (.cells #[.string { data := #[] }, .int .i64 0, .int .i64 0, .bool false] 41) := ⟨_, rfl⟩
  have hsz0 : W0.heap.size = w.heap.size + 1 := by rw [hW0]; simp
  rw [← hW0] at hbR bR0
  have hB0 := hB.below hbR hgw
  obtain ⟨R, hR⟩ : ∃ R, R = w.heap.size := ⟨_, rfl⟩
  rw [← hR] at bR0
  have HRW := Lib.hid hR
  have HS0 := Lib.hid hsz0
  have HBR := Lib.hid hbR
  obtain ⟨n, hn⟩ : ∃ n, n = W.length := ⟨_, rfl⟩
  rw [← hn]
  have hn1 : (n : Int) ≤ 140737488355328 := by omega
  by_cases h2 : (n : Int) < 2
  · have HO := Lib.hid (show colV W = none by
      match W, hn with
      | [], _ => rfl
      | [a], _ => rfl
      | a :: b :: r, hn => rw [List.length_cons, List.length_cons] at hn; omega)
    have cR0 : W0.cell? ⟨R, 0, none⟩ = some (.string { data := #[] }) := bR0.cell 0
    have cR1 : W0.cell? ⟨R, 1, none⟩ = some (.int .i64 0) := bR0.cell 1
    have cR2 : W0.cell? ⟨R, 2, none⟩ = some (.int .i64 0) := bR0.cell 2
    have cR3 : W0.cell? ⟨R, 3, none⟩ = some (.bool false) := bR0.cell 3
    have f0 := bR0.frozen 0
    have f1 := bR0.frozen 1
    have f2 := bR0.frozen 2
    have f3 := bR0.frozen 3
    have BR := Lib.hid bR0
    clear hn hB hz hl hE hB0 bR0 hsz0 hbR
    go_enter Tryd.func27, Tryd.ntmps27
    go_upto_region 1 with (fail)
    rw [← hW0, ← hR]
    clear hW0 hR
    go_wp2
    have b4 := blk4C (.string { data := #[] }) (.int .i64 0) (.int .i64 0) (.bool false) BR.out
    have q0 : _ = some (Value.string { data := #[] }) := b4.cell 0
    have q1 : _ = some (Value.int .i64 0) := b4.cell 1
    have q2 : _ = some (Value.int .i64 0) := b4.cell 2
    have q3 : _ = some (Value.bool false) := b4.cell 3
    exact bodyPost_ret (v := .tuple #[.agg #[.string { data := #[] }, .int .i64 0, .int .i64 0, .bool false], .bool false]) (by simp [results, Tryd.results27, go_sem, q0, q1, q2, q3]) rfl (RetCl.no HO.out (below4C _ _ _ _ HBR.out (by rw [HRW.out]; exact Nat.le_refl _)))
  obtain ⟨a, b, r, rfl⟩ : ∃ a b r, W = a :: b :: r := by
    match W, hn with
    | [], hn => simp at hn; omega
    | [a], hn => simp at hn; omega
    | a :: b :: r, _ => exact ⟨a, b, r, rfl⟩
  have HZ := Lib.hid hz
  have HE := Lib.hid (hE.below hbR)
  have HG := Lib.hid hB0
  have HGW := Lib.hid (show g < W0.heap.size from hB0.lt)
  have BR := Lib.hid bR0
  have HN := Lib.hid hn
  obtain ⟨na, hna⟩ : ∃ na, na = mkS a := ⟨_, rfl⟩
  obtain ⟨nb, hnb⟩ : ∃ nb, nb = mkS b := ⟨_, rfl⟩
  have HX := Lib.hid (fun X g' (h : Blk X g' 9 #[.string { data := #[105, 110, 116] }, .string { data := #[98, 111, 111, 108] }, .string { data := #[98, 121, 116, 101, 115] }, .string { data := #[100, 97, 116, 101] }, .string { data := #[100, 101, 99, 105, 109, 97, 108] }]) => index_ty g' nb X h)
  obtain ⟨T, hT⟩ : ∃ T, T = tyN b := ⟨_, rfl⟩
  rw [show nb.data.toList = b by rw [hnb, mkS_data], ← hT] at HX
  have hT01 := tyN_range b
  rw [← hT] at hT01
  have HT := Lib.hid hT
  have HNA := Lib.hid hna
  have HC0 := Lib.hid (show (strV ((a :: b :: r).map mkS)).toArray[0]? = some (.string na) by rw [hna]; rfl)
  have HC1 := Lib.hid (show (strV ((a :: b :: r).map mkS)).toArray[1]? = some (.string nb) by rw [hnb]; rfl)
  clear hn hB hz hl hE hB0 bR0 hsz0 hbR hT hna hnb hgw
  go_enter Tryd.func27, Tryd.ntmps27
  go_upto_region 1 with (fail)
  rw [← hW0, ← hR]
  clear hW0 hR
  go_upto_region 3 with (fail)
  refine wp_region_inv (by kernel_rfl) (by kernel_rfl) (fun L x w' => ∃ u4 u11 u12 u13 u14 u15 u16 u17 u18 u19 u20 : Value,
      x = ⟨#[.slice (some ⟨g, 0, none⟩) n n, undef, .pointer (some ⟨R, 0, none⟩), .bool false, u4, undef, undef, .slice (some ⟨g, 0, none⟩) n n, .int .i64 ↑n, .bool false, undef, u11, u12, u13, u14, u15, u16, u17, u18, u19, u20, undef, undef, undef, undef, undef, undef, undef, undef, undef, undef, undef, undef, undef, undef, undef, undef, undef, undef, undef, undef, undef, undef, undef, undef, undef, undef, undef, undef, undef, undef, undef, undef, undef, undef, undef, undef, undef, undef, undef, undef, undef, undef, undef, undef, undef, undef], []⟩ ∧ Below W0.heap.size W0 w' ∧
      Got (L 0) u11 (.slice (some ⟨g, 0, none⟩) n n) ∧ Got (L 1) u12 (.pointer (some ⟨g, 0, none⟩)) ∧ Got (L 2) u13 (.string na) ∧ GotRow (L 3) W0.heap.size u14 5 9 #[.string { data := #[105, 110, 116] }, .string { data := #[98, 111, 111, 108] }, .string { data := #[98, 121, 116, 101, 115] }, .string { data := #[100, 97, 116, 101] }, .string { data := #[100, 101, 99, 105, 109, 97, 108] }] w' ∧
      Got (L 4) u15 (.slice (some ⟨g, 0, none⟩) n n) ∧ Got (L 5) u16 (.pointer (some ⟨g, 1, none⟩)) ∧ Got (L 6) u17 (.string nb) ∧ Got (L 7) u18 (.int .i64 (T - 1)) ∧ Got (L 8) u19 (.int .i64 T) ∧ Got (L 9) u20 (.agg #[.string na, .int .i64 T, .int .i64 0, .bool false]) ∧
      (L 11 = true → L 10 = true) ∧ (L 10 = true → ∃ G, u4 = .pointer (some ⟨G, 0, none⟩) ∧ W0.heap.size ≤ G ∧ Blk w' G 41 (if L 11 = true then #[.string na, .int .i64 T, .int .i64 0, .bool false] else #[.string { data := #[] }, .int .i64 0, .int .i64 0, .bool false])))
    ?_ ?_ ?_
  · exact ⟨undef, undef, undef, undef, undef, undef, undef, undef, undef, undef, undef, rfl, (Below.refl _ _).drew, nofun, nofun, nofun, nofun, nofun, nofun, nofun, nofun, nofun, nofun, nofun, nofun⟩
  · refine ⟨?_, ?_, ?_, ?_, ?_, ?_, ?_, ?_, ?_, ?_, ?_, ?_, trivial⟩
    · rintro L x w' ⟨u4, u11, u12, u13, u14, u15, u16, u17, u18, u19, u20, rfl, hb, g0, g1, g2, g3, g4, g5, g6, g7, g8, g9, k, kA⟩ hl hd K hK
      simp [Region.binds] at hd
      dsimp only at hK ⊢
      go_simp
      exact hK _ _ ⟨_, _, _, _, _, _, _, _, _, _, _, rfl, hb, fun _ => rfl, g1, g2, g3, g4, g5, g6, g7, g8, g9, k, kA⟩
    · rintro L x w' ⟨u4, u11, u12, u13, u14, u15, u16, u17, u18, u19, u20, rfl, hb, g0, g1, g2, g3, g4, g5, g6, g7, g8, g9, k, kA⟩ hl hd K hK
      simp [Region.binds] at hd
      dsimp only at hK ⊢
      have e0 := g0 (by simp [hd])
      subst e0
      have l1 : 0 < n := by omega
      go_simp
      exact hK _ _ ⟨_, _, _, _, _, _, _, _, _, _, _, rfl, hb, g0, fun _ => rfl, g2, g3, g4, g5, g6, g7, g8, g9, k, kA⟩
    · rintro L x w' ⟨u4, u11, u12, u13, u14, u15, u16, u17, u18, u19, u20, rfl, hb, g0, g1, g2, g3, g4, g5, g6, g7, g8, g9, k, kA⟩ hl hd K hK
      simp [Region.binds] at hd
      dsimp only at hK ⊢
      have e1 := g1 (by simp [hd])
      subst e1
      have c0 : w'.cell? ⟨g, 0, none⟩ = some (.string na) := (hb.cell (p := ⟨g, 0, none⟩) HGW.out).trans ((HG.out.cell 0).trans HC0.out)
      go_simp
      exact hK _ _ ⟨_, _, _, _, _, _, _, _, _, _, _, rfl, hb, g0, g1, fun _ => rfl, g3, g4, g5, g6, g7, g8, g9, k, kA⟩
    · rintro L x w' ⟨u4, u11, u12, u13, u14, u15, u16, u17, u18, u19, u20, rfl, hb, g0, g1, g2, g3, g4, g5, g6, g7, g8, g9, k, kA⟩ hl hd K hK
      simp [Region.binds] at hd
      dsimp only at hK ⊢
      have HK := Lib.hid hK
      clear hK
      go_wp2_with (go_at_call 29; (with_reducible refine (types_any _).mono ?_); rintro e w3 ⟨gt, rfl, hg, hB3, hbk⟩)
      refine HK.out _ _ ⟨_, _, _, _, _, _, _, _, _, _, _, rfl, hb.trans (hbk.mono hb.size), g0, g1, g2, fun _ => ⟨gt, rfl, Nat.le_trans hb.size hg, hB3⟩, g4, g5, g6, g7, g8, g9, k, fun h => ?_⟩
      obtain ⟨G, e1, e2, e3⟩ := kA h
      exact ⟨G, e1, e2, e3.below hbk e3.lt⟩
    · rintro L x w' ⟨u4, u11, u12, u13, u14, u15, u16, u17, u18, u19, u20, rfl, hb, g0, g1, g2, g3, g4, g5, g6, g7, g8, g9, k, kA⟩ hl hd K hK
      simp [Region.binds] at hd
      dsimp only at hK ⊢
      go_simp
      exact hK _ _ ⟨_, _, _, _, _, _, _, _, _, _, _, rfl, hb, g0, g1, g2, g3, fun _ => rfl, g5, g6, g7, g8, g9, k, kA⟩
    · rintro L x w' ⟨u4, u11, u12, u13, u14, u15, u16, u17, u18, u19, u20, rfl, hb, g0, g1, g2, g3, g4, g5, g6, g7, g8, g9, k, kA⟩ hl hd K hK
      simp [Region.binds] at hd
      dsimp only at hK ⊢
      have e4 := g4 (by simp [hd])
      subst e4
      have l1 : 1 < n := by omega
      have l2 : 2 ≤ n := by omega
      have l3 : (1 : Int) < n := by omega
      go_simp
      exact hK _ _ ⟨_, _, _, _, _, _, _, _, _, _, _, rfl, hb, g0, g1, g2, g3, g4, fun _ => rfl, g6, g7, g8, g9, k, kA⟩
    · rintro L x w' ⟨u4, u11, u12, u13, u14, u15, u16, u17, u18, u19, u20, rfl, hb, g0, g1, g2, g3, g4, g5, g6, g7, g8, g9, k, kA⟩ hl hd K hK
      simp [Region.binds] at hd
      dsimp only at hK ⊢
      have e5 := g5 (by simp [hd])
      subst e5
      have c0 : w'.cell? ⟨g, 1, none⟩ = some (.string nb) := (hb.cell (p := ⟨g, 1, none⟩) HGW.out).trans ((HG.out.cell 1).trans HC1.out)
      go_simp
      exact hK _ _ ⟨_, _, _, _, _, _, _, _, _, _, _, rfl, hb, g0, g1, g2, g3, g4, g5, fun _ => rfl, g7, g8, g9, k, kA⟩
    · rintro L x w' ⟨u4, u11, u12, u13, u14, u15, u16, u17, u18, u19, u20, rfl, hb, g0, g1, g2, g3, g4, g5, g6, g7, g8, g9, k, kA⟩ hl hd K hK
      simp [Region.binds] at hd
      dsimp only at hK ⊢
      have e6 := g6 (by simp [hd])
      subst e6
      obtain ⟨A3, e3, hN3, hB3⟩ := g3 (by simp [hd])
      subst e3
      have HK := Lib.hid hK
      clear hK
      go_wp2_with (go_at_call 42; (with_reducible refine (HX.out _ _ hB3).mono ?_); rintro e w3 ⟨rfl, rfl⟩)
      exact HK.out _ _ ⟨_, _, _, _, _, _, _, _, _, _, _, rfl, hb, g0, g1, g2, fun _ => ⟨_, rfl, hN3, hB3⟩, g4, g5, g6, fun _ => rfl, g8, g9, k, kA⟩
    · rintro L x w' ⟨u4, u11, u12, u13, u14, u15, u16, u17, u18, u19, u20, rfl, hb, g0, g1, g2, g3, g4, g5, g6, g7, g8, g9, k, kA⟩ hl hd K hK
      simp [Region.binds] at hd
      dsimp only at hK ⊢
      have e7 := g7 (by simp [hd])
      subst e7
      go_simp
      exact hK _ _ ⟨_, _, _, _, _, _, _, _, _, _, _, rfl, hb, g0, g1, g2, g3, g4, g5, g6, g7, fun _ => by first | rfl | (congr 1; rw [IntKind.wrap_i64]; omega), g9, k, kA⟩
    · rintro L x w' ⟨u4, u11, u12, u13, u14, u15, u16, u17, u18, u19, u20, rfl, hb, g0, g1, g2, g3, g4, g5, g6, g7, g8, g9, k, kA⟩ hl hd K hK
      simp [Region.binds] at hd
      dsimp only at hK ⊢
      have e2 := g2 (by simp [hd])
      subst e2
      have e8 := g8 (by simp [hd])
      subst e8
      go_simp
      exact hK _ _ ⟨_, _, _, _, _, _, _, _, _, _, _, rfl, hb, g0, g1, g2, g3, g4, g5, g6, g7, g8, fun _ => rfl, k, kA⟩
    · rintro L x w' ⟨u4, u11, u12, u13, u14, u15, u16, u17, u18, u19, u20, rfl, hb, g0, g1, g2, g3, g4, g5, g6, g7, g8, g9, k, kA⟩ hl hd K hK
      simp [Region.binds] at hd
      dsimp only at hK ⊢
      go_simp
      exact hK _ _ ⟨_, _, _, _, _, _, _, _, _, _, _, rfl, hb.alloc hb.size _, g0, g1, g2, g3.below (below_new _ _), g4, g5, g6, g7, g8, g9, fun _ => rfl, fun _ => ⟨_, rfl, hb.size, by rw [if_neg (show ¬upd L 10 11 = true from fun h => by have h' : L 10 = true := k h; rw [hl] at h'; cases h')]; exact Blk.new _ _ _⟩⟩
    · rintro L x w' ⟨u4, u11, u12, u13, u14, u15, u16, u17, u18, u19, u20, rfl, hb, g0, g1, g2, g3, g4, g5, g6, g7, g8, g9, k, kA⟩ hl hd K hK
      simp [Region.binds] at hd
      dsimp only at hK ⊢
      have e9 := g9 (by simp [hd])
      subst e9
      obtain ⟨G, e1, hG, bG⟩ := kA (by simp [hd])
      subst e1
      rw [hl] at bG
      simp only [Bool.false_eq_true, if_false] at bG
      have f0 := bG.frozen 0
      have f1 := bG.frozen 1
      have f2 := bG.frozen 2
      have f3 := bG.frozen 3
      have c0 : w'.cell? ⟨G, 0, none⟩ = some (.string { data := #[] }) := bG.cell 0
      have c1 : w'.cell? ⟨G, 1, none⟩ = some (.int .i64 0) := bG.cell 1
      have c2 : w'.cell? ⟨G, 2, none⟩ = some (.int .i64 0) := bG.cell 2
      have c3 : w'.cell? ⟨G, 3, none⟩ = some (.bool false) := bG.cell 3
      go_simp
      exact hK _ _ ⟨_, _, _, _, _, _, _, _, _, _, _, rfl, below4C _ _ _ _ hb hG, g0, g1, g2, fun hp => by
        obtain ⟨A3, e3, hN3, hB3⟩ := g3 hp
        exact ⟨A3, e3, hN3, far4C _ _ _ _ (blk_ne hB3 bG (by decide)) hB3⟩, g4, g5, g6, g7, g8, g9, fun _ => by simp [hd, upd], fun _ => ⟨G, rfl, hG, blk4C _ _ _ _ bG⟩⟩
  · rintro x w' ⟨u4, u11, u12, u13, u14, u15, u16, u17, u18, u19, u20, rfl, hb, g0, g1, g2, g3, g4, g5, g6, g7, g8, g9, k, kA⟩
    obtain ⟨G, e4, hG, bG⟩ := kA rfl
    subst e4
    rw [if_pos rfl] at bG
    have HBG := Lib.hid bG
    have hlt := BR.out.lt
    have HBX := Lib.hid (BR.out.below hb hlt)
    have hne : G ≠ R := by omega
    have HBW := Lib.hid (HBR.out.trans (hb.mono HBR.out.size))
    have HEE := Lib.hid (HE.out.below hb)
    have HGG := Lib.hid (HG.out.below hb HGW.out)
    have hgG : g ≠ G := by have := HGW.out; omega
    have hgR : g ≠ R := blk_ne HG.out BR.out (by decide)
    have G1 : w'.cell? ⟨G, 1, none⟩ = some (.int .i64 T) := bG.cell 1
    have R0 : w'.cell? ⟨R, 0, none⟩ = some (.string { data := #[] }) := HBX.out.cell 0
    have R1 : w'.cell? ⟨R, 1, none⟩ = some (.int .i64 0) := HBX.out.cell 1
    have R2 : w'.cell? ⟨R, 2, none⟩ = some (.int .i64 0) := HBX.out.cell 2
    have R3 : w'.cell? ⟨R, 3, none⟩ = some (.bool false) := HBX.out.cell 3
    have f0 := HBX.out.frozen 0
    have f1 := HBX.out.frozen 1
    have f2 := HBX.out.frozen 2
    have f3 := HBX.out.frozen 3
    have hRw : w.heap.size ≤ R := by rw [HRW.out]; exact Nat.le_refl _
    have hGw : w.heap.size ≤ G := by have := HS0.out; omega
    clear g0 g1 g2 g3 g4 g5 g6 g7 g8 g9 k kA bG hb hG hlt HBR HS0
    by_cases hT0 : T = 0
    · have HO := Lib.hid (col_zero (a := a) (r := r) (HT.out ▸ hT0))
      have q0 : (T == 0) = true := by simpa using hT0
      clear hT0 hT01 hne hgG hgR
      go_wp2
      have b4 := blk4C (.string { data := #[] }) (.int .i64 0) (.int .i64 0) (.bool false) HBX.out
      have q0 : _ = some (Value.string { data := #[] }) := b4.cell 0
      have q1 : _ = some (Value.int .i64 0) := b4.cell 1
      have q2 : _ = some (Value.int .i64 0) := b4.cell 2
      have q3 : _ = some (Value.bool false) := b4.cell 3
      exact bodyPost_ret (v := .tuple #[.agg #[.string { data := #[] }, .int .i64 0, .int .i64 0, .bool false], .bool false]) (by simp [results, Tryd.results27, go_sem, q0, q1, q2, q3]) rfl (RetCl.no HO.out (below4C _ _ _ _ HBW.out hRw))
    have q0 : (T == 0) = false := by simpa using hT0
    by_cases hT5 : T = 5
    · subst hT5
      match r, HN with
      | [], HN =>
        have HO := Lib.hid (col_dec0 (a := a) HT.out.symm)
        obtain rfl : n = 2 := HN.out
        go_wp2
        have b4 := blk4C (.string { data := #[] }) (.int .i64 0) (.int .i64 0) (.bool false) HBX.out
        have q0 : _ = some (Value.string { data := #[] }) := b4.cell 0
        have q1 : _ = some (Value.int .i64 0) := b4.cell 1
        have q2 : _ = some (Value.int .i64 0) := b4.cell 2
        have q3 : _ = some (Value.bool false) := b4.cell 3
        exact bodyPost_ret (v := .tuple #[.agg #[.string { data := #[] }, .int .i64 0, .int .i64 0, .bool false], .bool false]) (by simp [results, Tryd.results27, go_sem, q0, q1, q2, q3]) rfl (RetCl.no HO.out (below4C _ _ _ _ HBW.out hRw))
      | k :: q, HN =>
        have ck : w'.cell? ⟨g, 2, none⟩ = some (.string (mkS k)) := (HGG.out.cell 2).trans rfl
        have CS := Lib.hid (scale_any' (mkS k) w' HEE.out (by rw [← sizeD, mkS_data]; exact HZ.out k (by simp)))
        rw [mkS_data] at CS
        obtain ⟨j, rfl⟩ : ∃ j : Nat, n = j + 3 := ⟨q.length, HN.out⟩
        have m5 : ((j : Int) + 1 == 0) = false := by rw [beq_eq_false_iff_ne]; omega
        have m6 : (0 : Int) < (j : Int) + 1 := by omega
        go_wp2_with fail
        refine CS.out.mono ?_
        rintro _ w2 ⟨m, ok, rfl, hy, hn, hb2⟩
        clear R0 R1 R2 R3 f0 f1 f2 f3 G1 ck CS
        have HBX2' := Lib.hid (HBX.out.below hb2 HBX.out.lt)
        have HBG2' := Lib.hid (HBG.out.below hb2 HBG.out.lt)
        have HGG2' := Lib.hid (HGG.out.below hb2 HGG.out.lt)
        have HBW2' := Lib.hid (bst HBW.out hb2)
        have R0 : w2.cell? ⟨R, 0, none⟩ = some (.string { data := #[] }) := HBX2'.out.cell 0
        have f0 := HBX2'.out.frozen 0
        have R1 : w2.cell? ⟨R, 1, none⟩ = some (.int .i64 0) := HBX2'.out.cell 1
        have f1 := HBX2'.out.frozen 1
        have R2 : w2.cell? ⟨R, 2, none⟩ = some (.int .i64 0) := HBX2'.out.cell 2
        have f2 := HBX2'.out.frozen 2
        have R3 : w2.cell? ⟨R, 3, none⟩ = some (.bool false) := HBX2'.out.cell 3
        have f3 := HBX2'.out.frozen 3
        cases ok with
        | false =>
          have HO := Lib.hid (col_decno (a := a) (q := q) HT.out.symm (hn rfl))
          clear hy hn hb2
          go_wp2
          have b4 := blk4C (.string { data := #[] }) (.int .i64 0) (.int .i64 0) (.bool false) HBX2'.out
          have q0 : _ = some (Value.string { data := #[] }) := b4.cell 0
          have q1 : _ = some (Value.int .i64 0) := b4.cell 1
          have q2 : _ = some (Value.int .i64 0) := b4.cell 2
          have q3 : _ = some (Value.bool false) := b4.cell 3
          exact bodyPost_ret (v := .tuple #[.agg #[.string { data := #[] }, .int .i64 0, .int .i64 0, .bool false], .bool false]) (by simp [results, Tryd.results27, go_sem, q0, q1, q2, q3]) rfl (RetCl.no HO.out (below4C _ _ _ _ HBW2'.out hRw))
        | true =>
          have HY := Lib.hid (hy rfl)
          clear hy hn hb2
          have G2 : w2.cell? ⟨G, 2, none⟩ = some (.int .i64 0) := HBG2'.out.cell 2
          have fG2 := HBG2'.out.frozen 2
          have bG3 := blkS2 (.int .i64 m) HBG2'.out
          have bR3 := farC 2 (.int .i64 m) (Ne.symm hne) HBX2'.out
          have bW3 := HBW2'.out.setCell (p := ⟨G, 2, none⟩) hGw (.int .i64 m)
          have bg3 := farC 2 (.int .i64 m) hgG HGG2'.out
          clear R0 R1 R2 R3 f0 f1 f2 f3
          obtain ⟨W3, hW3⟩ : ∃ X, X = (w2.setCell ⟨G, 2, none⟩ (.int .i64 m)).drew := ⟨_, rfl⟩
          have HBG3 := Lib.hid (show Blk W3 G 41 #[.string na, .int .i64 5, .int .i64 m, .bool false] by rw [hW3]; exact bG3)
          have HBX3 := Lib.hid (show Blk W3 R 41 #[.string { data := #[] }, .int .i64 0, .int .i64 0, .bool false] by rw [hW3]; exact bR3)
          have HBW3 := Lib.hid (show Below w.heap.size w W3 by rw [hW3]; exact bW3.drew)
          have HGG3 := Lib.hid (show Blk W3 g 9 (strV ((a :: b :: k :: q).map mkS)).toArray by rw [hW3]; exact bg3)
          have HW3 := Lib.hid hW3
          clear bG3 bR3 bW3 bg3 hW3
          go_upto_region 13 with (fail)
          go_region
          rw [← HW3.out]
          clear G2 fG2
          have R0 : W3.cell? ⟨R, 0, none⟩ = some (.string { data := #[] }) := HBX3.out.cell 0
          have f0 := HBX3.out.frozen 0
          have R1 : W3.cell? ⟨R, 1, none⟩ = some (.int .i64 0) := HBX3.out.cell 1
          have f1 := HBX3.out.frozen 1
          have R2 : W3.cell? ⟨R, 2, none⟩ = some (.int .i64 0) := HBX3.out.cell 2
          have f2 := HBX3.out.frozen 2
          have R3 : W3.cell? ⟨R, 3, none⟩ = some (.bool false) := HBX3.out.cell 3
          have f3 := HBX3.out.frozen 3
          match q, HN with
          | [], HN =>
            obtain rfl : j = 0 := by have := HN.out; simpa using this
            have HO := Lib.hid (show colV [a, b, k] = some ⟨na, 5, m, false⟩ by rw [HNA.out]; exact col_dec HT.out.symm HY.out rfl)
            have f3G := HBG3.out.frozen 3
            have G3 : W3.cell? ⟨G, 3, none⟩ = some (.bool false) := HBG3.out.cell 3
            go_upto_region 15 with (fail)
            have bGX := blkS3 (.bool false) HBG3.out
            have bRX := farC 3 (.bool false) (Ne.symm hne) HBX3.out
            have bWX := HBW3.out.setCell (p := ⟨G, 3, none⟩) hGw (.bool false)
            obtain ⟨X, hX⟩ : ∃ X, X = W3.setCell ⟨G, 3, none⟩ (.bool false) := ⟨_, rfl⟩
            rw [← hX] at bGX bRX bWX ⊢
            clear hX
            have x0 : X.cell? ⟨G, 0, none⟩ = some (.string na) := bGX.cell 0
            have x1 : X.cell? ⟨G, 1, none⟩ = some (.int .i64 5) := bGX.cell 1
            have x2 : X.cell? ⟨G, 2, none⟩ = some (.int .i64 m) := bGX.cell 2
            have x3 : X.cell? ⟨G, 3, none⟩ = some (.bool false) := bGX.cell 3
            have y0 : X.cell? ⟨R, 0, none⟩ = some (.string { data := #[] }) := bRX.cell 0
            have z0 := bRX.frozen 0
            have y1 : X.cell? ⟨R, 1, none⟩ = some (.int .i64 0) := bRX.cell 1
            have z1 := bRX.frozen 1
            have y2 : X.cell? ⟨R, 2, none⟩ = some (.int .i64 0) := bRX.cell 2
            have z2 := bRX.frozen 2
            have y3 : X.cell? ⟨R, 3, none⟩ = some (.bool false) := bRX.cell 3
            have z3 := bRX.frozen 3
            have HBX2 := Lib.hid bRX
            have HBW2 := Lib.hid bWX
            clear bGX bRX bWX
            clear f0 f1 f2 f3 R0 R1 R2 R3 f3G G3
            go_region
            all_goals
              go_wp2
              obtain ⟨Y, hY⟩ : ∃ Y, Y = ((((X.setCell ⟨R, 0, none⟩ (.string na)).setCell ⟨R, 1, none⟩ (.int .i64 5)).setCell ⟨R, 2, none⟩ (.int .i64 m)).setCell ⟨R, 3, none⟩ (.bool false)).drew := ⟨_, rfl⟩
              rw [← hY]
              have b4 : Blk Y R 41 #[.string na, .int .i64 5, .int .i64 m, .bool false] := by rw [hY]; exact blk4C _ _ _ _ HBX2.out
              have bw : Below w.heap.size w Y := by rw [hY]; exact (below4C _ _ _ _ HBW2.out hRw).drew
              clear hY
              have p0 : Y.cell? ⟨R, 0, none⟩ = some (.string na) := b4.cell 0
              have p1 : Y.cell? ⟨R, 1, none⟩ = some (.int .i64 5) := b4.cell 1
              have p2 : Y.cell? ⟨R, 2, none⟩ = some (.int .i64 m) := b4.cell 2
              have p3 : Y.cell? ⟨R, 3, none⟩ = some (.bool false) := b4.cell 3
              exact bodyPost_ret (v := .tuple #[.agg #[.string na, .int .i64 5, .int .i64 m, .bool false], .bool true]) (by simp [results, Tryd.results27, go_sem, p0, p1, p2, p3]) rfl (RetCl.yes HO.out bw)
          | [x], HN =>
            obtain rfl : j = 1 := by have := HN.out; simpa using this
            by_cases hx : x = nullW
            · have HO := Lib.hid (show colV [a, b, k, x] = some ⟨na, 5, m, true⟩ by rw [HNA.out]; exact col_dec HT.out.symm HY.out (by rw [hx]; rfl))
              have f3G := HBG3.out.frozen 3
              have G3 : W3.cell? ⟨G, 3, none⟩ = some (.bool false) := HBG3.out.cell 3
              go_upto_region 15 with (fail)
              have bGX := blkS3 (.bool true) HBG3.out
              have bRX := farC 3 (.bool true) (Ne.symm hne) HBX3.out
              have bWX := HBW3.out.setCell (p := ⟨G, 3, none⟩) hGw (.bool true)
              have bgX := farC 3 (.bool true) hgG HGG3.out
              obtain ⟨X, hX⟩ : ∃ X, X = W3.setCell ⟨G, 3, none⟩ (.bool true) := ⟨_, rfl⟩
              rw [← hX] at bGX bRX bWX bgX ⊢
              clear hX
              have x0 : X.cell? ⟨G, 0, none⟩ = some (.string na) := bGX.cell 0
              have x1 : X.cell? ⟨G, 1, none⟩ = some (.int .i64 5) := bGX.cell 1
              have x2 : X.cell? ⟨G, 2, none⟩ = some (.int .i64 m) := bGX.cell 2
              have x3 : X.cell? ⟨G, 3, none⟩ = some (.bool true) := bGX.cell 3
              have y0 : X.cell? ⟨R, 0, none⟩ = some (.string { data := #[] }) := bRX.cell 0
              have z0 := bRX.frozen 0
              have y1 : X.cell? ⟨R, 1, none⟩ = some (.int .i64 0) := bRX.cell 1
              have z1 := bRX.frozen 1
              have y2 : X.cell? ⟨R, 2, none⟩ = some (.int .i64 0) := bRX.cell 2
              have z2 := bRX.frozen 2
              have y3 : X.cell? ⟨R, 3, none⟩ = some (.bool false) := bRX.cell 3
              have z3 := bRX.frozen 3
              have v0 : X.cell? ⟨g, 3, none⟩ = some (.string (mkS x)) := (bgX.cell 3).trans rfl
              have v2 : ((mkS x).toList == [110, 117, 108, 108]) = true := by rw [hx, Go.ByteArray.toList_eq]; rfl
              clear hx
              have HBX2 := Lib.hid bRX
              have HBW2 := Lib.hid bWX
              clear bGX bRX bWX bgX
              clear f0 f1 f2 f3 R0 R1 R2 R3 f3G G3
              go_region
              all_goals
                go_wp2
                obtain ⟨Y, hY⟩ : ∃ Y, Y = ((((X.setCell ⟨R, 0, none⟩ (.string na)).setCell ⟨R, 1, none⟩ (.int .i64 5)).setCell ⟨R, 2, none⟩ (.int .i64 m)).setCell ⟨R, 3, none⟩ (.bool true)).drew := ⟨_, rfl⟩
                rw [← hY]
                have b4 : Blk Y R 41 #[.string na, .int .i64 5, .int .i64 m, .bool true] := by rw [hY]; exact blk4C _ _ _ _ HBX2.out
                have bw : Below w.heap.size w Y := by rw [hY]; exact (below4C _ _ _ _ HBW2.out hRw).drew
                clear hY
                have p0 : Y.cell? ⟨R, 0, none⟩ = some (.string na) := b4.cell 0
                have p1 : Y.cell? ⟨R, 1, none⟩ = some (.int .i64 5) := b4.cell 1
                have p2 : Y.cell? ⟨R, 2, none⟩ = some (.int .i64 m) := b4.cell 2
                have p3 : Y.cell? ⟨R, 3, none⟩ = some (.bool true) := b4.cell 3
                exact bodyPost_ret (v := .tuple #[.agg #[.string na, .int .i64 5, .int .i64 m, .bool true], .bool true]) (by simp [results, Tryd.results27, go_sem, p0, p1, p2, p3]) rfl (RetCl.yes HO.out bw)
            · have HO := Lib.hid (show colV [a, b, k, x] = none from col_decno2 HT.out.symm HY.out (by simp only [nuV, if_neg hx]))
              have f3G := HBG3.out.frozen 3
              have G3 : W3.cell? ⟨G, 3, none⟩ = some (.bool false) := HBG3.out.cell 3
              go_upto_region 15 with (fail)
              have bGX := blkS3 (.bool true) HBG3.out
              have bRX := farC 3 (.bool true) (Ne.symm hne) HBX3.out
              have bWX := HBW3.out.setCell (p := ⟨G, 3, none⟩) hGw (.bool true)
              have bgX := farC 3 (.bool true) hgG HGG3.out
              obtain ⟨X, hX⟩ : ∃ X, X = W3.setCell ⟨G, 3, none⟩ (.bool true) := ⟨_, rfl⟩
              rw [← hX] at bGX bRX bWX bgX ⊢
              clear hX
              have x0 : X.cell? ⟨G, 0, none⟩ = some (.string na) := bGX.cell 0
              have x1 : X.cell? ⟨G, 1, none⟩ = some (.int .i64 5) := bGX.cell 1
              have x2 : X.cell? ⟨G, 2, none⟩ = some (.int .i64 m) := bGX.cell 2
              have x3 : X.cell? ⟨G, 3, none⟩ = some (.bool true) := bGX.cell 3
              have y0 : X.cell? ⟨R, 0, none⟩ = some (.string { data := #[] }) := bRX.cell 0
              have z0 := bRX.frozen 0
              have y1 : X.cell? ⟨R, 1, none⟩ = some (.int .i64 0) := bRX.cell 1
              have z1 := bRX.frozen 1
              have y2 : X.cell? ⟨R, 2, none⟩ = some (.int .i64 0) := bRX.cell 2
              have z2 := bRX.frozen 2
              have y3 : X.cell? ⟨R, 3, none⟩ = some (.bool false) := bRX.cell 3
              have z3 := bRX.frozen 3
              have v0 : X.cell? ⟨g, 3, none⟩ = some (.string (mkS x)) := (bgX.cell 3).trans rfl
              have v2 : ((mkS x).toList == [110, 117, 108, 108]) = false := by rw [Go.ByteArray.toList_eq]; exact beq_false_of_ne hx
              clear hx
              have HBX2 := Lib.hid bRX
              have HBW2 := Lib.hid bWX
              clear bGX bRX bWX bgX
              clear f0 f1 f2 f3 R0 R1 R2 R3 f3G G3
              go_region
              all_goals
                go_wp2
                obtain ⟨Y, hY⟩ : ∃ Y, Y = ((((X.setCell ⟨R, 0, none⟩ (.string na)).setCell ⟨R, 1, none⟩ (.int .i64 5)).setCell ⟨R, 2, none⟩ (.int .i64 m)).setCell ⟨R, 3, none⟩ (.bool true)).drew := ⟨_, rfl⟩
                rw [← hY]
                have b4 : Blk Y R 41 #[.string na, .int .i64 5, .int .i64 m, .bool true] := by rw [hY]; exact blk4C _ _ _ _ HBX2.out
                have bw : Below w.heap.size w Y := by rw [hY]; exact (below4C _ _ _ _ HBW2.out hRw).drew
                clear hY
                have p0 : Y.cell? ⟨R, 0, none⟩ = some (.string na) := b4.cell 0
                have p1 : Y.cell? ⟨R, 1, none⟩ = some (.int .i64 5) := b4.cell 1
                have p2 : Y.cell? ⟨R, 2, none⟩ = some (.int .i64 m) := b4.cell 2
                have p3 : Y.cell? ⟨R, 3, none⟩ = some (.bool true) := b4.cell 3
                exact bodyPost_ret (v := .tuple #[.agg #[.string na, .int .i64 5, .int .i64 m, .bool true], .bool false]) (by simp [results, Tryd.results27, go_sem, p0, p1, p2, p3]) rfl (RetCl.no HO.out bw)
          | x :: y :: q, HN =>
            have HO := Lib.hid (show colV (a :: b :: k :: x :: y :: q) = none from col_decno2 HT.out.symm HY.out rfl)
            obtain ⟨i, rfl⟩ : ∃ i : Nat, j = i + 2 := ⟨q.length, by have := HN.out; simp at this; omega⟩
            have f3G := HBG3.out.frozen 3
            have G3 : W3.cell? ⟨G, 3, none⟩ = some (.bool false) := HBG3.out.cell 3
            have m1 : (0 : Int) < (i : Int) + 2 := by omega
            have m2 : ((i : Int) + 2 == 0) = false := by rw [beq_eq_false_iff_ne]; omega
            have m3 : ((i : Int) + 2 == 1) = false := by rw [beq_eq_false_iff_ne]; omega
            go_upto_region 15 with (fail)
            have bGX := blkS3 (.bool true) HBG3.out
            have bRX := farC 3 (.bool true) (Ne.symm hne) HBX3.out
            have bWX := HBW3.out.setCell (p := ⟨G, 3, none⟩) hGw (.bool true)
            obtain ⟨X, hX⟩ : ∃ X, X = W3.setCell ⟨G, 3, none⟩ (.bool true) := ⟨_, rfl⟩
            rw [← hX] at bGX bRX bWX ⊢
            clear hX
            have x0 : X.cell? ⟨G, 0, none⟩ = some (.string na) := bGX.cell 0
            have x1 : X.cell? ⟨G, 1, none⟩ = some (.int .i64 5) := bGX.cell 1
            have x2 : X.cell? ⟨G, 2, none⟩ = some (.int .i64 m) := bGX.cell 2
            have x3 : X.cell? ⟨G, 3, none⟩ = some (.bool true) := bGX.cell 3
            have y0 : X.cell? ⟨R, 0, none⟩ = some (.string { data := #[] }) := bRX.cell 0
            have z0 := bRX.frozen 0
            have y1 : X.cell? ⟨R, 1, none⟩ = some (.int .i64 0) := bRX.cell 1
            have z1 := bRX.frozen 1
            have y2 : X.cell? ⟨R, 2, none⟩ = some (.int .i64 0) := bRX.cell 2
            have z2 := bRX.frozen 2
            have y3 : X.cell? ⟨R, 3, none⟩ = some (.bool false) := bRX.cell 3
            have z3 := bRX.frozen 3
            have HBX2 := Lib.hid bRX
            have HBW2 := Lib.hid bWX
            clear bGX bRX bWX
            clear f0 f1 f2 f3 R0 R1 R2 R3 f3G G3
            go_region
            all_goals
              go_wp2
              obtain ⟨Y, hY⟩ : ∃ Y, Y = ((((X.setCell ⟨R, 0, none⟩ (.string na)).setCell ⟨R, 1, none⟩ (.int .i64 5)).setCell ⟨R, 2, none⟩ (.int .i64 m)).setCell ⟨R, 3, none⟩ (.bool true)).drew := ⟨_, rfl⟩
              rw [← hY]
              have b4 : Blk Y R 41 #[.string na, .int .i64 5, .int .i64 m, .bool true] := by rw [hY]; exact blk4C _ _ _ _ HBX2.out
              have bw : Below w.heap.size w Y := by rw [hY]; exact (below4C _ _ _ _ HBW2.out hRw).drew
              clear hY
              have p0 : Y.cell? ⟨R, 0, none⟩ = some (.string na) := b4.cell 0
              have p1 : Y.cell? ⟨R, 1, none⟩ = some (.int .i64 5) := b4.cell 1
              have p2 : Y.cell? ⟨R, 2, none⟩ = some (.int .i64 m) := b4.cell 2
              have p3 : Y.cell? ⟨R, 3, none⟩ = some (.bool true) := b4.cell 3
              exact bodyPost_ret (v := .tuple #[.agg #[.string na, .int .i64 5, .int .i64 m, .bool true], .bool false]) (by simp [results, Tryd.results27, go_sem, p0, p1, p2, p3]) rfl (RetCl.no HO.out bw)
    have q5 : (T == 5) = false := by simpa using hT5
    match r, HN with
    | [], HN =>
      have HO := Lib.hid (show colV [a, b] = some ⟨na, T, 0, false⟩ by rw [HNA.out, HT.out]; exact col_mid (HT.out ▸ hT0) (HT.out ▸ hT5) rfl)
      obtain rfl : n = 2 := HN.out
      have f3G := HBG.out.frozen 3
      have G3 : w'.cell? ⟨G, 3, none⟩ = some (.bool false) := HBG.out.cell 3
      go_upto_region 15 with (fail)
      have bGX := blkS3 (.bool false) HBG.out
      have bRX := farC 3 (.bool false) (Ne.symm hne) HBX.out
      have bWX := HBW.out.setCell (p := ⟨G, 3, none⟩) hGw (.bool false)
      obtain ⟨X, hX⟩ : ∃ X, X = w'.setCell ⟨G, 3, none⟩ (.bool false) := ⟨_, rfl⟩
      rw [← hX] at bGX bRX bWX ⊢
      clear hX
      have x0 : X.cell? ⟨G, 0, none⟩ = some (.string na) := bGX.cell 0
      have x1 : X.cell? ⟨G, 1, none⟩ = some (.int .i64 T) := bGX.cell 1
      have x2 : X.cell? ⟨G, 2, none⟩ = some (.int .i64 0) := bGX.cell 2
      have x3 : X.cell? ⟨G, 3, none⟩ = some (.bool false) := bGX.cell 3
      have y0 : X.cell? ⟨R, 0, none⟩ = some (.string { data := #[] }) := bRX.cell 0
      have z0 := bRX.frozen 0
      have y1 : X.cell? ⟨R, 1, none⟩ = some (.int .i64 0) := bRX.cell 1
      have z1 := bRX.frozen 1
      have y2 : X.cell? ⟨R, 2, none⟩ = some (.int .i64 0) := bRX.cell 2
      have z2 := bRX.frozen 2
      have y3 : X.cell? ⟨R, 3, none⟩ = some (.bool false) := bRX.cell 3
      have z3 := bRX.frozen 3
      have HBX2 := Lib.hid bRX
      have HBW2 := Lib.hid bWX
      clear bGX bRX bWX
      clear f0 f1 f2 f3 R0 R1 R2 R3 G1 f3G G3
      go_region
      all_goals
        go_wp2
        obtain ⟨Y, hY⟩ : ∃ Y, Y = ((((X.setCell ⟨R, 0, none⟩ (.string na)).setCell ⟨R, 1, none⟩ (.int .i64 T)).setCell ⟨R, 2, none⟩ (.int .i64 0)).setCell ⟨R, 3, none⟩ (.bool false)).drew := ⟨_, rfl⟩
        rw [← hY]
        have b4 : Blk Y R 41 #[.string na, .int .i64 T, .int .i64 0, .bool false] := by rw [hY]; exact blk4C _ _ _ _ HBX2.out
        have bw : Below w.heap.size w Y := by rw [hY]; exact (below4C _ _ _ _ HBW2.out hRw).drew
        clear hY
        have p0 : Y.cell? ⟨R, 0, none⟩ = some (.string na) := b4.cell 0
        have p1 : Y.cell? ⟨R, 1, none⟩ = some (.int .i64 T) := b4.cell 1
        have p2 : Y.cell? ⟨R, 2, none⟩ = some (.int .i64 0) := b4.cell 2
        have p3 : Y.cell? ⟨R, 3, none⟩ = some (.bool false) := b4.cell 3
        exact bodyPost_ret (v := .tuple #[.agg #[.string na, .int .i64 T, .int .i64 0, .bool false], .bool true]) (by simp [results, Tryd.results27, go_sem, p0, p1, p2, p3]) rfl (RetCl.yes HO.out bw)
    | [x], HN =>
      obtain rfl : n = 3 := HN.out
      by_cases hx : x = nullW
      · have HO := Lib.hid (show colV [a, b, x] = some ⟨na, T, 0, true⟩ by rw [HNA.out, HT.out]; exact col_mid (HT.out ▸ hT0) (HT.out ▸ hT5) (by rw [hx]; rfl))
        have f3G := HBG.out.frozen 3
        have G3 : w'.cell? ⟨G, 3, none⟩ = some (.bool false) := HBG.out.cell 3
        go_upto_region 15 with (fail)
        have bGX := blkS3 (.bool true) HBG.out
        have bRX := farC 3 (.bool true) (Ne.symm hne) HBX.out
        have bWX := HBW.out.setCell (p := ⟨G, 3, none⟩) hGw (.bool true)
        have bgX := farC 3 (.bool true) hgG HGG.out
        obtain ⟨X, hX⟩ : ∃ X, X = w'.setCell ⟨G, 3, none⟩ (.bool true) := ⟨_, rfl⟩
        rw [← hX] at bGX bRX bWX bgX ⊢
        clear hX
        have x0 : X.cell? ⟨G, 0, none⟩ = some (.string na) := bGX.cell 0
        have x1 : X.cell? ⟨G, 1, none⟩ = some (.int .i64 T) := bGX.cell 1
        have x2 : X.cell? ⟨G, 2, none⟩ = some (.int .i64 0) := bGX.cell 2
        have x3 : X.cell? ⟨G, 3, none⟩ = some (.bool true) := bGX.cell 3
        have y0 : X.cell? ⟨R, 0, none⟩ = some (.string { data := #[] }) := bRX.cell 0
        have z0 := bRX.frozen 0
        have y1 : X.cell? ⟨R, 1, none⟩ = some (.int .i64 0) := bRX.cell 1
        have z1 := bRX.frozen 1
        have y2 : X.cell? ⟨R, 2, none⟩ = some (.int .i64 0) := bRX.cell 2
        have z2 := bRX.frozen 2
        have y3 : X.cell? ⟨R, 3, none⟩ = some (.bool false) := bRX.cell 3
        have z3 := bRX.frozen 3
        have v0 : X.cell? ⟨g, 2, none⟩ = some (.string (mkS x)) := (bgX.cell 2).trans rfl
        have v2 : ((mkS x).toList == [110, 117, 108, 108]) = true := by rw [hx, Go.ByteArray.toList_eq]; rfl
        clear hx
        have HBX2 := Lib.hid bRX
        have HBW2 := Lib.hid bWX
        clear bGX bRX bWX bgX
        clear f0 f1 f2 f3 R0 R1 R2 R3 G1 f3G G3
        go_region
        all_goals
          go_wp2
          obtain ⟨Y, hY⟩ : ∃ Y, Y = ((((X.setCell ⟨R, 0, none⟩ (.string na)).setCell ⟨R, 1, none⟩ (.int .i64 T)).setCell ⟨R, 2, none⟩ (.int .i64 0)).setCell ⟨R, 3, none⟩ (.bool true)).drew := ⟨_, rfl⟩
          rw [← hY]
          have b4 : Blk Y R 41 #[.string na, .int .i64 T, .int .i64 0, .bool true] := by rw [hY]; exact blk4C _ _ _ _ HBX2.out
          have bw : Below w.heap.size w Y := by rw [hY]; exact (below4C _ _ _ _ HBW2.out hRw).drew
          clear hY
          have p0 : Y.cell? ⟨R, 0, none⟩ = some (.string na) := b4.cell 0
          have p1 : Y.cell? ⟨R, 1, none⟩ = some (.int .i64 T) := b4.cell 1
          have p2 : Y.cell? ⟨R, 2, none⟩ = some (.int .i64 0) := b4.cell 2
          have p3 : Y.cell? ⟨R, 3, none⟩ = some (.bool true) := b4.cell 3
          exact bodyPost_ret (v := .tuple #[.agg #[.string na, .int .i64 T, .int .i64 0, .bool true], .bool true]) (by simp [results, Tryd.results27, go_sem, p0, p1, p2, p3]) rfl (RetCl.yes HO.out bw)
      · have HO := Lib.hid (show colV [a, b, x] = none from col_midno (HT.out ▸ hT0) (HT.out ▸ hT5) (by simp only [nuV, if_neg hx]))
        have f3G := HBG.out.frozen 3
        have G3 : w'.cell? ⟨G, 3, none⟩ = some (.bool false) := HBG.out.cell 3
        go_upto_region 15 with (fail)
        have bGX := blkS3 (.bool true) HBG.out
        have bRX := farC 3 (.bool true) (Ne.symm hne) HBX.out
        have bWX := HBW.out.setCell (p := ⟨G, 3, none⟩) hGw (.bool true)
        have bgX := farC 3 (.bool true) hgG HGG.out
        obtain ⟨X, hX⟩ : ∃ X, X = w'.setCell ⟨G, 3, none⟩ (.bool true) := ⟨_, rfl⟩
        rw [← hX] at bGX bRX bWX bgX ⊢
        clear hX
        have x0 : X.cell? ⟨G, 0, none⟩ = some (.string na) := bGX.cell 0
        have x1 : X.cell? ⟨G, 1, none⟩ = some (.int .i64 T) := bGX.cell 1
        have x2 : X.cell? ⟨G, 2, none⟩ = some (.int .i64 0) := bGX.cell 2
        have x3 : X.cell? ⟨G, 3, none⟩ = some (.bool true) := bGX.cell 3
        have y0 : X.cell? ⟨R, 0, none⟩ = some (.string { data := #[] }) := bRX.cell 0
        have z0 := bRX.frozen 0
        have y1 : X.cell? ⟨R, 1, none⟩ = some (.int .i64 0) := bRX.cell 1
        have z1 := bRX.frozen 1
        have y2 : X.cell? ⟨R, 2, none⟩ = some (.int .i64 0) := bRX.cell 2
        have z2 := bRX.frozen 2
        have y3 : X.cell? ⟨R, 3, none⟩ = some (.bool false) := bRX.cell 3
        have z3 := bRX.frozen 3
        have v0 : X.cell? ⟨g, 2, none⟩ = some (.string (mkS x)) := (bgX.cell 2).trans rfl
        have v2 : ((mkS x).toList == [110, 117, 108, 108]) = false := by rw [Go.ByteArray.toList_eq]; exact beq_false_of_ne hx
        clear hx
        have HBX2 := Lib.hid bRX
        have HBW2 := Lib.hid bWX
        clear bGX bRX bWX bgX
        clear f0 f1 f2 f3 R0 R1 R2 R3 G1 f3G G3
        go_region
        all_goals
          go_wp2
          obtain ⟨Y, hY⟩ : ∃ Y, Y = ((((X.setCell ⟨R, 0, none⟩ (.string na)).setCell ⟨R, 1, none⟩ (.int .i64 T)).setCell ⟨R, 2, none⟩ (.int .i64 0)).setCell ⟨R, 3, none⟩ (.bool true)).drew := ⟨_, rfl⟩
          rw [← hY]
          have b4 : Blk Y R 41 #[.string na, .int .i64 T, .int .i64 0, .bool true] := by rw [hY]; exact blk4C _ _ _ _ HBX2.out
          have bw : Below w.heap.size w Y := by rw [hY]; exact (below4C _ _ _ _ HBW2.out hRw).drew
          clear hY
          have p0 : Y.cell? ⟨R, 0, none⟩ = some (.string na) := b4.cell 0
          have p1 : Y.cell? ⟨R, 1, none⟩ = some (.int .i64 T) := b4.cell 1
          have p2 : Y.cell? ⟨R, 2, none⟩ = some (.int .i64 0) := b4.cell 2
          have p3 : Y.cell? ⟨R, 3, none⟩ = some (.bool true) := b4.cell 3
          exact bodyPost_ret (v := .tuple #[.agg #[.string na, .int .i64 T, .int .i64 0, .bool true], .bool false]) (by simp [results, Tryd.results27, go_sem, p0, p1, p2, p3]) rfl (RetCl.no HO.out bw)
    | x :: y :: q, HN =>
      have HO := Lib.hid (show colV (a :: b :: x :: y :: q) = none from col_midno (HT.out ▸ hT0) (HT.out ▸ hT5) rfl)
      obtain ⟨j, rfl⟩ : ∃ j : Nat, n = j + 4 := ⟨q.length, HN.out⟩
      have f3G := HBG.out.frozen 3
      have G3 : w'.cell? ⟨G, 3, none⟩ = some (.bool false) := HBG.out.cell 3
      have m1 : (0 : Int) < (j : Int) + 2 := by omega
      have m2 : ((j : Int) + 2 == 0) = false := by rw [beq_eq_false_iff_ne]; omega
      have m3 : ((j : Int) + 2 == 1) = false := by rw [beq_eq_false_iff_ne]; omega
      go_upto_region 15 with (fail)
      have bGX := blkS3 (.bool true) HBG.out
      have bRX := farC 3 (.bool true) (Ne.symm hne) HBX.out
      have bWX := HBW.out.setCell (p := ⟨G, 3, none⟩) hGw (.bool true)
      obtain ⟨X, hX⟩ : ∃ X, X = w'.setCell ⟨G, 3, none⟩ (.bool true) := ⟨_, rfl⟩
      rw [← hX] at bGX bRX bWX ⊢
      clear hX
      have x0 : X.cell? ⟨G, 0, none⟩ = some (.string na) := bGX.cell 0
      have x1 : X.cell? ⟨G, 1, none⟩ = some (.int .i64 T) := bGX.cell 1
      have x2 : X.cell? ⟨G, 2, none⟩ = some (.int .i64 0) := bGX.cell 2
      have x3 : X.cell? ⟨G, 3, none⟩ = some (.bool true) := bGX.cell 3
      have y0 : X.cell? ⟨R, 0, none⟩ = some (.string { data := #[] }) := bRX.cell 0
      have z0 := bRX.frozen 0
      have y1 : X.cell? ⟨R, 1, none⟩ = some (.int .i64 0) := bRX.cell 1
      have z1 := bRX.frozen 1
      have y2 : X.cell? ⟨R, 2, none⟩ = some (.int .i64 0) := bRX.cell 2
      have z2 := bRX.frozen 2
      have y3 : X.cell? ⟨R, 3, none⟩ = some (.bool false) := bRX.cell 3
      have z3 := bRX.frozen 3
      have HBX2 := Lib.hid bRX
      have HBW2 := Lib.hid bWX
      clear bGX bRX bWX
      clear f0 f1 f2 f3 R0 R1 R2 R3 G1 f3G G3
      go_region
      all_goals
        go_wp2
        obtain ⟨Y, hY⟩ : ∃ Y, Y = ((((X.setCell ⟨R, 0, none⟩ (.string na)).setCell ⟨R, 1, none⟩ (.int .i64 T)).setCell ⟨R, 2, none⟩ (.int .i64 0)).setCell ⟨R, 3, none⟩ (.bool true)).drew := ⟨_, rfl⟩
        rw [← hY]
        have b4 : Blk Y R 41 #[.string na, .int .i64 T, .int .i64 0, .bool true] := by rw [hY]; exact blk4C _ _ _ _ HBX2.out
        have bw : Below w.heap.size w Y := by rw [hY]; exact (below4C _ _ _ _ HBW2.out hRw).drew
        clear hY
        have p0 : Y.cell? ⟨R, 0, none⟩ = some (.string na) := b4.cell 0
        have p1 : Y.cell? ⟨R, 1, none⟩ = some (.int .i64 T) := b4.cell 1
        have p2 : Y.cell? ⟨R, 2, none⟩ = some (.int .i64 0) := b4.cell 2
        have p3 : Y.cell? ⟨R, 3, none⟩ = some (.bool true) := b4.cell 3
        exact bodyPost_ret (v := .tuple #[.agg #[.string na, .int .i64 T, .int .i64 0, .bool true], .bool false]) (by simp [results, Tryd.results27, go_sem, p0, p1, p2, p3]) rfl (RetCl.no HO.out bw)
end Go.Proofs.YtojfhlppiicpbaaDoor
