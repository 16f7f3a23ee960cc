/-
  The walk of the law GarbageNames.
-/
import Derived.Test.YtlchfaakmgclcaaDoorGarbAwake
import Derived.Test.YtlchfaakmgclcaaDoorInv2
namespace Go.Proofs.YtlchfaakmgclcaaDoor
open Go.RowKit Go.Sort
theorem retN0_at {P : Program} {f : FuncId} {args : Array Value} {w : World} {l : List UInt8} {v : Int} (h : Calls P f args w (RetN0 w (numR l))) (e : numR l = v) : Calls P f args w fun d w' => d = .returned (.int .i64 v) ∧ w = w' := by
  subst e; exact h
def nearL : List Value := [.int .i64 (-1), .int .i64 0, .int .i64 1, .int .i64 9, .int .i64 10, .int .i64 2147483647, .int .i64 2147483648]
def kindL : List Value := [.string { data := #[80] }, .string { data := #[68] }, .string { data := #[77] }, .string { data := #[88] }]
theorem near_at {j : Nat} (h : j < 7) : ∃ m : Int, nearL[j]? = some (.int .i64 m) ∧ -9223372036854775808 ≤ m ∧ m ≤ 9223372036854775807 := by
  have : ∀ j : Fin 7, ∃ m : Int, nearL[j.val]? = some (.int .i64 m) ∧ -9223372036854775808 ≤ m ∧ m ≤ 9223372036854775807 := by
    intro j
    match j with
    | 0 => exact ⟨_, rfl, by omega, by omega⟩
    | 1 => exact ⟨_, rfl, by omega, by omega⟩
    | 2 => exact ⟨_, rfl, by omega, by omega⟩
    | 3 => exact ⟨_, rfl, by omega, by omega⟩
    | 4 => exact ⟨_, rfl, by omega, by omega⟩
    | 5 => exact ⟨_, rfl, by omega, by omega⟩
    | 6 => exact ⟨_, rfl, by omega, by omega⟩
  exact this ⟨j, h⟩
theorem kind_at {j : Nat} (h : j < 4) : ∃ m : ByteArray, kindL[j]? = some (.string m) ∧ m.size ≤ 20 := by
  have : ∀ j : Fin 4, ∃ m : ByteArray, kindL[j.val]? = some (.string m) ∧ m.size ≤ 20 := by
    intro j
    match j with
    | 0 => exact ⟨_, rfl, by decide⟩
    | 1 => exact ⟨_, rfl, by decide⟩
    | 2 => exact ⟨_, rfl, by decide⟩
    | 3 => exact ⟨_, rfl, by decide⟩
  exact this ⟨j, h⟩
theorem four_at {j : Nat} (h : j < 4) : ∃ U : ByteArray, (#[.string { data := #[80, 49] }, .string { data := #[68, 57] }, .string { data := #[77, 50, 49, 52, 55, 52, 56, 51, 54, 52, 55] }, .string { data := #[80, 50, 49, 52, 55, 52, 56, 51, 54, 52, 56] }] : Array Value)[j]? = some (.string U) ∧ U.size ≤ 20 := by
  have : ∀ j : Fin 4, ∃ U : ByteArray, (#[.string { data := #[80, 49] }, .string { data := #[68, 57] }, .string { data := #[77, 50, 49, 52, 55, 52, 56, 51, 54, 52, 55] }, .string { data := #[80, 50, 49, 52, 55, 52, 56, 51, 54, 52, 56] }] : Array Value)[j.val]? = some (.string U) ∧ U.size ≤ 20 := by
    intro j
    match j with
    | 0 => exact ⟨_, rfl, by decide⟩
    | 1 => exact ⟨_, rfl, by decide⟩
    | 2 => exact ⟨_, rfl, by decide⟩
    | 3 => exact ⟨_, rfl, by decide⟩
  exact this ⟨j, h⟩
theorem three_at {j : Nat} (h : j < 3) : ∃ U : ByteArray, (#[.string { data := #[] }, .string { data := #[48] }, .string { data := #[120] }] : Array Value)[j]? = some (.string U) ∧ U.size ≤ 20 := by
  have : ∀ j : Fin 3, ∃ U : ByteArray, (#[.string { data := #[] }, .string { data := #[48] }, .string { data := #[120] }] : Array Value)[j.val]? = some (.string U) ∧ U.size ≤ 20 := by
    intro j
    match j with
    | 0 => exact ⟨_, rfl, by decide⟩
    | 1 => exact ⟨_, rfl, by decide⟩
    | 2 => exact ⟨_, rfl, by decide⟩
  exact this ⟨j, h⟩
set_option maxRecDepth 100000 in
set_option maxHeartbeats 8000000 in
theorem garbageNames_walk (n : Int) (s : ByteArray) (k : Nat) (tail : ByteArray) (w : World) (hE : Env w) (hn : -9223372036854775808 ≤ n ∧ n ≤ 9223372036854775807) (hs : s.size ≤ 140737488351232) (hk : k ≤ 255) (ht : tail.size ≤ 140737488351232) :
    Calls Tryd.prog 10 #[.int .i64 n, .string s, .int .u8 k, .string tail] w fun e w' => e = .returned (.bool true) ∧ Below w.heap.size w w' := by
  have HE0 := Lib.hid hE
  clear hE
  obtain ⟨j7, h7⟩ : ∃ j, k % 7 = j := ⟨_, rfl⟩
  obtain ⟨j4, h4⟩ : ∃ j, k % 4 = j := ⟨_, rfl⟩
  obtain ⟨j3, h3⟩ : ∃ j, k % 3 = j := ⟨_, rfl⟩
  have t7 : (k : Int) % 7 = (j7 : Int) := by omega
  have t4 : (k : Int) % 4 = (j4 : Int) := by omega
  have t3 : (k : Int) % 3 = (j3 : Int) := by omega
  have b7 : j7 < 7 := by omega
  have b4 : j4 < 4 := by omega
  have b3 : j3 < 3 := by omega
  clear h7 h4 h3
  obtain ⟨m, hm, hm1, hm2⟩ := near_at b7
  obtain ⟨K, hK, hK1⟩ := kind_at b4
  go_enter Tryd.func10, Tryd.ntmps10
  go_upto_region 2 with (fail)
  have B1 : Blk (w.alloc (.cells nearL.toArray 3)) w.heap.size 3 nearL.toArray := Blk.new w 3 nearL.toArray
  obtain ⟨W1, hW1⟩ : ∃ W1, W1 = w.alloc (.cells #[.int .i64 (-1), .int .i64 0, .int .i64 1, .int .i64 9, .int .i64 10, .int .i64 2147483647, .int .i64 2147483648] 3) := ⟨_, rfl⟩
  have hb1 : Below w.heap.size w W1 := by rw [hW1]; exact below_new _ _
  have c1 : W1.cell? ⟨w.heap.size, j7, none⟩ = some (.int .i64 m) := by rw [hW1]; exact (B1.cell j7).trans (by simpa using hm)
  rw [← hW1]
  clear hW1 B1 hm
  have HB1 := Lib.hid hb1
  clear hb1
  go_upto_region 3 with (fail)
  have c2 : (W1.alloc (.cells #[.string { data := #[80] }, .string { data := #[68] }, .string { data := #[77] }, .string { data := #[88] }] 9)).cell? ⟨W1.heap.size, j4, none⟩ = some (.string K) := ((Blk.new W1 9 kindL.toArray).cell j4).trans (by simpa using hK)
  go_upto_region 4 with (fail)
  clear c1 c2 hK
  obtain ⟨U0, hU0, z0⟩ : ∃ U : ByteArray, (#[.string { data := #[80, 49] }, .string { data := #[68, 57] }, .string { data := #[77, 50, 49, 52, 55, 52, 56, 51, 54, 52, 55] }, .string { data := #[80, 50, 49, 52, 55, 52, 56, 51, 54, 52, 56] }] : Array Value)[j4]? = some (.string U) ∧ U.size ≤ 20 := four_at b4
  obtain ⟨U1, hU1, z1⟩ : ∃ U : ByteArray, (#[.string { data := #[] }, .string { data := #[48] }, .string { data := #[120] }] : Array Value)[j3]? = some (.string U) ∧ U.size ≤ 20 := three_at b3
  obtain ⟨W2, hW2⟩ : ∃ W2, W2 = W1.alloc (.cells #[.string { data := #[80] }, .string { data := #[68] }, .string { data := #[77] }, .string { data := #[88] }] 9) := ⟨_, rfl⟩
  have HB2 := Lib.hid (show Below w.heap.size w W2 by rw [hW2]; exact bst HB1.out (below_new _ _))
  rw [← hW2, t7, t4]
  have m4 : (k : Int).tmod 4 = (j4 : Int) := by rw [Int.tmod_eq_emod_of_nonneg (by omega)]; exact t4
  have m3 : (k : Int).tmod 3 = (j3 : Int) := by rw [Int.tmod_eq_emod_of_nonneg (by omega)]; exact t3
  have i4 : (j4 : Int) < 4 := by omega
  have i3 : (j3 : Int) < 3 := by omega
  have zc : ¬9223372036854775807 < U0.size + U1.size := by omega
  clear hW2 t7 t4 t3
  refine wp_region_inv (by kernel_rfl) (by kernel_rfl) (fun L a w' => ∃ u12 u26 u27 u28 u29 u30 u31 u32 u33 u34 u35 u36 : Value,
      a = ⟨#[.int .i64 n, .string s, .int .u8 ↑k, .string tail, undef, undef, undef, undef, .bool false, .slice (some ⟨w.heap.size, 0, none⟩) 7 7, .int .i64 m, .string (K ++ tail), u12, .slice (some ⟨w.heap.size, 0, none⟩) 7 7, .slice (some ⟨w.heap.size, 0, none⟩) 7 7, .int .u8 ↑k, .int .u8 ↑j7, .pointer (some ⟨w.heap.size, j7, none⟩), .int .i64 m, .slice (some ⟨W1.heap.size, 0, none⟩) 4 4, .int .u8 ↑k, .int .u8 ↑j4, .pointer (some ⟨W1.heap.size, j4, none⟩), .string K, .string tail, .string (K ++ tail), u26, u27, u28, u29, u30, u31, u32, u33, u34, u35, u36, undef, undef, undef, undef, undef, undef, undef, undef, undef, undef, undef, undef, undef, undef, undef, undef, undef, undef, undef, undef, undef, undef, undef, undef, undef, undef, undef, undef, undef, undef, undef, undef, undef, undef, undef, undef, undef, undef, undef, undef, undef, undef, undef, undef, undef, undef, undef, undef, undef, undef, undef, undef, undef, undef, undef, undef, undef, undef, undef, undef, undef, undef, undef, undef], []⟩ ∧
      Below W2.heap.size W2 w' ∧
      GotRow (L 0) W2.heap.size u26 4 9 #[.string { data := #[80, 49] }, .string { data := #[68, 57] }, .string { data := #[77, 50, 49, 52, 55, 52, 56, 51, 54, 52, 55] }, .string { data := #[80, 50, 49, 52, 55, 52, 56, 51, 54, 52, 56] }] w' ∧ Got (L 1) u27 (.int .u8 k) ∧ Got (L 2) u28 (.int .u8 (j4 : Int)) ∧ GotPtr (L 3) W2.heap.size u29 j4 9 #[.string { data := #[80, 49] }, .string { data := #[68, 57] }, .string { data := #[77, 50, 49, 52, 55, 52, 56, 51, 54, 52, 55] }, .string { data := #[80, 50, 49, 52, 55, 52, 56, 51, 54, 52, 56] }] w' ∧ Got (L 4) u30 (.string U0) ∧ GotRow (L 5) W2.heap.size u31 3 9 #[.string { data := #[] }, .string { data := #[48] }, .string { data := #[120] }] w' ∧ Got (L 6) u32 (.int .u8 k) ∧ Got (L 7) u33 (.int .u8 (j3 : Int)) ∧ GotPtr (L 8) W2.heap.size u34 j3 9 #[.string { data := #[] }, .string { data := #[48] }, .string { data := #[120] }] w' ∧ Got (L 9) u35 (.string U1) ∧ Got (L 10) u36 (.string (U0 ++ U1)) ∧ Got (L 11) u12 (.string (U0 ++ U1)))
    ?_ ?_ ?_
  · exact ⟨undef, undef, undef, undef, undef, undef, undef, undef, undef, undef, undef, undef, rfl, (Below.refl _ _).drew, nofun, nofun, nofun, nofun, nofun, nofun, nofun, nofun, nofun, nofun, nofun, nofun⟩
  · refine ⟨?_, ?_, ?_, ?_, ?_, ?_, ?_, ?_, ?_, ?_, ?_, ?_, trivial⟩
    · rintro L a w' ⟨u12, u26, u27, u28, u29, u30, u31, u32, u33, u34, u35, u36, rfl, hb, g0, g1, g2, g3, g4, g5, g6, g7, g8, g9, g10, g11⟩ hl hd K hK
      dsimp only at hK ⊢
      go_simp
      exact hK _ _ ⟨_, _, _, _, _, _, _, _, _, _, _, _, rfl, hb.alloc hb.size _, fun _ => ⟨_, rfl, hb.size, Blk.new _ _ _⟩, g1, g2, g3.below (below_new _ _), g4, g5.below (below_new _ _), g6, g7, g8.below (below_new _ _), g9, g10, g11⟩
    · rintro L a w' ⟨u12, u26, u27, u28, u29, u30, u31, u32, u33, u34, u35, u36, rfl, hb, g0, g1, g2, g3, g4, g5, g6, g7, g8, g9, g10, g11⟩ hl hd K hK
      dsimp only at hK ⊢
      go_simp
      exact hK _ _ ⟨_, _, _, _, _, _, _, _, _, _, _, _, rfl, hb, g0, fun _ => rfl, g2, g3, g4, g5, g6, g7, g8, g9, g10, g11⟩
    · rintro L a w' ⟨u12, u26, u27, u28, u29, u30, u31, u32, u33, u34, u35, u36, rfl, hb, g0, g1, g2, g3, g4, g5, g6, g7, g8, g9, g10, g11⟩ hl hd K hK
      simp [Region.binds] at hd
      dsimp only at hK ⊢
      have e1 := g1 (by simp [hd])
      subst e1
      go_simp
      exact hK _ _ ⟨_, _, _, _, _, _, _, _, _, _, _, _, rfl, hb, g0, g1, fun _ => rfl, g3, g4, g5, g6, g7, g8, g9, g10, g11⟩
    · rintro L a w' ⟨u12, u26, u27, u28, u29, u30, u31, u32, u33, u34, u35, u36, rfl, hb, g0, g1, g2, g3, g4, g5, g6, g7, g8, g9, g10, g11⟩ hl hd K hK
      simp [Region.binds] at hd
      dsimp only at hK ⊢
      obtain ⟨A0, e0, hN0, hB0⟩ := g0 (by simp [hd])
      subst e0
      have e2 := g2 (by simp [hd])
      subst e2
      go_simp
      exact hK _ _ ⟨_, _, _, _, _, _, _, _, _, _, _, _, rfl, hb, g0, g1, g2, fun _ => ⟨_, rfl, hN0, hB0⟩, g4, g5, g6, g7, g8, g9, g10, g11⟩
    · rintro L a w' ⟨u12, u26, u27, u28, u29, u30, u31, u32, u33, u34, u35, u36, rfl, hb, g0, g1, g2, g3, g4, g5, g6, g7, g8, g9, g10, g11⟩ hl hd K hK
      simp [Region.binds] at hd
      dsimp only at hK ⊢
      obtain ⟨A3, e3, hN3, hB3⟩ := g3 (by simp [hd])
      subst e3
      have c3 : w'.cell? ⟨A3, j4, none⟩ = some (.string U0) := (hB3.cell j4).trans hU0
      go_simp
      exact hK _ _ ⟨_, _, _, _, _, _, _, _, _, _, _, _, rfl, hb, g0, g1, g2, g3, fun _ => rfl, g5, g6, g7, g8, g9, g10, g11⟩
    · rintro L a w' ⟨u12, u26, u27, u28, u29, u30, u31, u32, u33, u34, u35, u36, rfl, hb, g0, g1, g2, g3, g4, g5, g6, g7, g8, g9, g10, g11⟩ hl hd K hK
      dsimp only at hK ⊢
      go_simp
      exact hK _ _ ⟨_, _, _, _, _, _, _, _, _, _, _, _, rfl, hb.alloc hb.size _, g0.below (below_new _ _), g1, g2, g3.below (below_new _ _), g4, fun _ => ⟨_, rfl, hb.size, Blk.new _ _ _⟩, g6, g7, g8.below (below_new _ _), g9, g10, g11⟩
    · rintro L a w' ⟨u12, u26, u27, u28, u29, u30, u31, u32, u33, u34, u35, u36, rfl, hb, g0, g1, g2, g3, g4, g5, g6, g7, g8, g9, g10, g11⟩ hl hd K hK
      dsimp only at hK ⊢
      go_simp
      exact hK _ _ ⟨_, _, _, _, _, _, _, _, _, _, _, _, rfl, hb, g0, g1, g2, g3, g4, g5, fun _ => rfl, g7, g8, g9, g10, g11⟩
    · rintro L a w' ⟨u12, u26, u27, u28, u29, u30, u31, u32, u33, u34, u35, u36, rfl, hb, g0, g1, g2, g3, g4, g5, g6, g7, g8, g9, g10, g11⟩ hl hd K hK
      simp [Region.binds] at hd
      dsimp only at hK ⊢
      have e6 := g6 (by simp [hd])
      subst e6
      go_simp
      exact hK _ _ ⟨_, _, _, _, _, _, _, _, _, _, _, _, rfl, hb, g0, g1, g2, g3, g4, g5, g6, fun _ => rfl, g8, g9, g10, g11⟩
    · rintro L a w' ⟨u12, u26, u27, u28, u29, u30, u31, u32, u33, u34, u35, u36, rfl, hb, g0, g1, g2, g3, g4, g5, g6, g7, g8, g9, g10, g11⟩ hl hd K hK
      simp [Region.binds] at hd
      dsimp only at hK ⊢
      obtain ⟨A5, e5, hN5, hB5⟩ := g5 (by simp [hd])
      subst e5
      have e7 := g7 (by simp [hd])
      subst e7
      go_simp
      exact hK _ _ ⟨_, _, _, _, _, _, _, _, _, _, _, _, rfl, hb, g0, g1, g2, g3, g4, g5, g6, g7, fun _ => ⟨_, rfl, hN5, hB5⟩, g9, g10, g11⟩
    · rintro L a w' ⟨u12, u26, u27, u28, u29, u30, u31, u32, u33, u34, u35, u36, rfl, hb, g0, g1, g2, g3, g4, g5, g6, g7, g8, g9, g10, g11⟩ hl hd K hK
      simp [Region.binds] at hd
      dsimp only at hK ⊢
      obtain ⟨A8, e8, hN8, hB8⟩ := g8 (by simp [hd])
      subst e8
      have c8 : w'.cell? ⟨A8, j3, none⟩ = some (.string U1) := (hB8.cell j3).trans hU1
      go_simp
      exact hK _ _ ⟨_, _, _, _, _, _, _, _, _, _, _, _, rfl, hb, g0, g1, g2, g3, g4, g5, g6, g7, g8, fun _ => rfl, g10, g11⟩
    · rintro L a w' ⟨u12, u26, u27, u28, u29, u30, u31, u32, u33, u34, u35, u36, rfl, hb, g0, g1, g2, g3, g4, g5, g6, g7, g8, g9, g10, g11⟩ hl hd K hK
      simp [Region.binds] at hd
      dsimp only at hK ⊢
      have e4 := g4 (by simp [hd])
      subst e4
      have e9 := g9 (by simp [hd])
      subst e9
      go_simp
      exact hK _ _ ⟨_, _, _, _, _, _, _, _, _, _, _, _, rfl, hb, g0, g1, g2, g3, g4, g5, g6, g7, g8, g9, fun _ => rfl, g11⟩
    · rintro L a w' ⟨u12, u26, u27, u28, u29, u30, u31, u32, u33, u34, u35, u36, rfl, hb, g0, g1, g2, g3, g4, g5, g6, g7, g8, g9, g10, g11⟩ hl hd K hK
      simp [Region.binds] at hd
      dsimp only at hK ⊢
      have e10 := g10 (by simp [hd])
      subst e10
      go_simp
      exact hK _ _ ⟨_, _, _, _, _, _, _, _, _, _, _, _, rfl, hb, g0, g1, g2, g3, g4, g5, g6, g7, g8, g9, g10, fun _ => rfl⟩
  · rintro a w2 ⟨u12, u26, u27, u28, u29, u30, u31, u32, u33, u34, u35, u36, rfl, hb, g0, g1, g2, g3, g4, g5, g6, g7, g8, g9, g10, g11⟩
    obtain ⟨A0, e, hN0, hB0⟩ := g0 rfl
    subst e
    clear g0
    have e := g1 rfl
    subst e
    clear g1
    have e := g2 rfl
    subst e
    clear g2
    obtain ⟨A3, e, hN3, hB3⟩ := g3 rfl
    subst e
    clear g3
    have e := g4 rfl
    subst e
    clear g4
    obtain ⟨A5, e, hN5, hB5⟩ := g5 rfl
    subst e
    clear g5
    have e := g6 rfl
    subst e
    clear g6
    have e := g7 rfl
    subst e
    clear g7
    obtain ⟨A8, e, hN8, hB8⟩ := g8 rfl
    subst e
    clear g8
    have e := g9 rfl
    subst e
    clear g9
    have e := g10 rfl
    subst e
    clear g10
    have e := g11 rfl
    subst e
    clear g11
    clear hN0 hB0 hN3 hB3 hN5 hB5 hN8 hB8 hU0 hU1 m4 m3 i4 i3 zc b7 b4 b3
    have HB3 := Lib.hid (bst HB2.out hb)
    have HE := Lib.hid (HE0.out.below HB3.out)
    clear hb HB1 HB2
    dsimp only
    have hx : (K ++ tail).size ≤ 140737488355000 := by rw [ByteArray.size_append]; omega
    have hy : (U0 ++ U1).size ≤ 40 := by rw [ByteArray.size_append]; omega
    obtain ⟨X, hX⟩ : ∃ X, X = K ++ tail := ⟨_, rfl⟩
    obtain ⟨Y, hY⟩ : ∃ Y, Y = U0 ++ U1 := ⟨_, rfl⟩
    rw [← hX] at hx ⊢
    rw [← hY] at hy ⊢
    clear hX hY hK1 z0 z1 ht
    have HA := Lib.hid (fun X h => awake32_any X h)
    obtain ⟨Sa80, hS, CS⟩ := retSB_ex (nameL 80 n)
    have Fa80 := Lib.hid (fun X (h : Env X) => CS _ _ _ _ (part_any n X h.tab))
    have Ra80 := Lib.hid (fun X => retS_of hS (rpart_any n X))
    clear hS CS
    obtain ⟨Sa68, hS, CS⟩ := retSB_ex (nameL 68 n)
    have Fa68 := Lib.hid (fun X (h : Env X) => CS _ _ _ _ (del_any n X h.tab))
    have Ra68 := Lib.hid (fun X => retS_of hS (rdel_any n X))
    clear hS CS
    obtain ⟨Sa77, hS, CS⟩ := retSB_ex (nameL 77 n)
    have Fa77 := Lib.hid (fun X (h : Env X) => CS _ _ _ _ (log_any n X h.tab))
    have Ra77 := Lib.hid (fun X => retS_of hS (rlog_any n X))
    clear hS CS
    obtain ⟨Sb80, hS, CS⟩ := retSB_ex (nameL 80 m)
    have Fb80 := Lib.hid (fun X (h : Env X) => CS _ _ _ _ (part_any m X h.tab))
    have Rb80 := Lib.hid (fun X => retS_of hS (rpart_any m X))
    clear hS CS
    obtain ⟨Sb68, hS, CS⟩ := retSB_ex (nameL 68 m)
    have Fb68 := Lib.hid (fun X (h : Env X) => CS _ _ _ _ (del_any m X h.tab))
    have Rb68 := Lib.hid (fun X => retS_of hS (rdel_any m X))
    clear hS CS
    obtain ⟨Sb77, hS, CS⟩ := retSB_ex (nameL 77 m)
    have Fb77 := Lib.hid (fun X (h : Env X) => CS _ _ _ _ (log_any m X h.tab))
    have Rb77 := Lib.hid (fun X => retS_of hS (rlog_any m X))
    clear hS CS
    obtain ⟨vp, hv⟩ : ∃ v, numR s.data.toList = v := ⟨_, rfl⟩
    have Fp := Lib.hid (fun V (h : Env V) => retNB_at (v := vp) (gnumber_any s V (by omega) h) ((num_eq _).trans hv))
    have Rp := Lib.hid (fun V => retN0_at (v := vp) (rnumber_any27 s V (by omega)) hv)
    clear hv
    obtain ⟨vq, hv⟩ : ∃ v, numR X.data.toList = v := ⟨_, rfl⟩
    have Fq := Lib.hid (fun V (h : Env V) => retNB_at (v := vq) (gnumber_any X V (by omega) h) ((num_eq _).trans hv))
    have Rq := Lib.hid (fun V => retN0_at (v := vq) (rnumber_any27 X V (by omega)) hv)
    clear hv
    obtain ⟨vr, hv⟩ : ∃ v, numR Y.data.toList = v := ⟨_, rfl⟩
    have Fr := Lib.hid (fun V (h : Env V) => retNB_at (v := vr) (gnumber_any Y V (by omega) h) ((num_eq _).trans hv))
    have Rr := Lib.hid (fun V => retN0_at (v := vr) (rnumber_any27 Y V (by omega)) hv)
    clear hv
    clear hn hm1 hm2 hs hx hy hk
    go_wp2_with fail
    refine (HA.out _ HE.out).mono ?_
    rintro _ v ⟨rfl, hb⟩
    replace HB3 := Lib.hid (bst HB3.out hb)
    replace HE := Lib.hid (HE.out.below hb)
    clear hb
    go_wp2_with fail
    refine (Fa80.out _ HE.out).mono ?_
    rintro _ v ⟨rfl, hb⟩
    replace HB3 := Lib.hid (bst HB3.out hb)
    replace HE := Lib.hid (HE.out.below hb)
    clear hb
    go_wp2_with fail
    refine (Ra80.out _).mono ?_
    rintro _ _ ⟨rfl, rfl⟩
    go_wp2_with fail
    refine (Fa68.out _ HE.out).mono ?_
    rintro _ v ⟨rfl, hb⟩
    replace HB3 := Lib.hid (bst HB3.out hb)
    replace HE := Lib.hid (HE.out.below hb)
    clear hb
    go_wp2_with fail
    refine (Ra68.out _).mono ?_
    rintro _ _ ⟨rfl, rfl⟩
    go_wp2_with fail
    refine (Fa77.out _ HE.out).mono ?_
    rintro _ v ⟨rfl, hb⟩
    replace HB3 := Lib.hid (bst HB3.out hb)
    replace HE := Lib.hid (HE.out.below hb)
    clear hb
    go_wp2_with fail
    refine (Ra77.out _).mono ?_
    rintro _ _ ⟨rfl, rfl⟩
    go_wp2_with fail
    refine (Fb80.out _ HE.out).mono ?_
    rintro _ v ⟨rfl, hb⟩
    replace HB3 := Lib.hid (bst HB3.out hb)
    replace HE := Lib.hid (HE.out.below hb)
    clear hb
    go_wp2_with fail
    refine (Rb80.out _).mono ?_
    rintro _ _ ⟨rfl, rfl⟩
    go_wp2_with fail
    refine (Fb68.out _ HE.out).mono ?_
    rintro _ v ⟨rfl, hb⟩
    replace HB3 := Lib.hid (bst HB3.out hb)
    replace HE := Lib.hid (HE.out.below hb)
    clear hb
    go_wp2_with fail
    refine (Rb68.out _).mono ?_
    rintro _ _ ⟨rfl, rfl⟩
    go_wp2_with fail
    refine (Fb77.out _ HE.out).mono ?_
    rintro _ v ⟨rfl, hb⟩
    replace HB3 := Lib.hid (bst HB3.out hb)
    replace HE := Lib.hid (HE.out.below hb)
    clear hb
    go_wp2_with fail
    refine (Rb77.out _).mono ?_
    rintro _ _ ⟨rfl, rfl⟩
    go_wp2_with fail
    refine (Fp.out _ HE.out).mono ?_
    rintro _ v ⟨rfl, hb⟩
    replace HB3 := Lib.hid (bst HB3.out hb)
    replace HE := Lib.hid (HE.out.below hb)
    clear hb
    go_wp2_with fail
    refine (Rp.out _).mono ?_
    rintro _ _ ⟨rfl, rfl⟩
    go_wp2_with fail
    refine (Fq.out _ HE.out).mono ?_
    rintro _ v ⟨rfl, hb⟩
    replace HB3 := Lib.hid (bst HB3.out hb)
    replace HE := Lib.hid (HE.out.below hb)
    clear hb
    go_wp2_with fail
    refine (Rq.out _).mono ?_
    rintro _ _ ⟨rfl, rfl⟩
    go_wp2_with fail
    refine (Fr.out _ HE.out).mono ?_
    rintro _ v ⟨rfl, hb⟩
    replace HB3 := Lib.hid (bst HB3.out hb)
    replace HE := Lib.hid (HE.out.below hb)
    clear hb
    go_wp2_with fail
    refine (Rr.out _).mono ?_
    rintro _ _ ⟨rfl, rfl⟩
    go_wp2
    go_ret
    exact ⟨by simp, HB3.out⟩
end Go.Proofs.YtlchfaakmgclcaaDoor
