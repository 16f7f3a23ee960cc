/-
  The walk of the law SchemaParses.
-/
import Derived.Test.YtojfhlppiicpbaaDoorSParses
import Derived.Test.YtojfhlppiicpbaaDoorLSchemaExamples
import Derived.Test.YtojfhlppiicpbaaDoorLL
namespace Go.Proofs.YtojfhlppiicpbaaDoor
open Go.RowKit Go.Sort
set_option linter.unusedVariables false
theorem app_size7 {u v : ByteArray} {k : Nat} (h : u.size ≤ 7 * k) (hv : v.size ≤ 7) : (u ++ v).size ≤ 7 * (k + 1) := by
  rw [ByteArray.size_append]; omega
theorem ex_app {u : ByteArray} (T : ByteArray) (hT : T.size = 35) (h : u.size ≤ 420) : (T ++ u).size ≤ 140737488351232 ∧ (u ++ T).size ≤ 140737488351232 := by
  rw [ByteArray.size_append, ByteArray.size_append]; omega
set_option maxRecDepth 100000 in
set_option maxHeartbeats 8000000 in
theorem schemaParses_walk (s : ByteArray) (v : Value) (zs : List Int) (w : World) (hE : Env w) (hss : s.size ≤ 140737488351232) (hs : Sl w 1 v zs.length (ints8 zs)) (hz : ∀ n ∈ zs, (Lit.int .u8 n).wf = true) :
    Calls Tryd.prog 3 #[.string s, v] w (RetB w true) := by
  obtain ⟨A, c, rfl, hc1, hc2⟩ := hs.form
  unfold maxLen at hc2
  have HZ := Lib.hid hz
  have HE := Lib.hid hE
  obtain ⟨T, hT⟩ : ∃ T : ByteArray, T = { data := #[105, 100, 32, 105, 110, 116, 10, 112, 114, 105, 99, 101, 32, 100, 101, 99, 105, 109, 97, 108, 32, 50, 32, 110, 117, 108, 108, 10, 107, 101, 121, 32, 105, 100, 10] } := ⟨_, rfl⟩
  have HX := Lib.hid (fun X => example_any X)
  rw [← hT] at HX
  have HTs := Lib.hid (show T.size = 35 by rw [hT]; rfl)
  have F1 := Lib.hid (fun X (h : Env X) => parses_any s X h hss)
  clear hz hE hT
  go_enter Tryd.func3, Tryd.ntmps3
  go_wp2
  go_loopw [5, 6] (fun t i wr => ∃ (k : Nat) (u : ByteArray), k ≤ zs.length ∧ k ≤ 60 ∧ i = .int .i64 k ∧ t = .string u ∧ u.size ≤ 7 * k ∧ Below w.heap.size w wr) (fun _ i _ => 60 - (intOf i).toNat)
  case atStart => exact ⟨0, ⟨#[]⟩, by omega, by omega, rfl, rfl, Nat.le_refl 0, Below.refl _ _⟩
  case round =>
    obtain ⟨k, u, hk, hk24, rfl, rfl, hu, hbel⟩ := hrel
    by_cases hlt : k < zs.length ∧ k < 60
    · obtain ⟨hlt, hlt2⟩ := hlt
      obtain ⟨ad, y, rfl, hy, hcx⟩ := (hs.below hbel).int8_at hlt
      have hw := HZ.out y (List.mem_of_getElem? hy)
      have hx0 : 0 ≤ y := by simp [Lit.wf, IntKind.min, IntKind.max, IntKind.signed, IntKind.bits] at hw; omega
      have hx1 : y ≤ 255 := by simp [Lit.wf, IntKind.min, IntKind.max, IntKind.signed, IntKind.bits] at hw; omega
      have hca := fun o => cell_alloc hcx o
      clear hy hw hcx
      have h8 : y % 18 = 0 ∨ y % 18 = 1 ∨ y % 18 = 2 ∨ y % 18 = 3 ∨ y % 18 = 4 ∨ y % 18 = 5 ∨ y % 18 = 6 ∨ y % 18 = 7 ∨ y % 18 = 8 ∨ y % 18 = 9 ∨ y % 18 = 10 ∨ y % 18 = 11 ∨ y % 18 = 12 ∨ y % 18 = 13 ∨ y % 18 = 14 ∨ y % 18 = 15 ∨ y % 18 = 16 ∨ y % 18 = 17 := by omega
      rcases h8 with h8 | h8 | h8 | h8 | h8 | h8 | h8 | h8 | h8 | h8 | h8 | h8 | h8 | h8 | h8 | h8 | h8 | h8
      all_goals
        go_wp2
        go_roundw
        case rel => exact ⟨k + 1, _, by omega, by omega, by go_num, rfl, app_size7 hu (by decide), hbel.alloc hbel.size _⟩
        case measure => simp [intOf]; omega
    · have hus : u.size ≤ 420 := by omega
      have F2 := Lib.hid (fun X (h : Env X) => parses_any u X h (by omega))
      have F3 := Lib.hid (fun X (h : Env X) => parses_any (T ++ u) X h (ex_app T HTs.out hus).1)
      have F4 := Lib.hid (fun X (h : Env X) => parses_any (u ++ T) X h (ex_app T HTs.out hus).2)
      have m1 : ¬9223372036854775807 < T.size + u.size := by have := HTs.out; omega
      have m2 : ¬9223372036854775807 < u.size + T.size := by have := HTs.out; omega
      have HB := Lib.hid hbel
      have hor : ¬k < zs.length ∨ (k < zs.length ∧ ¬k < 60) := by omega
      clear hlt hbel hu
      rcases hor with h | ⟨h, h'⟩
      all_goals
        go_wp2_with fail
        refine (awake7_any _).mono ?_
        rintro _ y1 ⟨rfl, hq⟩
        replace HB := Lib.hid (bst HB.out hq)
        clear hq
        go_wp2_with fail
        refine (F1.out _ (HE.out.below HB.out)).mono ?_
        rintro _ y2 ⟨rfl, hq⟩
        replace HB := Lib.hid (bst HB.out hq)
        clear hq
        go_wp2_with fail
        refine (F2.out _ (HE.out.below HB.out)).mono ?_
        rintro _ y3 ⟨rfl, hq⟩
        replace HB := Lib.hid (bst HB.out hq)
        clear hq
        go_wp2_with fail
        refine (HX.out _).mono ?_
        rintro _ _ ⟨rfl, rfl⟩
        go_wp2_with fail
        refine (F3.out _ (HE.out.below HB.out)).mono ?_
        rintro _ y4 ⟨rfl, hq⟩
        replace HB := Lib.hid (bst HB.out hq)
        clear hq
        go_wp2_with fail
        refine (HX.out _).mono ?_
        rintro _ _ ⟨rfl, rfl⟩
        go_wp2_with fail
        refine (F4.out _ (HE.out.below HB.out)).mono ?_
        rintro _ y5 ⟨rfl, hq⟩
        replace HB := Lib.hid (bst HB.out hq)
        clear hq
        go_wp2
        go_ret
        exact ⟨by simp, HB.out⟩
end Go.Proofs.YtojfhlppiicpbaaDoor
