/-
  The walk of the law DecimalParses.
-/
import Derived.Test.YtllijchdcminhaaDoorLawDec
import Derived.Test.YtllijchdcminhaaDoorRDecParse
import Derived.Test.YtllijchdcminhaaDoorLL
namespace Go.Proofs.YtllijchdcminhaaDoor
open Go.RowKit
set_option linter.unusedVariables false
theorem app_size2 {u v : ByteArray} {k : Nat} (h : u.size ≤ 2 * k) (hv : v.size ≤ 2) : (u ++ v).size ≤ 2 * (k + 1) := by
  rw [ByteArray.size_append]; omega
theorem retRb_ex (s : ByteArray) (k : Int) : ∃ x f : Int, ∀ {P : Program} {g : FuncId} {args : Array Value} {w : World}, Calls P g args w (RetRb w (decP s.data.toList k)) → Calls P g args w fun e w' => e = .returned (.tuple #[.int .i64 x, .int .i64 f]) ∧ Below w.heap.size w w' :=
  ⟨(decP s.data.toList k).1, (decP s.data.toList k).2, fun h => h⟩
set_option maxRecDepth 100000 in
set_option maxHeartbeats 4000000 in
theorem decimalParses_walk (s : ByteArray) (v : Value) (zs : List Int) (a : Int) (w : World) (ht : Env w) (hss : s.size ≤ 140737488351232) (hs : Sl w 1 v zs.length (ints8 zs)) (hz : ∀ n ∈ zs, (Lit.int .u8 n).wf = true) :
    Calls Tryd.prog 3 #[.string s, v, .int .i64 a] w (RetB1' w true) := by
  obtain ⟨A, c, rfl, hc1, hc2⟩ := hs.form
  unfold maxLen at hc2
  have HZ := Lib.hid hz
  have S1 := Lib.hid (fun X => scale_any a X)
  obtain ⟨x, hx⟩ : ∃ x, pick a 21 - 1 = x := ⟨_, rfl⟩
  rw [hx] at S1
  have HT := Lib.hid ht
  obtain ⟨x1, f1, C1⟩ := retRb_ex s x
  have F1 := Lib.hid (fun X (h : Env X) => C1 (decpar_any s x X h hss))
  have F2 := Lib.hid (fun X => C1 (rdecpar_any s x X hss))
  clear hz hx ht C1
  go_enter Tryd.func3, Tryd.ntmps3
  go_wp2
  go_loopw [7, 8] (fun t i wr => ∃ (k : Nat) (u : ByteArray), k ≤ zs.length ∧ k ≤ 24 ∧ i = .int .i64 k ∧ t = .string u ∧ u.size ≤ 2 * k ∧ Below w.heap.size w wr) (fun _ i _ => 24 - (intOf i).toNat)
  case atStart => exact ⟨0, ⟨#[]⟩, by omega, by omega, rfl, rfl, Nat.le_refl 0, Below.refl _ _⟩
  case round =>
    obtain ⟨k, u, hk, hk24, rfl, rfl, hu, hbel⟩ := hrel
    by_cases hlt : k < zs.length ∧ k < 24
    · obtain ⟨hlt, hlt2⟩ := hlt
      obtain ⟨ad, y, rfl, hy, hcx⟩ := (hs.below hbel).int8_at hlt
      have hw := HZ.out y (List.mem_of_getElem? hy)
      have hx0 : 0 ≤ y := by simp [Lit.wf, IntKind.min, IntKind.max, IntKind.signed, IntKind.bits] at hw; omega
      have hx1 : y ≤ 255 := by simp [Lit.wf, IntKind.min, IntKind.max, IntKind.signed, IntKind.bits] at hw; omega
      have hca := fun o => cell_alloc hcx o
      clear hy hw hcx
      have h8 : y % 8 = 0 ∨ y % 8 = 1 ∨ y % 8 = 2 ∨ y % 8 = 3 ∨ y % 8 = 4 ∨ y % 8 = 5 ∨ y % 8 = 6 ∨ y % 8 = 7 := by omega
      rcases h8 with h8 | h8 | h8 | h8 | h8 | h8 | h8 | h8
      all_goals
        go_wp2
        go_roundw
        case rel => exact ⟨k + 1, _, by omega, by omega, by go_num, rfl, app_size2 hu (by decide), hbel.alloc hbel.size _⟩
        case measure => simp [intOf]; omega
    · have hus : u.size ≤ 140737488351232 := by omega
      obtain ⟨x2, f2, C2⟩ := retRb_ex u x
      have F3 := Lib.hid (fun X (h : Env X) => C2 (decpar_any u x X h hus))
      have F4 := Lib.hid (fun X => C2 (rdecpar_any u x X hus))
      have HT0 := Lib.hid (HT.out.below hbel)
      have HB0 := Lib.hid hbel
      have hor : ¬k < zs.length ∨ (k < zs.length ∧ ¬k < 24) := by omega
      clear C2 hlt hbel hu
      rcases hor with h | ⟨h, h'⟩
      all_goals
        go_wp2_with (first
          | (with_reducible refine (S1.out _).mono ?_; rintro _ _ ⟨rfl, rfl⟩))
        refine (F1.out _ HT0.out).mono ?_
        rintro _ w1 ⟨rfl, hb1⟩
        have HT1 := Lib.hid (HT0.out.below hb1)
        have HB1 := Lib.hid (bst HB0.out hb1)
        clear hb1
        go_wp2_with (first
          | (with_reducible refine (S1.out _).mono ?_; rintro _ _ ⟨rfl, rfl⟩))
        refine (F2.out _).mono ?_
        rintro _ w2 ⟨rfl, hb2⟩
        have HT2 := Lib.hid (HT1.out.below hb2)
        have HB2 := Lib.hid (bst HB1.out hb2)
        clear hb2
        go_wp2_with (first
          | (with_reducible refine (S1.out _).mono ?_; rintro _ _ ⟨rfl, rfl⟩))
        refine (F3.out _ HT2.out).mono ?_
        rintro _ w3 ⟨rfl, hb3⟩
        have HT3 := Lib.hid (HT2.out.below hb3)
        have HB3 := Lib.hid (bst HB2.out hb3)
        clear hb3
        go_wp2_with (first
          | (with_reducible refine (S1.out _).mono ?_; rintro _ _ ⟨rfl, rfl⟩))
        refine (F4.out _).mono ?_
        rintro _ w4 ⟨rfl, hb4⟩
        have HT4 := Lib.hid (HT3.out.below hb4)
        have HB4 := Lib.hid (bst HB3.out hb4)
        clear hb4
        go_wp2_with fail
        refine (awake5_any _ HT4.out.tab).mono ?_
        rintro _ w5 ⟨rfl, hb5⟩
        have HB5 := Lib.hid (bst HB4.out hb5)
        clear hb5
        go_wp2
        go_ret
        exact ⟨by simp, HB5.out⟩
end Go.Proofs.YtllijchdcminhaaDoor
