/-
  The walk of the law DecimalFormats.
-/
import Derived.Test.YtlchfaakmgclcaaDoorRDecFmt
import Derived.Test.YtlchfaakmgclcaaDoorLDecimalRescaleBack
namespace Go.Proofs.YtlchfaakmgclcaaDoor
open Go.RowKit
theorem retDec_ex (n k : Int) : ∃ (B : ByteArray) (b : Int), ∀ (P : Program) (f : FuncId) (args : Array Value) (w : World), Calls P f args w (RetDec w (decV n k)) → Calls P f args w fun e w' => e = .returned (.tuple #[.string B, .int .i64 b]) ∧ Below w.heap.size w w' :=
  ⟨⟨(decV n k).1.toArray⟩, (decV n k).2, fun _ _ _ _ h => h⟩
set_option maxRecDepth 100000 in
set_option maxHeartbeats 2000000 in
theorem decimalFormats_walk (n s a : Int) (w : World) (ht : Tab w) (_h0 : -9223372036854775808 ≤ n) (_h1 : n ≤ 9223372036854775807) (s0 : 0 ≤ s) (s1 : s ≤ 255) :
    Calls Tryd.prog 6 #[.int .i64 n, .int .u8 s, .int .i64 a] w (RetB1' w true) := by
  have S1 := Lib.hid (fun X => scale_any a X)
  obtain ⟨x, hx⟩ : ∃ x, pick a 21 - 1 = x := ⟨_, rfl⟩
  rw [hx] at S1
  clear hx
  have HT0 := Lib.hid ht
  clear ht
  obtain ⟨B1, b1, C1⟩ := retDec_ex (n / 2 ^ (s % 64).toNat) x
  obtain ⟨B2, b2, C2⟩ := retDec_ex (n / 2 ^ (s % 64).toNat) a
  have F1 := Lib.hid (fun X (h : Tab X) => C1 _ _ _ _ (decfmt_any (n / 2 ^ (s % 64).toNat) x X h))
  have F2 := Lib.hid (fun X => C1 _ _ _ _ (rdecfmt_any (n / 2 ^ (s % 64).toNat) x X))
  have F3 := Lib.hid (fun X (h : Tab X) => C2 _ _ _ _ (decfmt_any (n / 2 ^ (s % 64).toNat) a X h))
  have F4 := Lib.hid (fun X => C2 _ _ _ _ (rdecfmt_any (n / 2 ^ (s % 64).toNat) a X))
  clear C1 C2
  go_enter Tryd.func6, Tryd.ntmps6
  go_wp2_with (first
    | (with_reducible refine (S1.out _).mono ?_; rintro _ _ ⟨rfl, rfl⟩))
  refine (F1.out _ HT0.out).mono ?_
  rintro _ w1 ⟨rfl, hb1⟩
  have HT1 := Lib.hid (HT0.out.below hb1)
  have HB1 := Lib.hid hb1
  clear hb1 F1
  go_wp2_with (first
    | (with_reducible refine (S1.out _).mono ?_; rintro _ _ ⟨rfl, rfl⟩))
  refine (F2.out _).mono ?_
  rintro _ w2 ⟨rfl, hb2⟩
  have HT2 := Lib.hid (HT1.out.below hb2)
  have HB2 := Lib.hid (bst HB1.out hb2)
  clear hb2 F2
  go_wp2_with fail
  refine (F3.out _ HT2.out).mono ?_
  rintro _ w3 ⟨rfl, hb3⟩
  have HT3 := Lib.hid (HT2.out.below hb3)
  have HB3 := Lib.hid (bst HB2.out hb3)
  clear hb3 F3
  go_wp2_with fail
  refine (F4.out _).mono ?_
  rintro _ w4 ⟨rfl, hb4⟩
  have HT4 := Lib.hid (HT3.out.below hb4)
  have HB4 := Lib.hid (bst HB3.out hb4)
  clear hb4 F4
  go_wp2_with fail
  refine (awake5_any _ HT4.out).mono ?_
  rintro _ w5 ⟨rfl, hb5⟩
  have HB5 := Lib.hid (bst HB4.out hb5)
  clear hb5
  go_wp2
  go_ret
  exact ⟨by simp, HB5.out⟩
end Go.Proofs.YtlchfaakmgclcaaDoor
