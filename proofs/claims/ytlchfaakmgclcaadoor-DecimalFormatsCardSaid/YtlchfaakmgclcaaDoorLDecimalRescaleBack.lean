/-
  The walk of the law DecimalRescaleBack.
-/
import Derived.Test.YtlchfaakmgclcaaDoorLDecimalRescales
import Derived.Test.YtlchfaakmgclcaaDoorDecLaw
namespace Go.Proofs.YtlchfaakmgclcaaDoor
open Go.RowKit
def RetNum (w : World) (e : Ending) (w' : World) : Prop := ∃ m : Int, e = .returned (.int .i64 m) ∧ -999999999999999999 ≤ m ∧ m ≤ 999999999999999999 ∧ w = w'
theorem tmod18 (z : Int) : -999999999999999999 ≤ z.tmod 1000000000000000000 ∧ z.tmod 1000000000000000000 ≤ 999999999999999999 := by
  rcases Int.le_total 0 z with h | h
  · rw [Int.tmod_eq_emod_of_nonneg h]; omega
  · obtain ⟨y, rfl⟩ : ∃ y, z = -y := ⟨-z, by omega⟩
    rw [Int.neg_tmod, Int.tmod_eq_emod_of_nonneg (by omega)]; omega
theorem RetNum.mk_ {w : World} {z m : Int} (h : m = z.tmod 1000000000000000000) : RetNum w (.returned (.int .i64 m)) w := by
  subst h; exact ⟨_, rfl, (tmod18 z).1, (tmod18 z).2, rfl⟩
set_option maxHeartbeats 1000000 in
theorem number_any (n s : Int) (w : World) (s0 : 0 ≤ s) (s1 : s ≤ 255) : Calls Tryd.prog 31 #[.int .i64 n, .int .u8 s] w (RetNum w) := by
  go_enter Tryd.func31, Tryd.ntmps31
  go_wp2
  go_ret
  exact RetNum.mk_ rfl
theorem decV_in {n : Int} {i : Nat} (h0 : -999999999999999999 ≤ n) (h1 : n ≤ 999999999999999999) (hi : i ≤ 18) : decV n i = (decStr (decide (n < 0)) n.natAbs i, 0) := by
  have e : (withB n && scaB (i : Int)) = true := by simp [withB, scaB]; omega
  unfold decV; rw [if_pos e, Int.toNat_natCast]
theorem resc_up {n : Int} {i d : Nat} (h0 : -999999999999999999 ≤ n) (h1 : n ≤ 999999999999999999) (hi : i + d ≤ 18) : rescaleV n i ((i : Int) + d) = outR (upN d n) :=
  rescaleV_up (by simp [withB]; omega) (by simp [scaB]; omega) (by simp [scaB]; omega) (by omega) (k := d) (by omega) rfl
theorem resc_back {n x : Int} {i d : Nat} (h0 : -999999999999999999 ≤ x) (h1 : x ≤ 999999999999999999) (hx : x = n * 10 ^ d) (hi : i + d ≤ 18) : rescaleV x ((i : Int) + d) i = (n, 0) := by
  by_cases hd : d = 0
  · subst hd
    have e := rescaleV_up (n := x) (a := (i : Int) + (0 : Nat)) (b := i) (by simp [withB]; omega) (by simp [scaB]; omega) (by simp [scaB]; omega) (by omega) (k := 0) (by omega) (R := some n) (by simp [upN, hx])
    exact e
  · have e := rescaleV_down (n := x) (a := (i : Int) + d) (b := i) (by simp [withB]; omega) (by simp [scaB]; omega) (by simp [scaB]; omega) (by omega) (k := d) (by omega) (R := some n) (by rw [hx]; exact downN_pow d n)
    exact e
theorem retRs_of {w : World} {r : Int × Int} {a b : Int} (h : r = (a, b)) {P : Program} {f : FuncId} {args : Array Value} (hc : Calls P f args w (RetRs w r)) : Calls P f args w fun e w' => e = .returned (.tuple #[.int .i64 a, .int .i64 b]) ∧ w = w' := by subst h; exact hc
theorem retDec_of {w : World} {r : List UInt8 × Int} {T : ByteArray} {b : Int} (h1 : T.data.toList = r.1) (h2 : r.2 = b) {P : Program} {f : FuncId} {args : Array Value} (hc : Calls P f args w (RetDec w r)) : Calls P f args w fun e w' => e = .returned (.tuple #[.string T, .int .i64 b]) ∧ Below w.heap.size w w' := by
  subst h2; unfold RetDec at hc; rw [← h1] at hc; exact hc
theorem up_text {n x : Int} {d : Nat} (hx : x = n * 10 ^ d) (i : Nat) : decStr (decide (x < 0)) x.natAbs (i + d) = decStr (decide (n < 0)) n.natAbs i ++ (if i = 0 ∧ 0 < d then [46] else []) ++ List.replicate d 48 := by
  have hp : (0 : Int) < 10 ^ d := Int.pow_pos (by decide)
  have e1 : decide (x < 0) = decide (n < 0) := by
    rw [hx]; congr 1; rw [eq_iff_iff]
    constructor
    · intro h
      rcases Int.lt_or_le n 0 with h' | h'
      · exact h'
      · have := Int.mul_nonneg h' (Int.le_of_lt hp); omega
    · intro h; exact Int.mul_neg_of_neg_of_pos h hp
  have e2 : x.natAbs = n.natAbs * 10 ^ d := by rw [hx, Int.natAbs_mul, Int.natAbs_pow]; rfl
  rw [e1, e2]; exact decStr_up _ _ _ _
set_option maxRecDepth 100000 in
set_option maxHeartbeats 1500000 in
theorem decimalRescaleBack_walk (n s a b : Int) (w : World) (ht : Tab w) (s0 : 0 ≤ s) (s1 : s ≤ 255) :
    Calls Tryd.prog 8 #[.int .i64 n, .int .u8 s, .int .i64 a, .int .i64 b] w (RetB1' w true) := by
  have CN := Lib.hid (number_any n s w s0 s1)
  have p1 := pick_lo a 19 (by omega)
  have p2 := pick_hi a 19 (by omega)
  have P1 := Lib.hid (fun X => pick_any a 19 X (by omega) (by omega))
  obtain ⟨i, hi⟩ := Int.eq_ofNat_of_zero_le p1
  rw [hi] at p2 P1
  have p3 := pick_lo b (19 - (i : Int)) (by omega)
  have p4 := pick_hi b (19 - (i : Int)) (by omega)
  have P2 := Lib.hid (fun X => pick_any b (19 - (i : Int)) X (by omega) (by omega))
  obtain ⟨d, hd⟩ := Int.eq_ofNat_of_zero_le p3
  rw [hd] at p4 P2
  have hid : i + d ≤ 18 := by omega
  have HT0 := Lib.hid ht
  clear hi hd p1 p3 ht
  go_enter Tryd.func8, Tryd.ntmps8
  go_wp2_with fail
  refine CN.out.mono ?_
  rintro _ _ ⟨m, rfl, m0, m1, rfl⟩
  go_wp2_with fail
  refine (P1.out _).mono ?_
  rintro _ _ ⟨rfl, rfl⟩
  go_wp2_with fail
  refine (P2.out _).mono ?_
  rintro _ _ ⟨rfl, rfl⟩
  cases hu : upN d m with
  | none =>
    have R1 := Lib.hid (fun X => retRs_of (a := 0) (b := 8) (by rw [resc_up m0 m1 hid, hu]; rfl) (rescale_any m i ((i : Int) + d) X (by omega) (by omega) (by omega) (by omega)))
    clear hu
    go_wp2_with fail
    refine (R1.out _).mono ?_
    rintro _ _ ⟨rfl, rfl⟩
    go_wp2_with fail
    refine (awake5_any _ HT0.out).mono ?_
    rintro _ w5 ⟨rfl, hb5⟩
    have HB5 := Lib.hid hb5
    clear hb5
    go_wp2
    go_ret
    exact ⟨by simp, HB5.out⟩
  | some x =>
    obtain ⟨hx, x0, x1⟩ := upN_some d m x m0 m1 hu
    have R1 := Lib.hid (fun X => retRs_of (a := x) (b := 0) (by rw [resc_up m0 m1 hid, hu]; rfl) (rescale_any m i ((i : Int) + d) X (by omega) (by omega) (by omega) (by omega)))
    clear hu
    have R2 := Lib.hid (fun X => retRs_of (resc_back x0 x1 hx hid) (rescale_any x ((i : Int) + d) i X (by omega) (by omega) (by omega) (by omega)))
    obtain ⟨B, hB⟩ : ∃ B : ByteArray, B.data.toList = decStr (decide (m < 0)) m.natAbs i := ⟨⟨(decStr (decide (m < 0)) m.natAbs i).toArray⟩, by simp⟩
    obtain ⟨T, hT⟩ : ∃ T : ByteArray, T.data.toList = decStr (decide (x < 0)) x.natAbs (i + d) := ⟨⟨(decStr (decide (x < 0)) x.natAbs (i + d)).toArray⟩, by simp⟩
    have F1 := Lib.hid (fun X (h : Tab X) => retDec_of (T := B) (b := 0) (by rw [decV_in m0 m1 (by omega)]; exact hB) (by rw [decV_in m0 m1 (by omega)]) (decfmt_any m i X h))
    have F2 := Lib.hid (fun X (h : Tab X) => retDec_of (T := T) (b := 0) (by rw [show ((i : Int) + d) = ((i + d : Nat) : Int) by omega, decV_in x0 x1 hid]; exact hT) (by rw [show ((i : Int) + d) = ((i + d : Nat) : Int) by omega, decV_in x0 x1 hid]) (decfmt_any x ((i : Int) + d) X h))
    have HX := Lib.hid (show T.data.toList = B.data.toList ++ (if i = 0 ∧ 0 < d then [46] else []) ++ List.replicate d 48 by rw [hT, hB]; exact up_text hx i)
    have hlen : B.size ≤ 70 := by
      rw [← sizeD, hB]
      have := padL_le m.natAbs i (by omega) (by omega)
      unfold decStr
      simp only [List.length_append]
      split <;> split <;> simp <;> omega
    clear hB hT hx
    go_wp2_with fail
    refine (R1.out _).mono ?_
    rintro _ _ ⟨rfl, rfl⟩
    go_wp2_with fail
    refine (R2.out _).mono ?_
    rintro _ _ ⟨rfl, rfl⟩
    go_wp2_with fail
    refine (F1.out _ HT0.out).mono ?_
    rintro _ w3 ⟨rfl, hb3⟩
    have HT3 := Lib.hid (HT0.out.below hb3)
    have HB3 := Lib.hid hb3
    clear hb3 R1 R2 F1 CN P1 P2
    by_cases hi0 : i = 0
    · have t0 : ((i : Int) == 0) = true := by simp; omega
      by_cases hd0 : 0 < d
      · have t1 : decide ((0 : Int) < (i : Int) + d) = true := decide_eq_true (by omega)
        obtain ⟨S0, hS0⟩ : ∃ S0 : ByteArray, S0 = B ++ { data := #[46] } := ⟨_, rfl⟩
        have HS0 := Lib.hid (show S0.data.toList ++ List.replicate d 48 = T.data.toList by rw [HX.out, if_pos ⟨hi0, hd0⟩, hS0]; simp)
        have hz0 : S0.size ≤ 80 := by rw [hS0, ByteArray.size_append]; show B.size + 1 ≤ _; omega
        have HI0 := Lib.hid hi0
        clear hi0
        have HS1 := Lib.hid hS0
        clear hS0
        go_wp2
        have hS0 := HS1.out
        go_loop [14, 16] (fun t k => ∃ (j : Nat) (S : ByteArray), k = .int .i64 ((i : Int) + j) ∧ t = .string S ∧ j ≤ d ∧ S.size ≤ 80 + j ∧ Hid (S.data.toList = S0.data.toList ++ List.replicate j 48)) (fun _ k => ((i : Int) + d - intOf k).toNat)
        case atStart => exact ⟨0, S0, by congr 1 <;> omega, by first | rfl | (rw [hS0]), by omega, by omega, Lib.hid (by simp)⟩
        case round =>
          obtain ⟨j, S, rfl, rfl, hj, hz, hS⟩ := hrel
          by_cases hlt : j < d
          · have HN := Lib.hid (show (S ++ { data := #[48] }).data.toList = S0.data.toList ++ List.replicate (j + 1) 48 by
              rw [ByteArray.data_append, Array.toList_append, hS.out, List.append_assoc, List.replicate_succ'])
            clear hS0
            go_wp2
            go_round
            case rel => exact ⟨j + 1, S ++ { data := #[48] }, by congr 1 <;> omega, rfl, by omega, by rw [ByteArray.size_append]; show S.size + 1 ≤ _; omega, HN⟩
            case measure => simp [intOf]; omega
          · obtain rfl : S = T := strEq (by rw [hS.out, show j = d by omega]; exact HS0.out)
            have hjd : ¬ (j : Int) < d := by omega
            clear hS0 HS0
            go_wp2_with fail
            refine (F2.out _ HT3.out).mono ?_
            rintro _ w4 ⟨rfl, hb4⟩
            have HT4 := Lib.hid (HT3.out.below hb4)
            have HB4 := Lib.hid (bst HB3.out hb4)
            clear hb4
            go_wp2_with fail
            refine (awake5_any _ HT4.out).mono ?_
            rintro _ w5 ⟨rfl, hb5⟩
            have HB5 := Lib.hid (bst HB4.out hb5)
            clear hb5
            go_wp2
            go_ret
            exact ⟨by simp, HB5.out⟩
      · have t1 : decide ((0 : Int) < (i : Int) + d) = false := decide_eq_false (by omega)
        obtain ⟨S0, hS0⟩ : ∃ S0 : ByteArray, S0 = B := ⟨_, rfl⟩
        have HS0 := Lib.hid (show S0.data.toList ++ List.replicate d 48 = T.data.toList by rw [HX.out, if_neg (fun h => hd0 h.2), hS0]; simp)
        have hz0 : S0.size ≤ 80 := by rw [hS0]; omega
        have HI0 := Lib.hid hi0
        clear hi0
        have HS1 := Lib.hid hS0
        clear hS0
        go_wp2
        have hS0 := HS1.out
        go_loop [14, 16] (fun t k => ∃ (j : Nat) (S : ByteArray), k = .int .i64 ((i : Int) + j) ∧ t = .string S ∧ j ≤ d ∧ S.size ≤ 80 + j ∧ Hid (S.data.toList = S0.data.toList ++ List.replicate j 48)) (fun _ k => ((i : Int) + d - intOf k).toNat)
        case atStart => exact ⟨0, S0, by congr 1 <;> omega, by first | rfl | (rw [hS0]), by omega, by omega, Lib.hid (by simp)⟩
        case round =>
          obtain ⟨j, S, rfl, rfl, hj, hz, hS⟩ := hrel
          by_cases hlt : j < d
          · exfalso; omega
          · obtain rfl : S = T := strEq (by rw [hS.out, show j = d by omega]; exact HS0.out)
            have hjd : ¬ (j : Int) < d := by omega
            clear hS0 HS0
            go_wp2_with fail
            refine (F2.out _ HT3.out).mono ?_
            rintro _ w4 ⟨rfl, hb4⟩
            have HT4 := Lib.hid (HT3.out.below hb4)
            have HB4 := Lib.hid (bst HB3.out hb4)
            clear hb4
            go_wp2_with fail
            refine (awake5_any _ HT4.out).mono ?_
            rintro _ w5 ⟨rfl, hb5⟩
            have HB5 := Lib.hid (bst HB4.out hb5)
            clear hb5
            go_wp2
            go_ret
            exact ⟨by simp, HB5.out⟩
    · have t0 : ((i : Int) == 0) = false := by simp; omega
      obtain ⟨S0, hS0⟩ : ∃ S0 : ByteArray, S0 = B := ⟨_, rfl⟩
      have HS0 := Lib.hid (show S0.data.toList ++ List.replicate d 48 = T.data.toList by rw [HX.out, if_neg (fun h => hi0 h.1), hS0]; simp)
      have hz0 : S0.size ≤ 80 := by rw [hS0]; omega
      have HS1 := Lib.hid hS0
      clear hS0
      go_wp2
      have hS0 := HS1.out
      go_loop [14, 16] (fun t k => ∃ (j : Nat) (S : ByteArray), k = .int .i64 ((i : Int) + j) ∧ t = .string S ∧ j ≤ d ∧ S.size ≤ 80 + j ∧ Hid (S.data.toList = S0.data.toList ++ List.replicate j 48)) (fun _ k => ((i : Int) + d - intOf k).toNat)
      case atStart => exact ⟨0, S0, by congr 1 <;> omega, by first | rfl | (rw [hS0]), by omega, by omega, Lib.hid (by simp)⟩
      case round =>
        obtain ⟨j, S, rfl, rfl, hj, hz, hS⟩ := hrel
        by_cases hlt : j < d
        · have HN := Lib.hid (show (S ++ { data := #[48] }).data.toList = S0.data.toList ++ List.replicate (j + 1) 48 by
            rw [ByteArray.data_append, Array.toList_append, hS.out, List.append_assoc, List.replicate_succ'])
          clear hS0
          go_wp2
          go_round
          case rel => exact ⟨j + 1, S ++ { data := #[48] }, by congr 1 <;> omega, rfl, by omega, by rw [ByteArray.size_append]; show S.size + 1 ≤ _; omega, HN⟩
          case measure => simp [intOf]; omega
        · obtain rfl : S = T := strEq (by rw [hS.out, show j = d by omega]; exact HS0.out)
          have hjd : ¬ (j : Int) < d := by omega
          clear hS0 HS0
          go_wp2_with fail
          refine (F2.out _ HT3.out).mono ?_
          rintro _ w4 ⟨rfl, hb4⟩
          have HT4 := Lib.hid (HT3.out.below hb4)
          have HB4 := Lib.hid (bst HB3.out hb4)
          clear hb4
          go_wp2_with fail
          refine (awake5_any _ HT4.out).mono ?_
          rintro _ w5 ⟨rfl, hb5⟩
          have HB5 := Lib.hid (bst HB4.out hb5)
          clear hb5
          go_wp2
          go_ret
          exact ⟨by simp, HB5.out⟩
end Go.Proofs.YtlchfaakmgclcaaDoor
