/-
  The contract of decimal.Rescale.
-/
import Derived.Test.YtllijchdcminhaaDoorProg
import Derived.Test.YtllijchdcminhaaDoorMem
import Derived.IntWalk
namespace Go.Proofs.YtllijchdcminhaaDoor
open Go.RowKit
def upN : Nat → Int → Option Int
  | 0, n => some n
  | k + 1, n => if 99999999999999999 < n ∨ n < -99999999999999999 then none else upN k (n * 10)
def downN : Nat → Int → Option Int
  | 0, n => some n
  | k + 1, n => if n.tmod 10 = 0 then downN k (n.tdiv 10) else none
def withB (n : Int) : Bool := decide (-999999999999999999 ≤ n) && decide (n ≤ 999999999999999999)
def scaB (k : Int) : Bool := decide (0 ≤ k) && decide (k ≤ 18)
/-- The number with another scale, and the error. -/
def rescaleV (n a b : Int) : Int × Int :=
  if withB n && scaB a && scaB b then (match (if a ≤ b then upN (b - a).toNat n else downN (a - b).toNat n) with | some x => (x, 0) | none => (0, 8)) else (0, 4)
def RetRs (w : World) (r : Int × Int) (e : Ending) (w' : World) : Prop := e = .returned (.tuple #[.int .i64 r.1, .int .i64 r.2]) ∧ w = w'
theorem RetRs.mk_ {w : World} {r : Int × Int} {a b : Int} (h : r = (a, b)) : RetRs w r (.returned (.tuple #[.int .i64 a, .int .i64 b])) w := by subst h; exact ⟨rfl, rfl⟩
def outR (R : Option Int) : Int × Int := match R with | some x => (x, 0) | none => (0, 8)
theorem rescaleV_up {n a b : Int} (h1 : withB n = true) (h2 : scaB a = true) (h3 : scaB b = true) (hab : a ≤ b) {k : Nat} (hk : (k : Int) = b - a) {R : Option Int} (h : upN k n = R) : rescaleV n a b = outR R := by
  unfold rescaleV; rw [h1, h2, h3, if_pos (show (true && true && true) = true from rfl), if_pos hab, show (b - a).toNat = k by omega, h]; rfl
theorem rescaleV_down {n a b : Int} (h1 : withB n = true) (h2 : scaB a = true) (h3 : scaB b = true) (hab : ¬a ≤ b) {k : Nat} (hk : (k : Int) = a - b) {R : Option Int} (h : downN k n = R) : rescaleV n a b = outR R := by
  unfold rescaleV; rw [h1, h2, h3, if_pos (show (true && true && true) = true from rfl), if_neg hab, show (a - b).toNat = k by omega, h]; rfl
theorem rescaleV_bad {n a b : Int} (h : (withB n && scaB a && scaB b) = false) : rescaleV n a b = (0, 4) := by
  unfold rescaleV; rw [h]; rfl
theorem retRs_of {w : World} {r : Int × Int} {a b : Int} (h : r = (a, b)) {P : Program} {f : FuncId} {args : Array Value} (hc : Calls P f args w (RetRs w r)) : Calls P f args w fun e w' => e = .returned (.tuple #[.int .i64 a, .int .i64 b]) ∧ w = w' := by subst h; exact hc
theorem withB_bd {n : Int} (h : withB n = true) : -999999999999999999 ≤ n ∧ n ≤ 999999999999999999 := by simpa [withB] using h
theorem scaB_bd {n : Int} (h : scaB n = true) : 0 ≤ n ∧ n ≤ 18 := by simpa [scaB] using h
theorem tdm (x : Int) (h0 : -999999999999999999 ≤ x) (h1 : x ≤ 999999999999999999) : -999999999999999999 ≤ x.tdiv 10 ∧ x.tdiv 10 ≤ 999999999999999999 ∧ -9 ≤ x.tmod 10 ∧ x.tmod 10 ≤ 9 := by
  rcases Int.le_total 0 x with h | h
  · rw [Int.tdiv_eq_ediv_of_nonneg h, Int.tmod_eq_emod_of_nonneg h]; omega
  · obtain ⟨y, rfl⟩ : ∃ y, x = -y := ⟨-x, by omega⟩
    rw [Int.neg_tdiv, Int.neg_tmod, Int.tdiv_eq_ediv_of_nonneg (by omega), Int.tmod_eq_emod_of_nonneg (by omega)]; omega
theorem within_any (n : Int) (w : World) : Calls Tryd.prog 22 #[.int .i64 n] w fun e w' => e = .returned (.bool (withB n)) ∧ w = w' := by
  by_cases h1 : -999999999999999999 ≤ n
  · by_cases h2 : n ≤ 999999999999999999
    all_goals
      go_enter Tryd.func22, Tryd.ntmps22
      go_wp2
      go_ret
      exact ⟨ret_bool (by simp [withB]; omega), rfl⟩
  · go_enter Tryd.func22, Tryd.ntmps22
    go_wp2
    go_ret
    exact ⟨ret_bool (by simp [withB]; omega), rfl⟩
theorem scales_any (n : Int) (w : World) : Calls Tryd.prog 15 #[.int .i64 n] w fun e w' => e = .returned (.bool (scaB n)) ∧ w = w' := by
  by_cases h1 : 0 ≤ n
  · by_cases h2 : n ≤ 18
    all_goals
      go_enter Tryd.func15, Tryd.ntmps15
      go_wp2
      go_ret
      exact ⟨ret_bool (by simp [scaB]; omega), rfl⟩
  · go_enter Tryd.func15, Tryd.ntmps15
    go_wp2
    go_ret
    exact ⟨ret_bool (by simp [scaB]; omega), rfl⟩
set_option maxRecDepth 100000 in
set_option maxHeartbeats 4000000 in
theorem rescale_any (n a b : Int) (w : World) (ha0 : -9223372036854775808 ≤ a) (ha1 : a ≤ 9223372036854775807) (hb0 : -9223372036854775808 ≤ b) (hb1 : b ≤ 9223372036854775807) :
    Calls Tryd.prog 14 #[.int .i64 n, .int .i64 a, .int .i64 b] w (RetRs w (rescaleV n a b)) := by
  have C1 := Lib.hid (fun X => within_any n X)
  have C2 := Lib.hid (fun X => scales_any a X)
  have C3 := Lib.hid (fun X => scales_any b X)
  by_cases hok : (withB n && scaB a && scaB b) = true
  case neg =>
    have HF := Lib.hid (rescaleV_bad (by simpa using hok))
    cases e1 : withB n
    all_goals cases e2 : scaB a
    all_goals cases e3 : scaB b
    all_goals try (exfalso; apply hok; rw [e1, e2, e3]; rfl)
    all_goals
      clear hok
      rw [e1] at C1
      rw [e2] at C2
      rw [e3] at C3
      clear e1 e2 e3
      go_enter Tryd.func14, Tryd.ntmps14
      go_wp2_with (first
        | (with_reducible refine (C1.out _).mono ?_; rintro _ _ ⟨rfl, rfl⟩)
        | (with_reducible refine (C2.out _).mono ?_; rintro _ _ ⟨rfl, rfl⟩)
        | (with_reducible refine (C3.out _).mono ?_; rintro _ _ ⟨rfl, rfl⟩))
      go_ret2
      exact RetRs.mk_ HF.out
  case pos =>
  simp only [Bool.and_eq_true] at hok
  obtain ⟨⟨h1, h2⟩, h3⟩ := hok
  have k1 := withB_bd h1
  have k2 := scaB_bd h2
  have k3 := scaB_bd h3
  rw [h1] at C1
  rw [h2] at C2
  rw [h3] at C3
  have HW1 := Lib.hid h1
  have HW2 := Lib.hid h2
  have HW3 := Lib.hid h3
  clear h1 h2 h3
  by_cases hab : a ≤ b
  · obtain ⟨k, hk⟩ := Int.eq_ofNat_of_zero_le (show 0 ≤ b - a by omega)
    obtain ⟨R, hR⟩ : ∃ R, upN k n = R := ⟨_, rfl⟩
    have HR := Lib.hid (rescaleV_up HW1.out HW2.out HW3.out hab (k := k) (by omega) hR)
    have HU := Lib.hid hR
    clear hR
    go_enter Tryd.func14, Tryd.ntmps14
    go_wp2_with (first
      | (with_reducible refine (C1.out _).mono ?_; rintro _ _ ⟨rfl, rfl⟩)
      | (with_reducible refine (C2.out _).mono ?_; rintro _ _ ⟨rfl, rfl⟩)
      | (with_reducible refine (C3.out _).mono ?_; rintro _ _ ⟨rfl, rfl⟩))
    go_loop [0, 1] (fun x f => ∃ (j : Nat) (y : Int), x = .int .i64 y ∧ f = .int .i64 (b - j) ∧ (j : Int) ≤ 18 ∧ -999999999999999999 ≤ y ∧ y ≤ 999999999999999999 ∧ Hid (upN j y = R)) (fun _ f => (b - intOf f).toNat)
    case atStart => exact ⟨k, n, rfl, by congr 1; omega, by omega, k1.1, k1.2, HU⟩
    case round =>
      obtain ⟨j, y, rfl, rfl, hj, hy0, hy1, hu⟩ := hrel
      rcases j with _ | i
      · have HE := Lib.hid (show rescaleV n a b = (y, 0) by
          rw [HR.out, ← hu.out]; rfl)
        go_wp2
        go_loop [0, 1] (fun x f => x = .int .i64 y ∧ f = .int .i64 b) (fun _ _ => 0)
        case atStart => exact ⟨rfl, rfl⟩
        case round =>
          obtain ⟨rfl, rfl⟩ := hrel
          go_wp2
          go_ret2
          exact RetRs.mk_ HE.out
      · by_cases hbig : 99999999999999999 < y
        · have HE := Lib.hid (show rescaleV n a b = (0, 8) by rw [HR.out, ← hu.out]; simp only [upN]; rw [if_pos (.inl hbig)]; rfl)
          go_wp2
          go_ret2
          exact RetRs.mk_ HE.out
        · by_cases hsm : y < -99999999999999999
          · have HE := Lib.hid (show rescaleV n a b = (0, 8) by rw [HR.out, ← hu.out]; simp only [upN]; rw [if_pos (.inr hsm)]; rfl)
            go_wp2
            go_ret2
            exact RetRs.mk_ HE.out
          · have HN := Lib.hid (show upN i (y * 10) = R by rw [← hu.out]; simp only [upN]; rw [if_neg (by omega)])
            go_wp2
            go_round
            case rel => exact ⟨i, y * 10, rfl, by congr 1; omega, by omega, by omega, by omega, HN⟩
            case measure => simp [intOf]; omega
  · obtain ⟨k, hk⟩ := Int.eq_ofNat_of_zero_le (show 0 ≤ a - b by omega)
    obtain ⟨R, hR⟩ : ∃ R, downN k n = R := ⟨_, rfl⟩
    have HR := Lib.hid (rescaleV_down HW1.out HW2.out HW3.out hab (k := k) (by omega) hR)
    have HU := Lib.hid hR
    clear hR
    go_enter Tryd.func14, Tryd.ntmps14
    go_wp2_with (first
      | (with_reducible refine (C1.out _).mono ?_; rintro _ _ ⟨rfl, rfl⟩)
      | (with_reducible refine (C2.out _).mono ?_; rintro _ _ ⟨rfl, rfl⟩)
      | (with_reducible refine (C3.out _).mono ?_; rintro _ _ ⟨rfl, rfl⟩))
    go_loop [0, 1] (fun x f => x = .int .i64 n ∧ f = .int .i64 a) (fun _ _ => 0)
    case atStart => exact ⟨rfl, rfl⟩
    case round =>
      obtain ⟨rfl, rfl⟩ := hrel
      go_wp2
      go_loop [0, 1] (fun x f => ∃ (j : Nat) (y : Int), x = .int .i64 y ∧ f = .int .i64 (b + j) ∧ (j : Int) ≤ 18 ∧ -999999999999999999 ≤ y ∧ y ≤ 999999999999999999 ∧ Hid (downN j y = R)) (fun _ f => (intOf f - b).toNat)
      case atStart => exact ⟨k, n, rfl, by congr 1; omega, by omega, k1.1, k1.2, HU⟩
      case round =>
        obtain ⟨j, y, rfl, rfl, hj, hy0, hy1, hu⟩ := hrel
        obtain ⟨d1, d2, d3, d4⟩ := tdm y hy0 hy1
        rcases j with _ | i
        · have HE := Lib.hid (show rescaleV n a b = (y, 0) by rw [HR.out, ← hu.out]; rfl)
          go_wp2
          go_ret2
          exact RetRs.mk_ HE.out
        · by_cases hm : y.tmod 10 = 0
          · have HN := Lib.hid (show downN i (y.tdiv 10) = R by rw [← hu.out]; simp only [downN]; rw [if_pos hm])
            have t1 : (y.tmod 10 != 0) = false := by simp [hm]
            clear hm
            go_wp2
            go_round
            case rel => exact ⟨i, y.tdiv 10, by go_num, by congr 1; omega, by omega, by omega, by omega, HN⟩
            case measure => simp [intOf]; omega
          · have HE := Lib.hid (show rescaleV n a b = (0, 8) by rw [HR.out, ← hu.out]; simp only [downN]; rw [if_neg hm]; rfl)
            have t1 : (y.tmod 10 != 0) = true := by simp [hm]
            clear hm
            go_wp2
            go_ret2
            exact RetRs.mk_ HE.out
end Go.Proofs.YtllijchdcminhaaDoor
