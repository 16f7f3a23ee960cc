/-
  The calendar in plain Lean: the day of a number.
-/
import Derived.Test.YtjnamjkdjcndiaaDoorDecDig
namespace Go.Proofs.YtjnamjkdjcndiaaDoor
def leapB (y : Int) : Bool := (y % 4 == 0 && y % 100 != 0) || y % 400 == 0
def lp (y : Int) : Int := if leapB y = true then 1 else 0
def monL (y m : Int) : Int := if m = 2 then 28 + lp y else if m = 4 ∨ m = 6 ∨ m = 9 ∨ m = 11 then 30 else 31
def jan (y : Int) : Int := 365 * (y - 1) + (y - 1) / 4 - (y - 1) / 100 + (y - 1) / 400 - 719162
def cum (y : Int) : Nat → Int
  | 0 => 0
  | k + 1 => cum y k + monL y ((k : Int) + 1)
theorem lp_01 (y : Int) : (lp y = 0 ∧ leapB y = false) ∨ (lp y = 1 ∧ leapB y = true) := by
  unfold lp; cases leapB y <;> simp
theorem leap_iff (y : Int) : leapB y = true ↔ ((y % 4 = 0 ∧ y % 100 ≠ 0) ∨ y % 400 = 0) := by
  simp [leapB]
theorem lp_iff (y : Int) : (lp y = 1 ∧ ((y % 4 = 0 ∧ y % 100 ≠ 0) ∨ y % 400 = 0)) ∨ (lp y = 0 ∧ ¬((y % 4 = 0 ∧ y % 100 ≠ 0) ∨ y % 400 = 0)) := by
  rcases lp_01 y with ⟨a, b⟩ | ⟨a, b⟩
  · exact .inr ⟨a, fun h => by rw [(leap_iff y).2 h] at b; cases b⟩
  · exact .inl ⟨a, (leap_iff y).1 b⟩
theorem jan_succ (y : Int) : jan (y + 1) = jan y + 365 + lp y := by
  unfold jan
  rcases lp_iff y with ⟨a, b⟩ | ⟨a, b⟩ <;> omega
theorem jan_mono (a b : Int) (h : a ≤ b) : jan a ≤ jan b := by unfold jan; omega
theorem monL_bd (y m : Int) : 28 ≤ monL y m ∧ monL y m ≤ 31 := by
  unfold monL
  have := lp_01 y
  split
  · omega
  · split <;> omega
theorem cum_12 (y : Int) : cum y 12 = 365 + lp y := by
  simp [cum, monL]; omega
theorem cum_nonneg (y : Int) : ∀ k, 0 ≤ cum y k
  | 0 => by simp [cum]
  | k + 1 => by have := cum_nonneg y k; have := monL_bd y ((k : Int) + 1); simp only [cum]; omega
theorem cum_mono (y : Int) {a b : Nat} (h : a ≤ b) : cum y a ≤ cum y b := by
  induction h with
  | refl => omega
  | step _ ih => have := monL_bd y; simp only [cum]; rename_i m _; have := this ((m : Int) + 1); omega
/-- Day n is the d-th of the month m of the year y. -/
def IsCiv (n y m d : Int) : Prop := 1 ≤ y ∧ y ≤ 9999 ∧ ∃ k : Nat, m = (k : Int) + 1 ∧ k ≤ 11 ∧ n = jan y + cum y k + d - 1 ∧ 1 ≤ d ∧ d ≤ monL y ((k : Int) + 1)
theorem civ_year {n y m d : Int} (h : IsCiv n y m d) : jan y ≤ n ∧ n < jan (y + 1) := by
  obtain ⟨_, _, k, rfl, hk, rfl, h1, h2⟩ := h
  have h3 := cum_nonneg y k
  have h4 : cum y k + monL y ((k : Int) + 1) ≤ cum y 12 := cum_mono y (show k + 1 ≤ 12 by omega)
  have h5 := cum_12 y
  have h6 := jan_succ y
  omega
theorem civ_unique {n y m d y' m' d' : Int} (h : IsCiv n y m d) (h' : IsCiv n y' m' d') : (y, m, d) = (y', m', d') := by
  have a := civ_year h
  have b := civ_year h'
  have e : y = y' := by
    by_cases hlt : y < y'
    · have := jan_mono (y + 1) y' (by omega); omega
    · by_cases hgt : y' < y
      · have := jan_mono (y' + 1) y (by omega); omega
      · omega
  subst e
  obtain ⟨_, _, k, rfl, hk, rfl, h1, h2⟩ := h
  obtain ⟨_, _, j, rfl, hj, hn, h1', h2'⟩ := h'
  have e : k = j := by
    by_cases hlt : k < j
    · have : cum y k + monL y ((k : Int) + 1) ≤ cum y j := cum_mono y (show k + 1 ≤ j by omega)
      omega
    · by_cases hgt : j < k
      · have : cum y j + monL y ((j : Int) + 1) ≤ cum y k := cum_mono y (show j + 1 ≤ k by omega)
        omega
      · omega
  subst e
  have : d = d' := by omega
  subst this; rfl
noncomputable def civ (n : Int) : Int × Int × Int := open Classical in if h : ∃ t : Int × Int × Int, IsCiv n t.1 t.2.1 t.2.2 then h.choose else (0, 0, 0)
theorem civ_eq {n y m d : Int} (h : IsCiv n y m d) : civ n = (y, m, d) := by
  unfold civ
  have hx : ∃ t : Int × Int × Int, IsCiv n t.1 t.2.1 t.2.2 := ⟨(y, m, d), h⟩
  rw [dif_pos hx]
  exact civ_unique hx.choose_spec h
def dateL (y m d : Nat) : List UInt8 := digL y 4 ++ [45] ++ digL m 2 ++ [45] ++ digL d 2
noncomputable def dateV (n : Int) : List UInt8 × Int := if -719162 ≤ n ∧ n ≤ 2932896 then (dateL (civ n).1.toNat (civ n).2.1.toNat (civ n).2.2.toNat, 0) else ([], 4)
theorem dateV_in {n y m d : Int} (h0 : -719162 ≤ n) (h1 : n ≤ 2932896) (h : IsCiv n y m d) : dateV n = (dateL y.toNat m.toNat d.toNat, 0) := by
  unfold dateV; rw [if_pos ⟨h0, h1⟩, civ_eq h]
theorem dateV_out {n : Int} (h : ¬(-719162 ≤ n ∧ n ≤ 2932896)) : dateV n = ([], 4) := by unfold dateV; rw [if_neg h]
theorem civ_mk {n y r : Int} {k : Nat} (hy : 1 ≤ y ∧ y ≤ 9999) (hk : k ≤ 11) (hr : r = n - jan y - cum y k) (h0 : 0 ≤ r) (h1 : r < monL y ((k : Int) + 1)) : IsCiv n y ((k : Int) + 1) (r + 1) :=
  ⟨hy.1, hy.2, k, rfl, hk, by omega, by omega, by omega⟩
/-- How the program finds the year: cycles of 400 years, centuries, fours. -/
theorem civ_cycle (n : Int) (h0 : 0 ≤ n) (a r : Int) (ha : a = n / 146097) (hr : r = n % 146097) (c s : Int) (hc : c = min (r / 36524) 3) (hs : s = r - c * 36524) (b t : Int) (hb : b = s / 1461) (ht : t = s % 1461) (k : Int) (hk : k = min (t / 365) 3) :
    jan (1 + 400 * a + 100 * c + 4 * b + k) = n - 719162 - (t - k * 365) ∧ 0 ≤ t - k * 365 ∧ t - k * 365 < 365 + lp (1 + 400 * a + 100 * c + 4 * b + k) ∧ 0 ≤ c ∧ c ≤ 3 ∧ 0 ≤ b ∧ b ≤ 24 ∧ 0 ≤ k ∧ k ≤ 3 ∧ 0 ≤ a := by
  have c1 : 0 ≤ c ∧ c ≤ 3 := by omega
  have b1 : 0 ≤ b ∧ b ≤ 24 := by omega
  have k1 : 0 ≤ k ∧ k ≤ 3 := by omega
  have a1 : 0 ≤ a := by omega
  have q4 : (400 * a + 100 * c + 4 * b + k) / 4 = 100 * a + 25 * c + b := by omega
  have q100 : (400 * a + 100 * c + 4 * b + k) / 100 = 4 * a + c := by omega
  have q400 : (400 * a + 100 * c + 4 * b + k) / 400 = a := by omega
  refine ⟨?_, by omega, ?_, by omega, by omega, by omega, by omega, by omega, by omega, a1⟩
  · unfold jan
    rw [show 1 + 400 * a + 100 * c + 4 * b + k - 1 = 400 * a + 100 * c + 4 * b + k by omega, q4, q100, q400]
    omega
  · rcases lp_iff (1 + 400 * a + 100 * c + 4 * b + k) with ⟨e, h⟩ | ⟨e, h⟩
    · omega
    · rw [e]
      by_cases hk3 : k = 3
      · by_cases ht4 : t = 1460
        · exfalso; apply h
          have hb24 : b = 24 → c = 3 := by omega
          by_cases hb : b = 24
          · right; have := hb24 hb; omega
          · left; omega
        · omega
      · omega
/-! the digits of a text of fixed width -/
theorem digL_2 (n : Nat) (h : n < 100) : digL n 2 = [UInt8.ofNat (48 + n / 10 % 10), UInt8.ofNat (48 + n % 10)] := by
  have h1 := digL_snoc (n / 10) (n % 10) 1 (by omega)
  have h2 := digL_snoc (n / 10 / 10) (n / 10 % 10) 0 (by omega)
  rw [show n / 10 * 10 + n % 10 = n by omega] at h1
  rw [show n / 10 / 10 * 10 + n / 10 % 10 = n / 10 by omega, show n / 10 / 10 = 0 by omega] at h2
  rw [h1, h2]; rfl
theorem digL_4 (n : Nat) (h : n < 10000) : digL n 4 = [UInt8.ofNat (48 + n / 1000 % 10), UInt8.ofNat (48 + n / 100 % 10), UInt8.ofNat (48 + n / 10 % 10), UInt8.ofNat (48 + n % 10)] := by
  have h1 := digL_snoc (n / 10) (n % 10) 3 (by omega)
  have h2 := digL_snoc (n / 10 / 10) (n / 10 % 10) 2 (by omega)
  rw [show n / 10 * 10 + n % 10 = n by omega] at h1
  rw [show n / 10 / 10 * 10 + n / 10 % 10 = n / 10 by omega] at h2
  rw [h1, h2, show n / 10 / 10 = n / 100 by omega, digL_2 (n / 100) (by omega), show n / 100 / 10 = n / 1000 by omega]
  rfl
end Go.Proofs.YtjnamjkdjcndiaaDoor
