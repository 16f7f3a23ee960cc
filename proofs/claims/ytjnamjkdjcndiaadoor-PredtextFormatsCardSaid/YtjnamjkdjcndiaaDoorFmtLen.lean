/-
  The text of a value has at most 200 bytes.
-/
import Derived.Test.YtjnamjkdjcndiaaDoorVFmt1
import Derived.Test.YtjnamjkdjcndiaaDoorDecDig
namespace Go.Proofs.YtjnamjkdjcndiaaDoor
theorem fl_hex (l : List UInt8) : (hexL l).length = 2 * l.length := by
  induction l with
  | nil => rfl
  | cons c r ih => simp only [hexL, List.flatMap_cons, List.length_append, List.length_cons, List.length_nil] at ih ⊢; omega
theorem fl_step (f : Nat → Int) (q : Int) (h0 : f 0 ≤ q) : ∀ N, q < f N → ∃ k, k < N ∧ f k ≤ q ∧ q < f (k + 1)
  | 0, h => by omega
  | N + 1, h => by
    by_cases hq : q < f N
    · obtain ⟨k, h1, h2, h3⟩ := fl_step f q h0 N hq
      exact ⟨k, by omega, h2, h3⟩
    · exact ⟨N, by omega, by omega, h⟩
theorem fl_civ {n : Int} (h0 : -719162 ≤ n) (h1 : n ≤ 2932896) : ∃ y m d, IsCiv n y m d := by
  obtain ⟨Y, hj, hq0, hq1, hY⟩ : ∃ Y : Int, jan Y ≤ n ∧ 0 ≤ n - jan Y ∧ n - jan Y < 365 + lp Y ∧ 1 ≤ Y := by
    have C := civ_cycle (n + 719162) (by omega) _ _ rfl rfl _ _ rfl rfl _ _ rfl rfl _ rfl
    obtain ⟨a, ha⟩ : ∃ a, a = (n + 719162) / 146097 := ⟨_, rfl⟩
    obtain ⟨c, hc⟩ : ∃ c, c = min ((n + 719162) % 146097 / 36524) 3 := ⟨_, rfl⟩
    rw [← ha, ← hc] at C
    obtain ⟨b, hb⟩ : ∃ b, b = ((n + 719162) % 146097 - c * 36524) / 1461 := ⟨_, rfl⟩
    obtain ⟨t, ht⟩ : ∃ t, t = ((n + 719162) % 146097 - c * 36524) % 1461 := ⟨_, rfl⟩
    rw [← hb, ← ht] at C
    obtain ⟨k, hk⟩ : ∃ k, k = min (t / 365) 3 := ⟨_, rfl⟩
    rw [← hk] at C
    clear ha hc hb ht hk
    obtain ⟨e1, e2, e3, e4, _, e6, _, e8, _, e10⟩ := C
    exact ⟨1 + 400 * a + 100 * c + 4 * b + k, by omega, by omega, by omega, by omega⟩
  have hY2 := year_in h1 hj
  have h12 := cum_12 Y
  obtain ⟨k, k1, k2, k3⟩ := fl_step (cum Y) (n - jan Y) (by show (0 : Int) ≤ _; omega) 12 (by omega)
  have k4 : cum Y (k + 1) = cum Y k + monL Y ((k : Int) + 1) := rfl
  exact ⟨Y, _, _, civ_mk (r := n - jan Y - cum Y k) ⟨hY, hY2⟩ (by omega) rfl (by omega) (by omega)⟩
theorem fl_date {Y M D : Nat} (hY : Y < 10000) (hM : M < 100) (hD : D < 100) : (dateL Y M D).length = 10 := by
  unfold dateL; rw [digL_4 Y hY, digL_2 M hM, digL_2 D hD]; rfl
theorem fl_dec (neg : Bool) (m k : Nat) (hm : m ≤ 999999999999999999) (hk : k ≤ 18) : (decStr neg m k).length ≤ 62 := by
  have h := padL_le m k hm hk
  unfold decStr
  rw [List.length_append]
  have h1 : (if neg = true then ([45] : List UInt8) else []).length ≤ 1 := by split <;> simp
  have h2 : (if k = 0 then padL m k else (padL m k).take ((padL m k).length - k) ++ [46] ++ (padL m k).drop ((padL m k).length - k)).length ≤ 61 := by
    split
    · omega
    · simp only [List.length_append, List.length_take, List.length_drop, List.length_cons, List.length_nil]; omega
  omega
theorem fl_mon (y m : Int) : monL y m ≤ 31 := by
  have : lp y ≤ 1 := by unfold lp; split <;> omega
  unfold monL; split
  · omega
  · split <;> omega
theorem fmtV_len (t k : Int) (cn nul : Bool) (n : Int) (s : ByteArray) (hn : -9223372036854775808 ≤ n ∧ n ≤ 9223372036854775807) : (fmtV t k cn nul n s).1.length ≤ 200 := by
  unfold fmtV
  by_cases h1 : t = 5 ∧ (k < 0 ∨ 18 < k)
  · rw [if_pos h1]; simp
  rw [if_neg h1]
  by_cases h2 : checkV t cn nul n s ≠ 0
  · rw [if_pos h2]; simp
  rw [if_neg h2]
  by_cases h3 : nul = true
  · rw [if_pos h3]; simp
  rw [if_neg h3]
  by_cases h4 : t = 2
  · rw [if_pos h4]; show (if n = 1 then _ else _ : List UInt8).length ≤ _; split <;> simp
  rw [if_neg h4]
  by_cases h5 : t = 4
  · rw [if_pos h5]
    by_cases h : -719162 ≤ n ∧ n ≤ 2932896
    · obtain ⟨y, m, d, hc⟩ := fl_civ h.1 h.2
      rw [dateV_in h.1 h.2 hc]
      obtain ⟨y1, y2, q, hm, hq, hd0, hd1⟩ := hc
      have := fl_mon y ((q : Int) + 1)
      show (dateL _ _ _).length ≤ 200
      rw [fl_date (by omega) (by omega) (by omega)]; omega
    · rw [dateV_out h]; simp
  rw [if_neg h5]
  by_cases h6 : t = 5
  · rw [if_pos h6]
    unfold decV
    split
    · rename_i h
      rw [Bool.and_eq_true] at h
      unfold withB scaB at h
      simp only [Bool.and_eq_true, decide_eq_true_eq] at h
      have := fl_dec (decide (n < 0)) n.natAbs k.toNat (by omega) (by omega)
      show (decStr _ _ _).length ≤ 200
      omega
    · simp
  rw [if_neg h6]
  by_cases h7 : t = 3
  · rw [if_pos h7]
    have hs : s.size ≤ 64 := by
      have hc : checkV t cn nul n s = 0 := by simpa using h2
      have hnf : nul = false := by simpa using h3
      unfold checkV at hc
      rw [if_neg (by omega)] at hc
      split at hc
      · cases hc
      · split at hc
        · cases hc
        · split at hc
          · cases hc
          · split at hc
            · cases hc
            · rename_i hp
              rw [hnf, h7] at hp
              have : permB 3 n s = true := by
                cases hq : permB 3 n s with
                | true => rfl
                | false => exact absurd ⟨rfl, hq⟩ hp
              unfold permB at this
              simpa using this
    have hd := sizeD s
    show (34 :: (hexL s.data.toList ++ [34])).length ≤ 200
    rw [List.length_cons, List.length_append, fl_hex]
    simp; omega
  rw [if_neg h7]
  have := Lib.itoa_length_le n (by omega) (by omega)
  show (Lib.itoa n).length ≤ 200
  omega
end Go.Proofs.YtjnamjkdjcndiaaDoor
