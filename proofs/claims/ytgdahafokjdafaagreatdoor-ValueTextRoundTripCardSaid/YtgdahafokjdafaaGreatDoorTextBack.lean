/-
  The plain law of ValueTextRoundTrip: Parse reads what Format writes of a valid value.
-/
import Derived.Test.YtgdahafokjdafaaGreatDoorRVPar
import Derived.Test.YtgdahafokjdafaaGreatDoorHexLaw
import Derived.Test.YtgdahafokjdafaaGreatDoorVFmt5
import Derived.Test.YtgdahafokjdafaaGreatDoorKValue
namespace Go.Proofs.YtgdahafokjdafaaGreatDoor
set_option linter.unusedVariables false
theorem step_in (f : Nat → Int) (q : Int) (h0 : f 0 ≤ q) : ∀ N, q < f N → ∃ k, k < N ∧ f k ≤ q ∧ q < f (k + 1)
  | 0, h => by omega
  | N + 1, h => by
    by_cases hq : q < f N
    · obtain ⟨k, h1, h2, h3⟩ := step_in f q h0 N hq
      exact ⟨k, by omega, h2, h3⟩
    · exact ⟨N, by omega, by omega, h⟩
theorem civ_has {n : Int} (h0 : -719162 ≤ n) (h1 : n ≤ 2932896) : ∃ y m d, IsCiv n y m d := by
  obtain ⟨Y, hj, hq0, hq1, hY⟩ : ∃ Y : Int, jan Y ≤ n ∧ 0 ≤ n - jan Y ∧ n - jan Y < 365 + lp Y ∧ 1 ≤ Y := by
    have C := civ_cycle (n + 719162) (by omega) _ _ rfl rfl _ _ rfl rfl _ _ rfl rfl _ rfl
    obtain ⟨a, ha⟩ : ∃ a, a = (n + 719162) / 146097 := ⟨_, rfl⟩
    obtain ⟨c, hc⟩ : ∃ c, c = min ((n + 719162) % 146097 / 36524) 3 := ⟨_, rfl⟩
    rw [← ha, ← hc] at C
    obtain ⟨b, hb⟩ : ∃ b, b = ((n + 719162) % 146097 - c * 36524) / 1461 := ⟨_, rfl⟩
    obtain ⟨t, ht⟩ : ∃ t, t = ((n + 719162) % 146097 - c * 36524) % 1461 := ⟨_, rfl⟩
    rw [← hb, ← ht] at C
    obtain ⟨k, hk⟩ : ∃ k, k = min (t / 365) 3 := ⟨_, rfl⟩
    rw [← hk] at C
    clear ha hc hb ht hk
    obtain ⟨e1, e2, e3, e4, _, e6, _, e8, _, e10⟩ := C
    exact ⟨1 + 400 * a + 100 * c + 4 * b + k, by omega, by omega, by omega, by omega⟩
  have hY2 := year_in h1 hj
  have h12 := cum_12 Y
  obtain ⟨k, k1, k2, k3⟩ := step_in (cum Y) (n - jan Y) (by show (0 : Int) ≤ _; omega) 12 (by omega)
  have k4 : cum Y (k + 1) = cum Y k + monL Y ((k : Int) + 1) := rfl
  exact ⟨Y, _, _, civ_mk (r := n - jan Y - cum Y k) ⟨hY, hY2⟩ (by omega) rfl (by omega) (by omega)⟩
theorem dateL_len {Y M D : Nat} (hY : Y < 10000) (hM : M < 100) (hD : D < 100) : (dateL Y M D).length = 10 := by
  unfold dateL; rw [digL_4 Y hY, digL_2 M hM, digL_2 D hD]; rfl
theorem ne_null {l : List UInt8} (h : l.length ≠ 4) : l ≠ [110, 117, 108, 108] := by rintro rfl; exact h rfl
theorem decStr_len7 (neg : Bool) (m k : Nat) (hm : m ≤ 999999999999999999) (hk : k ≤ 18) : (decStr neg m k).length ≤ 62 := by
  have h := padL_le m k hm hk
  unfold decStr
  rw [List.length_append]
  have h1 : (if neg = true then ([45] : List UInt8) else []).length ≤ 1 := by split <;> simp
  have h2 : (if k = 0 then padL m k else (padL m k).take ((padL m k).length - k) ++ [46] ++ (padL m k).drop ((padL m k).length - k)).length ≤ 61 := by
    split
    · omega
    · simp only [List.length_append, List.length_take, List.length_drop, List.length_cons, List.length_nil]; omega
  omega
theorem decP_null (k : Int) : (decP [110, 117, 108, 108] k).2 ≠ 0 := by
  unfold decP
  split
  · decide
  · rw [if_pos (by decide)]; decide
theorem readV_null : readV [110, 117, 108, 108] = (0, 2) := by decide +kernel
theorem sz_list {s : ByteArray} (h : s.size = 0) : s.data.toList = [] := by
  have := sizeD s
  rw [h] at this; exact List.length_eq_zero_iff.1 this
/-- What Parse answers to what Format writes. -/
theorem text_back {T K n : Int} {cn b : Bool} {S : ByteArray} (hc : ColOk T K) (hv : ValOk T cn b n S) : ∃ L : List UInt8, fmtV T K cn b n S = (L, 0) ∧ L.length ≤ 200 ∧ vparV T K cn L = ((b, n, S.data.toList), 0) := by
  obtain ⟨t1, t2, k0, k1, k5⟩ := hc
  obtain ⟨v1, v2, v3, v4⟩ := hv
  have hsca : scaB K = true := by unfold scaB; simp; omega
  have hbad : ¬((T < 1 ∨ 5 < T) ∨ (T = 5 ∧ scaB K = false)) := by rw [hsca]; rintro (h | ⟨_, h⟩); omega; cases h
  have hrange : ¬(T = 5 ∧ (K < 0 ∨ 18 < K)) := by omega
  cases b with
  | true =>
    obtain ⟨rfl, rfl, hs⟩ := v1 rfl
    refine ⟨[110, 117, 108, 108], ?_, by decide, ?_⟩
    · have hch : checkV T true true 0 S = 0 := by
        unfold checkV
        rw [if_neg (by omega), if_neg (by simp [hs]), if_neg (by simp), if_neg (by simp), if_neg (by simp)]
      unfold fmtV; rw [if_neg hrange, hch, if_neg (by decide), if_pos rfl]
    · rw [vpar_null hbad rfl, if_pos rfl, sz_list hs]
  | false =>
    obtain ⟨p1, p2, p3, p4, p5⟩ := v2 rfl
    have hch : checkV T cn false n S = 0 := by
      unfold checkV
      rw [if_neg (by omega), if_neg ?_, if_neg ?_, if_neg (by simp), if_neg ?_]
      · rintro ⟨_, hp⟩
        revert hp
        unfold permB
        split
        · rw [decide_eq_false_iff_not]; rename_i h; intro hp; exact hp (p3 h)
        · split
          · rw [decide_eq_false_iff_not]; rename_i h; intro hp; have := p4 h; omega
          · split
            · rw [decide_eq_false_iff_not]; rename_i h; intro hp; exact hp (p5 h)
            · split
              · rw [decide_eq_false_iff_not]; rename_i h; intro hp; have := (p1 h).2; omega
              · intro hp; cases hp
      · rintro ⟨h | h, hn⟩
        · cases h
        · exact hn (p1 h).1
      · rintro ⟨h | h, hn⟩
        · cases h
        · exact hn (p2 h)
    have hf : fmtV T K cn false n S = if T = 2 then (if n = 1 then [116, 114, 117, 101] else [102, 97, 108, 115, 101], 0) else if T = 4 then dateV n else if T = 5 then decV n K else if T = 3 then (34 :: (hexL S.data.toList ++ [34]), 0) else (Lib.itoa n, 0) := by
      unfold fmtV; rw [if_neg hrange, hch, if_neg (by decide), if_neg (by decide)]
    rw [hf]
    obtain rfl | rfl | rfl | rfl | rfl : T = 1 ∨ T = 2 ∨ T = 3 ∨ T = 4 ∨ T = 5 := by omega
    · rw [if_neg (by decide), if_neg (by decide), if_neg (by decide), if_neg (by decide)]
      have hr := readV_itoa n v3 v4
      refine ⟨Lib.itoa n, rfl, ?_, ?_⟩
      · have := Lib.itoa_length_le n (by omega) (by omega); omega
      · rw [vpar_rest hbad ?_, if_pos rfl, hr, outN_ok, sz_list (p2 (by decide))]
        intro h; rw [h, readV_null] at hr; cases hr
    · rw [if_pos rfl]
      rcases p3 rfl with rfl | rfl
      · refine ⟨[102, 97, 108, 115, 101], by rw [if_neg (by decide)], by decide, ?_⟩
        rw [vpar_rest hbad (by decide), if_neg (by decide), if_pos rfl, sz_list (p2 (by decide))]; rfl
      · refine ⟨[116, 114, 117, 101], by rw [if_pos rfl], by decide, ?_⟩
        rw [vpar_rest hbad (by decide), if_neg (by decide), if_pos rfl, sz_list (p2 (by decide))]; rfl
    · rw [if_neg (by decide), if_neg (by decide), if_neg (by decide), if_pos rfl]
      obtain ⟨rfl, hs⟩ := p1 rfl
      have hl := sizeD S
      have hh := hexT_len S.data.toList
      have hb := byt_back (l := S.data.toList) (by omega)
      refine ⟨hexT S.data.toList, rfl, by omega, ?_⟩
      rw [vpar_rest hbad ?_, if_neg (by decide), if_neg (by decide), if_pos rfl, vbyt_eq hb]
      unfold hexT; intro h; cases h
    · rw [if_neg (by decide), if_pos rfl]
      have hn := p4 rfl
      obtain ⟨y, m, d, hd⟩ := civ_has (n := n) (by omega) (by omega)
      obtain ⟨Y, M, D, rfl, rfl, rfl, h1, h2, h3⟩ := civ_nat hd
      have hl := dateL_len h1 h2 h3
      refine ⟨dateL Y M D, ?_, by omega, ?_⟩
      · rw [dateV_in (by omega) (by omega) hd]; rfl
      · rw [vpar_rest hbad (ne_null (by omega)), if_neg (by decide), if_neg (by decide), if_neg (by decide), if_pos rfl, date_back hd rfl rfl rfl h1 h2 h3, outN_ok, sz_list (p2 (by decide))]
    · rw [if_neg (by decide), if_neg (by decide), if_pos rfl]
      have hn := p5 rfl
      obtain ⟨j, rfl⟩ : ∃ j : Nat, K = j := ⟨K.toNat, by omega⟩
      have hw : (withB n && scaB (j : Int)) = true := by rw [hsca, Bool.and_true]; unfold withB; simp; omega
      have hP : decP (decStr (decide (n < 0)) n.natAbs j) (j : Int) = (n, 0) := by
        rw [decP_str (decide (n < 0)) n.natAbs j j (by omega) (Nat.le_refl _) (fun h => by rw [decide_eq_true_eq] at h; omega), Nat.sub_self, outP_up n 0 hn.1 hn.2]; rfl
      refine ⟨decStr (decide (n < 0)) n.natAbs j, ?_, ?_, ?_⟩
      · unfold decV; rw [if_pos hw, Int.toNat_natCast]
      · have := decStr_len7 (decide (n < 0)) n.natAbs j (by omega) (by omega); omega
      · rw [vpar_rest hbad ?_, if_neg (by decide), if_neg (by decide), if_neg (by decide), if_neg (by decide), hP, outN_ok, sz_list (p2 (by decide))]
        intro h
        have := decP_null (j : Int)
        rw [← h, hP] at this; exact this rfl
end Go.Proofs.YtgdahafokjdafaaGreatDoor
