/-
  The walk of the law SchemaNames.
-/
import Derived.Test.YtdffmkbcjnonaaaRNames
import Derived.Test.YtdffmkbcjnonaaaLL
namespace Go.Proofs.Ytdffmkbcjnonaaa
open Go.RowKit
theorem app_size {u v : ByteArray} {k : Nat} (h : u.size ≤ 3 * k) (hv : v.size ≤ 3) : (u ++ v).size ≤ 3 * (k + 1) := by
  rw [ByteArray.size_append]; omega
set_option maxHeartbeats 4000000 in
theorem schemaNames_walk (s : ByteArray) (v : Value) (zs : List Int) (w : World) (hss : s.size ≤ 9223372036854775807) (hs : Sl w 1 v zs.length (ints8 zs)) (hz : ∀ n ∈ zs, (Lit.int .u8 n).wf = true) :
    Calls Try.prog 9 #[.string s, v] w (RetB w true) := by
  obtain ⟨A, c, rfl, hc1, hc2⟩ := hs.form
  unfold maxLen at hc2
  have HZ := Lib.hid hz
  clear hz
  go_enter Try.func9, Try.ntmps9
  go_wp2
  go_loopw [5, 6] (fun t i wr => ∃ (k : Nat) (u : ByteArray), k ≤ zs.length ∧ k ≤ 18 ∧ i = .int .i64 k ∧ t = .string u ∧ u.size ≤ 3 * k ∧ Below w.heap.size w wr) (fun _ i _ => 18 - (intOf i).toNat)
  case atStart => exact ⟨0, ByteArray.empty, by omega, by omega, rfl, rfl, by simp, Below.refl _ _⟩
  case round =>
    obtain ⟨k, u, hk, hk18, rfl, rfl, hu, hbel⟩ := hrel
    by_cases hlt : k < zs.length
    · by_cases hlt2 : k < 18
      · obtain ⟨ad, x, rfl, hx, hcx⟩ := (hs.below hbel).int8_at hlt
        have hw := HZ.out x (List.mem_of_getElem? hx)
        have hx0 : 0 ≤ x := by simp [Lit.wf, IntKind.min, IntKind.max, IntKind.signed, IntKind.bits] at hw; omega
        have hx1 : x ≤ 255 := by simp [Lit.wf, IntKind.min, IntKind.max, IntKind.signed, IntKind.bits] at hw; omega
        have hca := fun o => cell_alloc hcx o
        clear hx hw hcx
        have h8 : x % 8 = 0 ∨ x % 8 = 1 ∨ x % 8 = 2 ∨ x % 8 = 3 ∨ x % 8 = 4 ∨ x % 8 = 5 ∨ x % 8 = 6 ∨ x % 8 = 7 := by omega
        rcases h8 with h8 | h8 | h8 | h8 | h8 | h8 | h8 | h8
        all_goals
          go_wp2
          go_roundw
          case rel => exact ⟨k + 1, _, by omega, by omega, by go_num, rfl, app_size hu (by decide), hbel.alloc hbel.size _⟩
          case measure => simp [intOf]; omega
      · go_wp2_with fail
        refine (awake7_any _).mono ?_
        rintro e w1 ⟨rfl, hb1⟩
        go_wp2_with fail
        refine (name_any s w1 hss).mono ?_
        rintro e w2 ⟨rfl, rfl⟩
        go_wp2_with fail
        refine (rname_any s w1 hss).mono ?_
        rintro e w2 ⟨rfl, rfl⟩
        obtain ⟨b1, hb1'⟩ : ∃ b, nameB s.data.toList = b := ⟨_, rfl⟩
        rw [hb1']
        have hq1 : (b1 == b1) = true := by simp
        go_wp2_with fail
        refine (name_any u w1 (by omega)).mono ?_
        rintro e w2 ⟨rfl, rfl⟩
        go_wp2_with fail
        refine (rname_any u w1 (by omega)).mono ?_
        rintro e w2 ⟨rfl, rfl⟩
        obtain ⟨b2, hb2'⟩ : ∃ b, nameB u.data.toList = b := ⟨_, rfl⟩
        rw [hb2']
        have hq2 : (b2 == b2) = true := by simp
        clear hb1' hb2'
        go_wp2
        go_ret
        exact ⟨rfl, bst hbel hb1⟩
    · go_wp2_with fail
      refine (awake7_any _).mono ?_
      rintro e w1 ⟨rfl, hb1⟩
      go_wp2_with fail
      refine (name_any s w1 hss).mono ?_
      rintro e w2 ⟨rfl, rfl⟩
      go_wp2_with fail
      refine (rname_any s w1 hss).mono ?_
      rintro e w2 ⟨rfl, rfl⟩
      obtain ⟨b1, hb1'⟩ : ∃ b, nameB s.data.toList = b := ⟨_, rfl⟩
      rw [hb1']
      have hq1 : (b1 == b1) = true := by simp
      go_wp2_with fail
      refine (name_any u w1 (by omega)).mono ?_
      rintro e w2 ⟨rfl, rfl⟩
      go_wp2_with fail
      refine (rname_any u w1 (by omega)).mono ?_
      rintro e w2 ⟨rfl, rfl⟩
      obtain ⟨b2, hb2'⟩ : ∃ b, nameB u.data.toList = b := ⟨_, rfl⟩
      rw [hb2']
      have hq2 : (b2 == b2) = true := by simp
      clear hb1' hb2'
      go_wp2
      go_ret
      exact ⟨rfl, bst hbel hb1⟩
end Go.Proofs.Ytdffmkbcjnonaaa
