/-
  What value.Format and ref6.Format make of values of type Bytes; the contract of ref6.Format at them.
-/
import Derived.Test.YtjnamjkdjcndiaaDoorVFmt2
import Derived.Test.YtjnamjkdjcndiaaDoorBase
import Derived.Deep.QuietTactic
import Derived.BigQuiet
import Derived.Laws.BytesArg
namespace Go.Proofs.YtjnamjkdjcndiaaDoor
open Go.RowKit Go.Sort
set_option linter.unusedVariables false
theorem and15 (x : Nat) (h : x < 256) : bits .and .u8 (x : Int) 15 = ((x % 16 : Nat) : Int) := by
  have : ∀ x : Fin 256, bits .and .u8 ((x.val : Nat) : Int) 15 = ((x.val % 16 : Nat) : Int) := by decide +kernel
  exact this ⟨x, h⟩
abbrev hexS : ByteArray := { data := #[48, 49, 50, 51, 52, 53, 54, 55, 56, 57, 97, 98, 99, 100, 101, 102] }
def hexI (l : List UInt8) : List Int := l.flatMap fun c => [((hexC (c.toNat / 16)).toNat : Int), ((hexC (c.toNat % 16)).toNat : Int)]
theorem check_bytes {cn : Bool} {n : Int} {s : ByteArray} (h : checkV 3 cn false n s = 0) : s.size ≤ 64 := by
  unfold checkV at h
  rw [if_neg (by omega)] at h
  split at h
  · cases h
  · split at h
    · cases h
    · split at h
      · cases h
      · split at h
        · cases h
        · rename_i hp
          simp [permB] at hp
          omega
theorem hexS_at (c : Nat) (h : c < 16) : (hexS.extract c (c + 1)).data.toList = [hexC c] := by
  have : ∀ c : Fin 16, (hexS.extract c.val (c.val + 1)).data.toList = [hexC c.val] := by decide +kernel
  exact this ⟨c, h⟩
theorem hexL_snoc {s : ByteArray} {m : Nat} (h : m < s.size) : hexL (s.data.toList.take (m + 1)) = hexL (s.data.toList.take m) ++ [hexC (s[m].toNat / 16), hexC (s[m].toNat % 16)] := by
  rw [List.take_add_one, get_data s m h, Option.toList_some]
  simp [hexL]
set_option maxRecDepth 100000 in
set_option maxHeartbeats 4000000 in
theorem rf_bytes (sc : ByteArray) (k : Int) (cn : Bool) (n : Int) (s : ByteArray) (w : World) (hs : s.size ≤ 9223372036854775807) (hc : checkV 3 cn false n s = 0) : Calls Tryd.prog 35 #[.agg #[.string sc, .int .i64 3, .int .i64 k, .bool cn], .agg #[.bool false, .int .i64 n, .string s]] w (RetDec w (fmtV 3 k cn false n s)) := by
  have HV := Lib.hid (show fmtV 3 k cn false n s = (34 :: (hexL s.data.toList ++ [34]), 0) by unfold fmtV; rw [if_neg (by omega), if_neg (by rw [hc]; simp), if_neg (by simp), if_neg (by omega), if_neg (by omega), if_neg (by omega), if_pos rfl])
  have hs64 := check_bytes hc
  have CK := Lib.hid (fun X => retN_of hc (rvcheck_any sc 3 k cn false n s X hs))
  go_enter Tryd.func35, Tryd.ntmps35
  go_wp2_with fail
  rw [show (w.alloc (.cells #[.string sc, .int .i64 3, .int .i64 k, .bool cn] 47)).alloc (.cells #[.bool false, .int .i64 n, .string s] 33) = BoxW w sc 3 k cn false n s from rfl]
  have hb0 := boxW_below w sc 3 k cn false n s
  have bc := boxW_c w sc 3 k cn false n s
  have bv := boxW_v w sc 3 k cn false n s
  obtain ⟨W, hW⟩ : ∃ W, W = BoxW w sc 3 k cn false n s := ⟨_, rfl⟩
  rw [← hW] at hb0 bc bv ⊢
  clear hW
  refine (CK.out _).mono ?_
  rintro _ w1 ⟨rfl, hb1⟩
  have HB := Lib.hid (bst hb0 hb1)
  have bc1 := bc.below hb1 bc.lt
  have bv1 := bv.below hb1 bv.lt
  have c1 : w1.cell? ⟨w.heap.size, 1, none⟩ = some (.int .i64 3) := bc1.cell 1
  have v0 : w1.cell? ⟨w.heap.size + 1, 0, none⟩ = some (.bool false) := bv1.cell 0
  have v2 : w1.cell? ⟨w.heap.size + 1, 2, none⟩ = some (.string s) := bv1.cell 2
  clear bc bv hb0 hb1 bc1 bv1 hc CK
  go_wp2_with fail
  go_loopw [7, 8] (fun x i wr => ∃ (m : Nat) (S : ByteArray), m ≤ s.size ∧ i = .int .i64 m ∧ x = .string S ∧ S.size = 1 + 2 * m ∧ (∃ d, wr = w1.drewN d) ∧ Hid (S.data.toList = 34 :: hexL (s.data.toList.take m))) (fun _ i _ => s.size - (intOf i).toNat)
  case atStart => exact ⟨0, { data := #[34] }, by omega, rfl, rfl, rfl, ⟨0, rfl⟩, Lib.hid rfl⟩
  case round =>
    obtain ⟨m, S, hm, rfl, rfl, hS, ⟨d, rfl⟩, hx⟩ := hrel
    by_cases hlt : m < s.size
    · have HN := Lib.hid (hexL_snoc hlt)
      obtain ⟨c, hcb⟩ : ∃ c : Nat, s[m].toNat = c := ⟨_, rfl⟩
      have hc8 : c < 256 := by have := s[m].toNat_lt; omega
      rw [hcb] at HN
      obtain ⟨h, hh⟩ : ∃ h : Nat, c / 16 = h := ⟨_, rfl⟩
      obtain ⟨l, hl⟩ : ∃ l : Nat, c % 16 = l := ⟨_, rfl⟩
      have hb16 : h < 16 := by omega
      have lb16 : l < 16 := by omega
      rw [hh, hl] at HN
      have t1 : (c : Int) / 16 = (h : Int) := by omega
      have t2 : (c : Int) % 16 = (l : Int) := by omega
      have t3 : IntKind.u8.wrap ((h : Int) + 1) = ((h + 1 : Nat) : Int) := by rw [IntKind.wrap_u8]; omega
      have t4 : IntKind.u8.wrap ((l : Int) + 1) = ((l + 1 : Nat) : Int) := by rw [IntKind.wrap_u8]; omega
      have t5 : (c : Int).tdiv 16 = (h : Int) := by rw [Int.tdiv_eq_ediv_of_nonneg (by omega)]; exact t1
      have t6 : (c : Int).tmod 16 = (l : Int) := by rw [Int.tmod_eq_emod_of_nonneg (by omega)]; exact t2
      clear hh hl
      obtain ⟨H, hH⟩ : ∃ H : ByteArray, hexS.extract h (h + 1) = H := ⟨_, rfl⟩
      obtain ⟨L, hL⟩ : ∃ L : ByteArray, hexS.extract l (l + 1) = L := ⟨_, rfl⟩
      have HH := Lib.hid (show H.data.toList = [hexC h] by rw [← hH]; exact hexS_at h hb16)
      have HL := Lib.hid (show L.data.toList = [hexC l] by rw [← hL]; exact hexS_at l lb16)
      have zH : H.size = 1 := by rw [← sizeD, HH.out]; rfl
      have zL : L.size = 1 := by rw [← sizeD, HL.out]; rfl
      go_wp2_with fail
      go_quiet (fail)
      go_wp2
      trace_state
      go_roundw
      case rel => exact ⟨m + 1, S ++ (H ++ L), by omega, by go_num, rfl, by rw [ByteArray.size_append, ByteArray.size_append]; omega, ⟨_, rfl⟩, Lib.hid (by rw [HN.out, ByteArray.data_append, ByteArray.data_append, Array.toList_append, Array.toList_append, hx.out, HH.out, HL.out]; simp)⟩
      case measure => simp [intOf]; omega
    · have HF := Lib.hid (show (S ++ { data := #[34] } : ByteArray).data.toList = 34 :: (hexL s.data.toList ++ [34]) by
        rw [ByteArray.data_append, Array.toList_append, hx.out, List.take_of_length_le (by rw [size_data]; omega)]; rfl)
      go_wp2
      go_ret2
      exact RetDec.mk_ (by rw [HV.out]; exact HF.out) (by rw [HV.out]) (below_drewN HB.out d)
end Go.Proofs.YtjnamjkdjcndiaaDoor
