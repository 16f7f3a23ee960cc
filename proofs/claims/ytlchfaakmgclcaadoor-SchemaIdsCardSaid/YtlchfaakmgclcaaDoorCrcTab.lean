/-
  The contracts of crc.Table, crc.step.
-/
import Derived.Test.YtlchfaakmgclcaaDoorCrcSpec
import Derived.Test.YtlchfaakmgclcaaDoorInv2
import Derived.Test.YtlchfaakmgclcaaDoorSFmtSpec
namespace Go.Proofs.YtlchfaakmgclcaaDoor
open Go.RowKit Go.Sort
set_option linter.unusedVariables false
theorem made256 : ∀ w : World, (Instr.makeSlice 85 (.int .i64 256) (.int .i64 256)).run Tryd.prog w = .ok (.slice (some ⟨w.heap.size, 0, none⟩) 256 256) (w.alloc (.cells (Array.replicate 256 (.int .u32 0)) 40)) := fun _ => by kernel_rfl
/-- The table of the bytes. -/
def RetTab (w : World) (e : Ending) (w' : World) : Prop := ∃ A c, e = .returned (.slice (some A) 256 c) ∧ Sl w' 1 (.slice (some A) 256 c) 256 tabV ∧ Below w.heap.size w w'
theorem sl_tab {w : World} {g : Nat} (h : Blk w g 40 (tabUpto 256)) : Sl w 1 (.slice (some ⟨g, 0, none⟩) 256 256) 256 tabV :=
  ⟨_, _, rfl, Nat.le_refl _, by decide, by show (tabUpto 256).toList.length = 256 * 1; rw [Array.length_toList]; exact Array.size_ofFn, fun _ => ⟨_, rfl, h.lt, fun j u hu => by
    have e1 : (⟨g, 0, none⟩ : Addr).add j = ⟨g, j, none⟩ := by unfold Addr.add; split <;> simp_all
    rw [e1, h.cell j]; unfold tabV at hu; rw [Array.getElem?_toList] at hu; exact hu⟩⟩
set_option maxRecDepth 100000 in
set_option maxHeartbeats 2000000 in
theorem tab_any (w : World) : Calls Tryd.prog 64 #[] w (RetTab w) := by
  have hmk := made256
  go_enter Tryd.func64, Tryd.ntmps64
  go_wp2_with fail
  go_loopw [7] (fun i wr => ∃ n : Nat, n ≤ 256 ∧ i = .int .i64 n ∧ Blk wr w.heap.size 40 (tabUpto n) ∧ Below w.heap.size w wr) (fun i _ => 256 - (intOf i).toNat)
  case atStart => exact ⟨0, by omega, rfl, by rw [tabUpto_zero]; exact Blk.new _ _ _, below_new _ _⟩
  case round =>
    obtain ⟨n, hn, rfl, hB, hbel⟩ := hrel
    by_cases hlt : n < 256
    case neg =>
      obtain rfl : n = 256 := by omega
      go_wp2
      go_ret
      exact ⟨_, _, rfl, sl_tab hB, hbel⟩
    case pos =>
      have hc := (hB.cell n).trans (tabUpto_get hlt)
      rw [if_neg (Nat.lt_irrefl n)] at hc
      have hf := hB.frozen n
      have hcv : IntKind.u32.wrap (n : Int) = n := by rw [IntKind.wrap_u32]; omega
      obtain ⟨wo, rfl⟩ : ∃ wo : World, wo = wr := ⟨_, rfl⟩
      go_wp2_with fail
      go_loopw [3, 12] (fun v j wi => ∃ m : Nat, m ≤ 8 ∧ j = .int .i64 m ∧ v = .int .u32 (crcIt m n) ∧ wi = wo) (fun _ j _ => 8 - (intOf j).toNat)
      case atStart => exact ⟨0, by omega, rfl, rfl, rfl⟩
      case round =>
        obtain ⟨m, hm, rfl, rfl, rfl⟩ := hrel
        obtain ⟨r0, r1⟩ := crcIt_range (v := (n : Int)) (by omega) (by omega) m
        by_cases hlm : m < 8
        case neg =>
          obtain rfl : m = 8 := by omega
          obtain ⟨V, hV⟩ : ∃ V : Int, crcIt 8 (n : Int) = V := ⟨_, rfl⟩
          have HV := Lib.hid (show tabF n = V from hV)
          rw [hV] at r0 r1 ⊢
          clear hV
          go_wp2
          go_roundw
          case rel => exact ⟨n + 1, by omega, by go_num, by rw [← tabUpto_set, HV.out]; exact hB.set_ _ _, hbel.setCell (p := ⟨w.heap.size, n, none⟩) (Nat.le_refl _) _⟩
          case measure => simp [intOf]; omega
        case pos =>
          obtain ⟨V, hV⟩ : ∃ V : Int, crcIt m (n : Int) = V := ⟨_, rfl⟩
          have HV := Lib.hid (show crcIt (m + 1) (n : Int) = crcStep V by rw [← hV]; rfl)
          rw [hV] at r0 r1 ⊢
          clear hV
          rcases and32_one V with ha | ha
          · have HS := Lib.hid (step_zero ha)
            have hx0 : bits .xor .u32 (V / 2) 0 = V / 2 := by have := xor32_zero (V / 2).toNat (by omega); rwa [Int.toNat_of_nonneg (by omega)] at this
            go_wp2
            go_roundw
            case rel => exact ⟨m + 1, by omega, by go_num, by rw [HV.out, HS.out], trivial⟩
            case measure => simp [intOf]; omega
          · have HS := Lib.hid (step_one ha)
            go_wp2
            go_roundw
            case rel => exact ⟨m + 1, by omega, by go_num, by rw [HV.out, HS.out], trivial⟩
            case measure => simp [intOf]; omega
def RetU0 (w : World) (x : Int) (e : Ending) (w' : World) : Prop := e = .returned (.int .u32 x) ∧ w' = w
set_option maxRecDepth 100000 in
set_option maxHeartbeats 1000000 in
theorem step_any (A : Addr) (c : Nat) (v b : Int) (w : World) (hs : Sl w 1 (.slice (some A) 256 c) 256 tabV) (h0 : 0 ≤ v) (h1 : v < 4294967296) :
    Calls Tryd.prog 95 #[.slice (some A) 256 c, .int .u32 v, .int .u8 b] w (RetU0 w (stepB v b)) := by
  have hr := xor8_range (v % 256) b
  have HS := Lib.hid (show stepB v b = bits .xor .u32 (v / 256) (tabF (bits .xor .u8 (v % 256) b).toNat) from rfl)
  obtain ⟨k, hk⟩ : ∃ k : Nat, bits .xor .u8 (v % 256) b = (k : Int) := Int.eq_ofNat_of_zero_le hr.1
  have hk2 : k < 256 := by omega
  obtain ⟨ad, u, e1, hlt, hu, hc⟩ := hs.at_ hk2
  rw [tabV_get hk2] at hu
  injection e1 with e1
  injection hu with hu
  subst e1 hu
  rw [hk, Int.toNat_natCast] at HS
  have hkI : (k : Int) < 256 := by omega
  go_enter Tryd.func95, Tryd.ntmps95
  go_wp2
  go_ret
  exact ⟨by rw [HS.out]; rfl, rfl⟩
theorem info_u32 : (Tryd.prog.info? 40).map (fun i => (i.zero, i.size, i.bytes)) = some (some (.int .u32 0), 1, 4) := by kernel_rfl
def tabTake (n : Nat) : List Value := (List.range n).map fun k => .int .u32 (tabF k)
theorem tabTake_snoc (n : Nat) : tabTake (n + 1) = tabTake n ++ [.int .u32 (tabF n)] := by unfold tabTake; rw [List.range_succ, List.map_append]; rfl
theorem tabTake_all : tabTake 256 = tabV := by
  apply List.ext_getElem?
  intro k
  by_cases h : k < 256
  · rw [tabV_get h]; unfold tabTake; rw [List.getElem?_map, List.getElem?_range h]; rfl
  · rw [List.getElem?_eq_none (by simp [tabTake]; omega), List.getElem?_eq_none (by show (tabUpto 256).toList.length ≤ k; rw [Array.length_toList]; unfold tabUpto; rw [Array.size_ofFn]; omega)]
theorem one32 (x : Int) : ∀ u ∈ (#[.int .u32 x] : Array Value).toList, u.oneCell' = true := by
  intro u hu
  simp at hu
  subst hu; rfl
set_option maxRecDepth 100000 in
set_option maxHeartbeats 2000000 in
theorem rtab_any (w : World) : Calls Tryd.prog 66 #[] w (RetTab w) := by
  go_enter Tryd.func66, Tryd.ntmps66
  go_wp2_with fail
  go_loopw [1, 2] (fun r i wr => ∃ n : Nat, n ≤ 256 ∧ i = .int .u32 n ∧ wr.ownsRow w.heap.size 40 1 r n (tabTake n) ∧ Below w.heap.size w wr) (fun _ i _ => 256 - (intOf i).toNat)
  case atStart => exact ⟨0, by omega, rfl, World.ownsRow_nil _ _ _ _, Below.refl _ _⟩
  case round =>
    obtain ⟨n, hn, rfl, hown, hbel⟩ := hrel
    by_cases hlt : n < 256
    case neg =>
      obtain rfl : n = 256 := by omega
      have hs := Sl.of_own hown
      obtain ⟨A, c, rfl, hc1, hc2⟩ := hs.form
      obtain ⟨ad, _, e1, _⟩ := hs.at_ (k := 0) (by omega)
      subst e1
      rw [tabTake_all] at hs
      clear hown
      go_wp2
      go_ret
      exact ⟨_, _, rfl, hs, hbel⟩
    case pos =>
      have hw1 : IntKind.u32.wrap ((n : Int) + 1) = (n : Int) + 1 := by rw [IntKind.wrap_u32]; omega
      obtain ⟨wo, rfl⟩ : ∃ wo : World, wo = wr := ⟨_, rfl⟩
      go_wp2_with fail
      go_loopw [3, 4] (fun v j wi => ∃ m : Nat, m ≤ 8 ∧ j = .int .i64 m ∧ v = .int .u32 (crcIt m n) ∧ wi = wo) (fun _ j _ => 8 - (intOf j).toNat)
      case atStart => exact ⟨0, by omega, rfl, rfl, rfl⟩
      case round =>
        obtain ⟨m, hm, rfl, rfl, rfl⟩ := hrel
        obtain ⟨r0, r1⟩ := crcIt_range (v := (n : Int)) (by omega) (by omega) m
        by_cases hlm : m < 8
        case neg =>
          obtain rfl : m = 8 := by omega
          obtain ⟨V, hV⟩ : ∃ V : Int, crcIt 8 (n : Int) = V := ⟨_, rfl⟩
          have HV := Lib.hid (show tabF n = V from hV)
          rw [hV] at r0 r1 ⊢
          clear hV
          go_wp2_with (at_builtin; go_must (refine app1 _ _ hown hbel (Nat.le_refl _) hbel.size Tryd.underlying85 info_u32 rfl (by decide) rfl (one32 _) (by omega) (by omega) rfl rfl rfl rfl ?_))
          intro g cap w' hown' hbel' _ _
          go_wp2
          go_roundw
          case rel => exact ⟨n + 1, by omega, by go_num, by rw [tabTake_snoc, HV.out]; exact hown', hbel'⟩
          case measure => simp [intOf]; omega
        case pos =>
          obtain ⟨V, hV⟩ : ∃ V : Int, crcIt m (n : Int) = V := ⟨_, rfl⟩
          have HV := Lib.hid (show crcIt (m + 1) (n : Int) = crcStep V by rw [← hV]; rfl)
          rw [hV] at r0 r1 ⊢
          clear hV
          rcases and32_one V with ha | ha
          · have HS := Lib.hid (step_zero ha)
            have hq : ((0 : Int) == 1) = false := rfl
            go_wp2
            go_roundw
            case rel => exact ⟨m + 1, by omega, by go_num, by rw [HV.out, HS.out], trivial⟩
            case measure => simp [intOf]; omega
          · have HS := Lib.hid (step_one ha)
            go_wp2
            go_roundw
            case rel => exact ⟨m + 1, by omega, by go_num, by rw [HV.out, HS.out], trivial⟩
            case measure => simp [intOf]; omega
def sumV (l : List UInt8) : Int := bits .xor .u32 (-1) (foldB 4294967295 l)
def RetU (w : World) (x : Int) (e : Ending) (w' : World) : Prop := e = .returned (.int .u32 x) ∧ Below w.heap.size w w'
set_option maxRecDepth 100000 in
set_option maxHeartbeats 2000000 in
theorem sum_any (A : Addr) (c : Nat) (s : ByteArray) (w : World) (hs : Sl w 1 (.slice (some A) 256 c) 256 tabV) (hsz : s.size ≤ 9223372036854775807) :
    Calls Tryd.prog 63 #[.slice (some A) 256 c, .string s] w (RetU w (sumV s.data.toList)) := by
  have HS := Lib.hid (show sumV s.data.toList = bits .xor .u32 (-1) (foldB 4294967295 s.data.toList) from rfl)
  have CS := Lib.hid (step_any A c)
  go_enter Tryd.func63, Tryd.ntmps63
  go_wp2_with fail
  go_loopw [5, 12] (fun v i wr => ∃ m : Nat, m ≤ s.size ∧ i = .int .i64 m ∧ v = .int .u32 (foldB 4294967295 (s.data.toList.take m)) ∧ Below w.heap.size w wr) (fun _ i _ => s.size - (intOf i).toNat)
  case atStart => exact ⟨0, by omega, rfl, rfl, Below.refl _ _⟩
  case round =>
    obtain ⟨m, hm, rfl, rfl, hbel⟩ := hrel
    have hr := foldB_range (v := 4294967295) (by omega) (by omega) (s.data.toList.take m)
    by_cases hlt : m < s.size
    case pos =>
      have HN := Lib.hid (foldB_snoc (v := 4294967295) hlt)
      obtain ⟨V, hV⟩ : ∃ V : Int, foldB 4294967295 (s.data.toList.take m) = V := ⟨_, rfl⟩
      rw [hV] at hr HN ⊢
      obtain ⟨r0, r1⟩ := hr
      clear hV
      have HX := Lib.hid (CS.out V (s[m].toNat : Int) wr (hs.below hbel) r0 r1)
      go_wp2_with fail
      refine HX.out.mono ?_
      rintro _ _ ⟨rfl, rfl⟩
      go_wp2
      go_roundw
      case rel => exact ⟨m + 1, by omega, by go_num, by rw [HN.out], hbel⟩
      case measure => simp [intOf]; omega
    case neg =>
      obtain rfl : m = s.size := by omega
      rw [show s.data.toList.take s.size = s.data.toList from List.take_of_length_le (by rw [Array.length_toList]; exact Nat.le_refl _)] at hr ⊢
      go_wp2
      go_ret
      exact ⟨by rw [HS.out]; rfl, hbel⟩
set_option maxRecDepth 100000 in
set_option maxHeartbeats 2000000 in
theorem rsum_any (A : Addr) (c : Nat) (s : ByteArray) (w : World) (hs : Sl w 1 (.slice (some A) 256 c) 256 tabV) (hsz : s.size ≤ 9223372036854775807) :
    Calls Tryd.prog 65 #[.slice (some A) 256 c, .string s] w (RetU w (sumV s.data.toList)) := by
  have HS := Lib.hid (show sumV s.data.toList = bits .xor .u32 (-1) (foldB 4294967295 s.data.toList) from rfl)
  go_enter Tryd.func65, Tryd.ntmps65
  go_wp2_with fail
  go_loopw [5, 6] (fun v i wr => ∃ m : Nat, m ≤ s.size ∧ i = .int .i64 m ∧ v = .int .u32 (foldB 4294967295 (s.data.toList.take m)) ∧ Below w.heap.size w wr) (fun _ i _ => s.size - (intOf i).toNat)
  case atStart => exact ⟨0, by omega, rfl, rfl, Below.refl _ _⟩
  case round =>
    obtain ⟨m, hm, rfl, rfl, hbel⟩ := hrel
    have hr := foldB_range (v := 4294967295) (by omega) (by omega) (s.data.toList.take m)
    by_cases hlt : m < s.size
    case pos =>
      have HN := Lib.hid (foldB_snoc (v := 4294967295) hlt)
      obtain ⟨V, hV⟩ : ∃ V : Int, foldB 4294967295 (s.data.toList.take m) = V := ⟨_, rfl⟩
      rw [hV] at hr HN ⊢
      obtain ⟨r0, r1⟩ := hr
      clear hV
      obtain ⟨b, hb⟩ : ∃ b : Int, (s[m].toNat : Int) = b := ⟨_, rfl⟩
      rw [hb] at HN
      have hx := xor8_range (V % 256) b
      have HB := Lib.hid (show stepB V b = bits .xor .u32 (V / 256) (tabF (bits .xor .u8 (V % 256) b).toNat) from rfl)
      obtain ⟨k, hk⟩ : ∃ k : Nat, bits .xor .u8 (V % 256) b = (k : Int) := Int.eq_ofNat_of_zero_le hx.1
      have hk2 : k < 256 := by omega
      obtain ⟨ad, u, e1, hltA, hu, hc⟩ := (hs.below hbel).at_ hk2
      rw [tabV_get hk2] at hu
      injection e1 with e1
      injection hu with hu
      subst e1 hu
      rw [hk, Int.toNat_natCast] at HB
      have hkI : (k : Int) < 256 := by omega
      clear hx
      go_wp2
      go_roundw
      case rel => exact ⟨m + 1, by omega, by go_num, by rw [HN.out, HB.out], hbel⟩
      case measure => simp [intOf]; omega
    case neg =>
      obtain rfl : m = s.size := by omega
      rw [show s.data.toList.take s.size = s.data.toList from List.take_of_length_le (by rw [Array.length_toList]; exact Nat.le_refl _)] at hr ⊢
      go_wp2
      go_ret
      exact ⟨by rw [HS.out]; rfl, hbel⟩
end Go.Proofs.YtlchfaakmgclcaaDoor
