/-
  The contracts of date.put, date.Format and of ref1.FormatDate.
-/
import Derived.Test.YtjnamjkdjcndiaaDoorDate2
import Derived.Test.YtjnamjkdjcndiaaDoorRDigits
import Derived.Test.YtjnamjkdjcndiaaDoorBase
import Derived.Test.YtjnamjkdjcndiaaDoorGarbNames
namespace Go.Proofs.YtjnamjkdjcndiaaDoor
open Go.RowKit
def BlkF (w : World) (g : Nat) (t : TypeId) (cs : Array Value) (fr : Nat × Nat) : Prop := w.heap[g]? = some (.cells cs t fr)
section
variable {w w' : World} {g : Nat} {t : TypeId} {cs : Array Value} {fr : Nat × Nat}
theorem BlkF.lt (h : BlkF w g t cs fr) : g < w.heap.size := by
  rcases Nat.lt_or_ge g w.heap.size with h' | h'
  · exact h'
  · unfold BlkF at h; simp [Array.getElem?_eq_none h'] at h
theorem BlkF.cell (h : BlkF w g t cs fr) (i : Nat) : w.cell? ⟨g, i, none⟩ = cs[i]? := cell_of_row w g i cs t fr h
theorem BlkF.frozen (h : BlkF w g t cs fr) (i : Nat) (hi : i < fr.1) : w.frozen? ⟨g, i, none⟩ = false := by
  unfold BlkF at h; simp [World.frozen?, h]; omega
theorem BlkF.set_ (h : BlkF w g t cs fr) (i : Nat) (u : Value) : BlkF (w.setCell ⟨g, i, none⟩ u) g t (cs.setIfInBounds i u) fr := by
  unfold BlkF at h ⊢
  simp [World.setCell, Array.getElem?_modify, h]
end
/-- What put writes: k digits of n from place off on. -/
def putC (cs : Array Value) (off : Nat) : Nat → Nat → Array Value
  | 0, _ => cs
  | k + 1, n => putC (cs.setIfInBounds (off + k) (.int .u8 (48 + ((n % 10 : Nat) : Int)))) off k (n / 10)
def RetPut (w : World) (g : Nat) (t : TypeId) (cs : Array Value) (fr : Nat × Nat) (e : Ending) (w' : World) : Prop := e = .returned (.tuple #[]) ∧ BlkF w' g t cs fr ∧ Only g w w'
set_option maxRecDepth 100000 in
set_option maxHeartbeats 2000000 in
theorem put_any (g off k c n : Nat) (cs : Array Value) (fr : Nat × Nat) (w : World) (hk : k ≤ 10) (hn : n ≤ 1000000) (hs : off + k ≤ cs.size) (hf : off + k ≤ fr.1) (hB : BlkF w g 5 cs fr) :
    Calls Tryd.prog 67 #[.slice (some ⟨g, off, none⟩) k c, .int .i64 n] w (RetPut w g 5 (putC cs off k n) fr) := by
  go_enter Tryd.func67, Tryd.ntmps67
  go_wp2
  go_loopw [1, 4] (fun x i wr => ∃ (j m : Nat) (z : Int) (cs' : Array Value), j ≤ k ∧ z = (j : Int) - 1 ∧ i = .int .i64 z ∧ x = .int .i64 m ∧ m ≤ 1000000 ∧ BlkF wr g 5 cs' fr ∧ cs'.size = cs.size ∧ Only g w wr ∧ Hid (putC cs' off j m = putC cs off k n)) (fun _ i _ => (intOf i + 1).toNat)
  case atStart => exact ⟨k, n, _, cs, by omega, rfl, rfl, rfl, hn, hB, rfl, Only.refl _ _, Lib.hid rfl⟩
  case round =>
    obtain ⟨j, m, z, cs', hj, hz, rfl, rfl, hm, hb, hsz, ho, hp⟩ := hrel
    rcases j with _ | i
    · obtain rfl : z = -1 := by omega
      have HE := Lib.hid (show cs' = putC cs off k n from hp.out)
      have HO := Lib.hid ho
      have HB := Lib.hid hb
      clear hz hp ho hb hsz
      go_wp2
      go_end0
      exact ⟨rfl, by rw [← HE.out]; exact HB.out, HO.out⟩
    · obtain rfl : z = (i : Int) := by omega
      obtain ⟨u, hu⟩ : ∃ u, cs'[off + i]? = some u := ⟨_, Array.getElem?_eq_getElem (by omega)⟩
      have hc := (hb.cell (off + i)).trans hu
      have hfz := hb.frozen (off + i) (by omega)
      have HN := Lib.hid (show putC (cs'.setIfInBounds (off + i) (.int .u8 (48 + ((m % 10 : Nat) : Int)))) off i (m / 10) = putC cs off k n from hp.out)
      have HS := Lib.hid hsz
      clear hz hp hu hsz
      go_wp2
      go_roundw
      case rel => exact ⟨i, m / 10, _, _, by omega, rfl, by go_num, by go_num, by omega, hb.set_ _ _, by simpa using HS.out, ho.set_ _ _, HN⟩
      case measure => simp [intOf]
def numsD (Y M D : Nat) : List Int := [48 + ((Y / 10 / 10 / 10 % 10 : Nat) : Int), 48 + ((Y / 10 / 10 % 10 : Nat) : Int), 48 + ((Y / 10 % 10 : Nat) : Int), 48 + ((Y % 10 : Nat) : Int), 45, 48 + ((M / 10 % 10 : Nat) : Int), 48 + ((M % 10 : Nat) : Int), 45, 48 + ((D / 10 % 10 : Nat) : Int), 48 + ((D % 10 : Nat) : Int)]
def zeroD : Array Value := #[.int .u8 48, .int .u8 48, .int .u8 48, .int .u8 48, .int .u8 45, .int .u8 48, .int .u8 48, .int .u8 45, .int .u8 48, .int .u8 48]
theorem putC_size (off : Nat) : ∀ (k n : Nat) (cs : Array Value), (putC cs off k n).size = cs.size
  | 0, _, _ => rfl
  | k + 1, n, cs => by rw [putC, putC_size off k]; simp
theorem putC_D (Y M D : Nat) : putC (putC (putC zeroD 0 4 Y) 5 2 M) 8 2 D = ((numsD Y M D).map (Value.int .u8)).toArray := by
  simp [putC, zeroD, numsD]
theorem ofN (c : Nat) : UInt8.ofNat (48 + ((c % 10 : Nat) : Int)).toNat = UInt8.ofNat (48 + c % 10) := by congr 1
theorem numsD_eq {Y M D : Nat} (hY : Y < 10000) (hM : M < 100) (hD : D < 100) : (strOfNums (numsD Y M D)).data.toList = dateL Y M D := by
  rw [strOfNums_data]
  unfold dateL numsD
  rw [digL_4 Y hY, digL_2 M hM, digL_2 D hD]
  simp only [List.map_cons, List.map_nil, ofN, Nat.div_div_eq_div_mul]
  rfl
theorem numsD_len (Y M D : Nat) : (numsD Y M D).length = 10 := rfl
theorem civ_nat {n y m d : Int} (h : IsCiv n y m d) : ∃ Y M D : Nat, y = Y ∧ m = M ∧ d = D ∧ Y < 10000 ∧ M < 100 ∧ D < 100 := by
  obtain ⟨h1, h2, k, rfl, hk, _, h3, h4⟩ := h
  have := monL_bd y ((k : Int) + 1)
  exact ⟨y.toNat, k + 1, d.toNat, by omega, by omega, by omega, by omega, by omega, by omega⟩
set_option maxRecDepth 100000 in
set_option maxHeartbeats 2000000 in
theorem datefmt_in (n : Int) (w : World) (h0 : -719162 ≤ n) (h1 : n ≤ 2932896) : Calls Tryd.prog 56 #[.int .i64 n] w (RetDec w (dateV n)) := by
  have C1 := Lib.hid (civil_in n w h0 h1)
  have kc := fun (w : World) (C : Array Value) (n c : Nat) => Lib.run_convert_bytes_const (P := Tryd.prog) w 55 5 C n c Tryd.underlying55 Tryd.underlying5
  go_enter Tryd.func56, Tryd.ntmps56
  go_wp2_with fail
  refine C1.out.mono ?_
  rintro _ _ ⟨y, m, d, hciv, rfl, rfl⟩
  have HV := Lib.hid (dateV_in h0 h1 hciv)
  obtain ⟨Y, M, D, rfl, rfl, rfl, hY, hM, hD⟩ := civ_nat hciv
  clear hciv
  go_wp2_with fail
  have B0 : BlkF (w.alloc (.cells zeroD 5 (10, 11))) w.heap.size 5 zeroD (10, 11) := heap_alloc_new w _
  have hb0 : Below w.heap.size w (w.alloc (.cells zeroD 5 (10, 11))) := (Below.refl _ _).alloc (Nat.le_refl _) _
  obtain ⟨W, hW⟩ : ∃ W, W = w.alloc (.cells zeroD 5 (10, 11)) := ⟨_, rfl⟩
  rw [← hW] at B0 hb0
  rw [show w.alloc (.cells #[.int .u8 48, .int .u8 48, .int .u8 48, .int .u8 48, .int .u8 45, .int .u8 48, .int .u8 48, .int .u8 45, .int .u8 48, .int .u8 48] 5 (10, 11)) = W from hW.symm]
  have HB0 := Lib.hid hb0
  have P1 := Lib.hid (put_any w.heap.size 0 4 10 Y zeroD (10, 11) W (by omega) (by omega) (by decide) (by decide) B0)
  clear hW B0 hb0
  refine P1.out.mono ?_
  rintro _ w1 ⟨rfl, b1, o1⟩
  have HO1 := Lib.hid (below_only HB0.out o1 (Nat.le_refl _) HB0.out.size)
  have P2 := Lib.hid (put_any w.heap.size 5 2 5 M (putC zeroD 0 4 Y) (10, 11) w1 (by omega) (by omega) (by rw [putC_size]; decide) (by decide) b1)
  clear b1 o1 P1
  go_wp2_with fail
  refine P2.out.mono ?_
  rintro _ w2 ⟨rfl, b2, o2⟩
  have HO2 := Lib.hid (below_only HO1.out o2 (Nat.le_refl _) HO1.out.size)
  have P3 := Lib.hid (put_any w.heap.size 8 2 2 D (putC (putC zeroD 0 4 Y) 5 2 M) (10, 11) w2 (by omega) (by omega) (by rw [putC_size, putC_size]; decide) (by decide) b2)
  clear b2 o2 P2
  go_wp2_with fail
  refine P3.out.mono ?_
  rintro _ w3 ⟨rfl, b3, o3⟩
  have HO3 := Lib.hid (below_only HO2.out o3 (Nat.le_refl _) HO2.out.size)
  rw [putC_D] at b3
  have hcv := run_convert_bytes_arg (P := Tryd.prog) (w := w3) 55 5 Tryd.underlying55 Tryd.underlying5 w.heap.size 0 10 10 (numsD Y M D) (numsD_len Y M D) (fun i hi => by
    rw [Nat.zero_add, b3.cell i]
    have hl : i < (numsD Y M D).length := by rw [numsD_len]; exact hi
    simp [List.getD, List.getElem?_eq_getElem hl])
  have HN := Lib.hid (numsD_eq hY hM hD)
  clear b3 o3 P3
  go_wp2
  go_ret2
  exact RetDec.mk_ (by rw [HV.out]; exact HN.out) (by rw [HV.out]) HO3.out
theorem datefmt_any (n : Int) (w : World) : Calls Tryd.prog 56 #[.int .i64 n] w (RetDec w (dateV n)) := by
  by_cases h : -719162 ≤ n ∧ n ≤ 2932896
  · exact datefmt_in n w h.1 h.2
  · have HV := Lib.hid (dateV_out h)
    have C1 := Lib.hid (civil_out n w h)
    clear h
    go_enter Tryd.func56, Tryd.ntmps56
    go_wp2_with fail
    refine C1.out.mono ?_
    rintro _ _ ⟨rfl, rfl⟩
    go_wp2
    go_ret2
    exact RetDec.mk_ (by rw [HV.out]) (by rw [HV.out]) (Below.refl _ _)
set_option maxRecDepth 100000 in
set_option maxHeartbeats 1000000 in
theorem rdatefmt_any (n : Int) (w : World) : Calls Tryd.prog 48 #[.int .i64 n] w (RetDec w (dateV n)) := by
  by_cases h : -719162 ≤ n ∧ n ≤ 2932896
  · have C1 := Lib.hid (rcivil_in n w h.1 h.2)
    go_enter Tryd.func48, Tryd.ntmps48
    go_wp2_with fail
    refine C1.out.mono ?_
    rintro _ _ ⟨y, m, d, hciv, rfl, rfl⟩
    have HV := Lib.hid (dateV_in h.1 h.2 hciv)
    obtain ⟨Y, M, D, rfl, rfl, rfl, hY, hM, hD⟩ := civ_nat hciv
    clear hciv C1 h
    obtain ⟨QY, hQY⟩ : ∃ Q : ByteArray, Q.data.toList = digL Y 4 := ⟨⟨(digL Y 4).toArray⟩, by simp⟩
    obtain ⟨QM, hQM⟩ : ∃ Q : ByteArray, Q.data.toList = digL M 2 := ⟨⟨(digL M 2).toArray⟩, by simp⟩
    obtain ⟨QD, hQD⟩ : ∃ Q : ByteArray, Q.data.toList = digL D 2 := ⟨⟨(digL D 2).toArray⟩, by simp⟩
    have CY := Lib.hid (fun X => retS_of hQY (digits_any Y 4 X (by omega) (by omega)))
    have CM := Lib.hid (fun X => retS_of hQM (digits_any M 2 X (by omega) (by omega)))
    have CD := Lib.hid (fun X => retS_of hQD (digits_any D 2 X (by omega) (by omega)))
    have zY : QY.size = 4 := by rw [← sizeD, hQY, digL_4 Y hY]; rfl
    have zM : QM.size = 2 := by rw [← sizeD, hQM, digL_2 M hM]; rfl
    have zD : QD.size = 2 := by rw [← sizeD, hQD, digL_2 D hD]; rfl
    have HQ := Lib.hid (show dateL Y M D = QY.data.toList ++ [45] ++ QM.data.toList ++ [45] ++ QD.data.toList by rw [hQY, hQM, hQD]; rfl)
    clear hQY hQM hQD
    rw [show ((4 : Nat) : Int) = 4 from rfl] at CY
    rw [show ((2 : Nat) : Int) = 2 from rfl] at CM CD
    go_wp2_with fail
    refine (CY.out _).mono ?_
    rintro _ _ ⟨rfl, rfl⟩
    go_wp2_with fail
    refine (CM.out _).mono ?_
    rintro _ _ ⟨rfl, rfl⟩
    go_wp2_with fail
    refine (CD.out _).mono ?_
    rintro _ _ ⟨rfl, rfl⟩
    go_wp2
    go_ret2
    exact RetDec.mk_ (by rw [HV.out]; simp only [Int.toNat_natCast]; rw [HQ.out]; simp) (by rw [HV.out]) (Below.refl _ _)
  · have HV := Lib.hid (dateV_out h)
    have C1 := Lib.hid (rcivil_out n w h)
    clear h
    go_enter Tryd.func48, Tryd.ntmps48
    go_wp2_with fail
    refine C1.out.mono ?_
    rintro _ _ ⟨rfl, rfl⟩
    go_wp2
    go_ret2
    exact RetDec.mk_ (by rw [HV.out]) (by rw [HV.out]) (Below.refl _ _)
end Go.Proofs.YtjnamjkdjcndiaaDoor
