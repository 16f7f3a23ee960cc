/-
  Words for the laws of the decimals that parse: awake, scale, number; what Parse answers to what Format writes.
-/
import Derived.Test.YtllijchdcminhaaDoorDecParse
import Derived.Test.YtllijchdcminhaaDoorPick
namespace Go.Proofs.YtllijchdcminhaaDoor
open Go.RowKit
def RetB1' (w : World) (b : Bool) (e : Ending) (w' : World) : Prop := e = .returned (.bool b) ∧ Below w.heap.size w w'
theorem dec51 : decV 5 1 = ([48, 46, 53], 0) := by decide +kernel
set_option maxHeartbeats 400000 in
theorem awake5_any (w : World) (ht : Tab w) : Calls Tryd.prog 10 #[] w (RetB1' w true) := by
  have C := Lib.hid (show Calls Tryd.prog 13 #[.int .i64 5, .int .i64 1] w (RetDec w ([48, 46, 53], 0)) by rw [← dec51]; exact decfmt_any 5 1 w ht)
  go_enter Tryd.func10, Tryd.ntmps10
  go_wp2_with fail
  refine C.out.mono ?_
  rintro e w1 ⟨rfl, hb1⟩
  have HB := Lib.hid hb1
  clear hb1
  go_wp2
  go_ret
  exact ⟨by simp, HB.out⟩
theorem scale_any (v : Int) (w : World) : Calls Tryd.prog 8 #[.int .i64 v] w fun e w' => e = .returned (.int .i64 (pick v 21 - 1)) ∧ w = w' := by
  have p1 := pick_lo v 21 (by omega)
  have p2 := pick_hi v 21 (by omega)
  go_enter Tryd.func8, Tryd.ntmps8
  go_wp2_with fail
  refine (pick_any v 21 w (by omega) (by omega)).mono ?_
  rintro e w' ⟨rfl, rfl⟩
  go_wp2
  go_ret
  exact ⟨rfl, rfl⟩
def RetNum (w : World) (e : Ending) (w' : World) : Prop := ∃ m : Int, e = .returned (.int .i64 m) ∧ -999999999999999999 ≤ m ∧ m ≤ 999999999999999999 ∧ w = w'
theorem tmod18 (z : Int) : -999999999999999999 ≤ z.tmod 1000000000000000000 ∧ z.tmod 1000000000000000000 ≤ 999999999999999999 := by
  rcases Int.le_total 0 z with h | h
  · rw [Int.tmod_eq_emod_of_nonneg h]; omega
  · obtain ⟨y, rfl⟩ : ∃ y, z = -y := ⟨-z, by omega⟩
    rw [Int.neg_tmod, Int.tmod_eq_emod_of_nonneg (by omega)]; omega
theorem RetNum.mk_ {w : World} {z m : Int} (h : m = z.tmod 1000000000000000000) : RetNum w (.returned (.int .i64 m)) w := by
  subst h; exact ⟨_, rfl, (tmod18 z).1, (tmod18 z).2, rfl⟩
set_option maxHeartbeats 1000000 in
theorem number_any (n s : Int) (w : World) (s0 : 0 ≤ s) (s1 : s ≤ 255) : Calls Tryd.prog 12 #[.int .i64 n, .int .u8 s] w (RetNum w) := by
  go_enter Tryd.func12, Tryd.ntmps12
  go_wp2
  go_ret
  exact RetNum.mk_ rfl
theorem decV_in {n : Int} {i : Nat} (h0 : -999999999999999999 ≤ n) (h1 : n ≤ 999999999999999999) (hi : i ≤ 18) : decV n i = (decStr (decide (n < 0)) n.natAbs i, 0) := by
  have e : (withB n && scaB (i : Int)) = true := by simp [withB, scaB]; omega
  unfold decV; rw [if_pos e, Int.toNat_natCast]
theorem resc_up {n : Int} {i d : Nat} (h0 : -999999999999999999 ≤ n) (h1 : n ≤ 999999999999999999) (hi : i + d ≤ 18) : rescaleV n i ((i : Int) + d) = outR (upN d n) :=
  rescaleV_up (by simp [withB]; omega) (by simp [scaB]; omega) (by simp [scaB]; omega) (by omega) (k := d) (by omega) rfl
theorem retDec_of {w : World} {r : List UInt8 × Int} {T : ByteArray} {b : Int} (h1 : T.data.toList = r.1) (h2 : r.2 = b) {P : Program} {f : FuncId} {args : Array Value} (hc : Calls P f args w (RetDec w r)) : Calls P f args w fun e w' => e = .returned (.tuple #[.string T, .int .i64 b]) ∧ Below w.heap.size w w' := by
  subst h2; unfold RetDec at hc; rw [← h1] at hc; exact hc
theorem retRb_of {w : World} {r : Int × Int} {a b : Int} (h : r = (a, b)) {P : Program} {f : FuncId} {args : Array Value} (hc : Calls P f args w (RetRb w r)) : Calls P f args w fun e w' => e = .returned (.tuple #[.int .i64 a, .int .i64 b]) ∧ Below w.heap.size w w' := by subst h; exact hc
theorem retRs_of2 {w : World} {r : Int × Int} {a b : Int} (h : r = (a, b)) {P : Program} {f : FuncId} {args : Array Value} (hc : Calls P f args w (RetRs w r)) : Calls P f args w fun e w' => e = .returned (.tuple #[.int .i64 a, .int .i64 b]) ∧ w = w' := by subst h; exact hc
theorem decStr_len (neg : Bool) (m k : Nat) (hm : m ≤ 999999999999999999) (hk : k ≤ 18) : (decStr neg m k).length ≤ 62 := by
  have h := padL_le m k hm hk
  unfold decStr
  rw [List.length_append]
  have h1 : (if neg = true then ([45] : List UInt8) else []).length ≤ 1 := by split <;> simp
  have h2 : (if k = 0 then padL m k else (padL m k).take ((padL m k).length - k) ++ [46] ++ (padL m k).drop ((padL m k).length - k)).length ≤ 61 := by
    split
    · omega
    · simp only [List.length_append, List.length_take, List.length_drop, List.length_cons, List.length_nil]; omega
  omega
/-- Parse, with a scale as great or greater, reads what Format writes as Rescale has it. -/
theorem parse_back {m : Int} {i d : Nat} (h0 : -999999999999999999 ≤ m) (h1 : m ≤ 999999999999999999) (hi : i + d ≤ 18) : decP (decStr (decide (m < 0)) m.natAbs i) ((i : Int) + d) = outR (upN d m) := by
  have := decP_str (decide (m < 0)) m.natAbs i (i + d) hi (by omega) (fun h => by rw [decide_eq_true_eq] at h; omega)
  rw [show ((i + d : Nat) : Int) = (i : Int) + d by omega, show i + d - i = d by omega] at this
  rw [this, outP_up m d h0 h1]
end Go.Proofs.YtllijchdcminhaaDoor
