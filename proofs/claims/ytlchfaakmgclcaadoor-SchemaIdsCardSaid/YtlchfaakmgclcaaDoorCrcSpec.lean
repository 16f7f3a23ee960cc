/-
  CRC-32C in plain Lean.
-/
import Derived.Test.YtlchfaakmgclcaaDoorVarPut
import Derived.Test.YtlchfaakmgclcaaDoorSrcMem
namespace Go.Proofs.YtlchfaakmgclcaaDoor
open Go.RowKit
def crcStep (v : Int) : Int := if bits .and .u32 v 1 = 1 then bits .xor .u32 (v / 2) 2197175160 else v / 2
def crcIt : Nat → Int → Int
  | 0, v => v
  | n + 1, v => crcStep (crcIt n v)
def tabF (i : Nat) : Int := crcIt 8 i
def tabUpto (n : Nat) : Array Value := Array.ofFn (n := 256) fun k => .int .u32 (if k.val < n then tabF k.val else 0)
theorem tabUpto_zero : tabUpto 0 = Array.replicate 256 (.int .u32 0) := by
  apply Array.ext
  · simp [tabUpto]
  · intro i h1 h2; simp [tabUpto]
theorem tabUpto_get {n k : Nat} (h : k < 256) : (tabUpto n)[k]? = some (.int .u32 (if k < n then tabF k else 0)) := by
  have : k < (tabUpto n).size := by simp [tabUpto]; exact h
  rw [Array.getElem?_eq_getElem this]; simp [tabUpto]
theorem tabUpto_at {n i : Nat} (h : i < (tabUpto n).size) : (tabUpto n)[i] = .int .u32 (if i < n then tabF i else 0) := by simp [tabUpto]
theorem tabUpto_set (n : Nat) : (tabUpto n).setIfInBounds n (.int .u32 (tabF n)) = tabUpto (n + 1) := by
  apply Array.ext
  · rw [Array.size_setIfInBounds]; simp [tabUpto]
  · intro i h1 h2
    have h3 : i < (tabUpto n).size := by rw [Array.size_setIfInBounds] at h1; exact h1
    rw [Array.getElem_setIfInBounds h3, tabUpto_at, tabUpto_at]
    by_cases h : n = i
    · subst h; simp
    · rw [if_neg h]
      by_cases hi : i < n
      · rw [if_pos hi, if_pos (by omega)]
      · rw [if_neg hi, if_neg (by omega)]
def tabV : List Value := (tabUpto 256).toList
theorem tabV_get {k : Nat} (h : k < 256) : tabV[k]? = some (.int .u32 (tabF k)) := by
  unfold tabV; rw [Array.getElem?_toList, tabUpto_get h, if_pos h]
theorem xor32_range (a b : Int) : 0 ≤ bits .xor .u32 a b ∧ bits .xor .u32 a b < 4294967296 := by
  show 0 ≤ IntKind.u32.wrap _ ∧ IntKind.u32.wrap _ < _
  rw [IntKind.wrap_u32]; omega
theorem xor8_range (a b : Int) : 0 ≤ bits .xor .u8 a b ∧ bits .xor .u8 a b < 256 := by
  show 0 ≤ IntKind.u8.wrap _ ∧ IntKind.u8.wrap _ < _
  rw [IntKind.wrap_u8]; omega
theorem xor32_zero (y : Nat) (hy : y < 4294967296) : bits .xor .u32 (y : Int) 0 = (y : Int) := by
  show IntKind.u32.wrap ((BitVec.ofInt 32 (y : Int) ^^^ BitVec.ofInt 32 0).toNat : Int) = _
  have h2 : (BitVec.ofInt 32 (y : Int)).toNat = y := by
    rw [BitVec.ofInt_natCast, BitVec.toNat_ofNat]; exact Nat.mod_eq_of_lt (by omega)
  have h1 : (BitVec.ofInt 32 0).toNat = 0 := by decide
  rw [BitVec.toNat_xor, h1, h2, Nat.xor_zero, IntKind.wrap_u32]
  omega
theorem and32_one (v : Int) : bits .and .u32 v 1 = 0 ∨ bits .and .u32 v 1 = 1 := by
  have h : bits .and .u32 v 1 = IntKind.u32.wrap ((BitVec.ofInt 32 v &&& BitVec.ofInt 32 1).toNat : Int) := rfl
  have h1 : (BitVec.ofInt 32 1).toNat = 1 := by decide
  rw [h, BitVec.toNat_and, h1, Nat.and_one_is_mod, IntKind.wrap_u32]
  omega
theorem crcStep_range {v : Int} (h0 : 0 ≤ v) (h1 : v < 4294967296) : 0 ≤ crcStep v ∧ crcStep v < 4294967296 := by
  unfold crcStep
  split
  · exact xor32_range _ _
  · omega
theorem crcIt_range {v : Int} (h0 : 0 ≤ v) (h1 : v < 4294967296) : ∀ n, 0 ≤ crcIt n v ∧ crcIt n v < 4294967296
  | 0 => ⟨h0, h1⟩
  | n + 1 => crcStep_range (crcIt_range h0 h1 n).1 (crcIt_range h0 h1 n).2
theorem step_one {v : Int} (h : bits .and .u32 v 1 = 1) : crcStep v = bits .xor .u32 (v / 2) 2197175160 := if_pos h
theorem step_zero {v : Int} (h : bits .and .u32 v 1 = 0) : crcStep v = v / 2 := if_neg (by rw [h]; decide)
/-- A byte more. -/
def stepB (v b : Int) : Int := bits .xor .u32 (v / 256) (tabF (bits .xor .u8 (v % 256) b).toNat)
theorem stepB_range (v b : Int) : 0 ≤ stepB v b ∧ stepB v b < 4294967296 := xor32_range _ _
def foldB (v : Int) (l : List UInt8) : Int := l.foldl (fun v b => stepB v (b.toNat : Int)) v
theorem foldB_snoc {v : Int} {s : ByteArray} {m : Nat} (h : m < s.size) : foldB v (s.data.toList.take (m + 1)) = stepB (foldB v (s.data.toList.take m)) (s[m].toNat : Int) := by
  have e : s.data.toList.take (m + 1) = s.data.toList.take m ++ [s[m]] := by
    rw [List.take_add_one]
    have h' : m < s.data.toList.length := by rw [Array.length_toList]; exact h
    rw [List.getElem?_eq_getElem h']; rfl
  rw [e]; unfold foldB; rw [List.foldl_append]; rfl
theorem foldB_range {v : Int} (h0 : 0 ≤ v) (h1 : v < 4294967296) (l : List UInt8) : 0 ≤ foldB v l ∧ foldB v l < 4294967296 := by
  rcases List.eq_nil_or_concat l with rfl | ⟨r, b, rfl⟩
  · exact ⟨h0, h1⟩
  · unfold foldB; rw [List.concat_eq_append, List.foldl_append]; exact stepB_range _ _
end Go.Proofs.YtlchfaakmgclcaaDoor
