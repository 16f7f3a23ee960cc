/-
  The text of a schema in plain Lean.
-/
import Derived.Test.YtjnamjkdjcndiaaDoorSChk
import Derived.Test.YtjnamjkdjcndiaaDoorNumLaw
import Derived.Test.YtjnamjkdjcndiaaDoorRDigits
namespace Go.Proofs.YtjnamjkdjcndiaaDoor
open Go.RowKit
def tyW (t : Int) : List UInt8 := if t = 1 then [105, 110, 116] else if t = 2 then [98, 111, 111, 108] else if t = 3 then [98, 121, 116, 101, 115] else if t = 4 then [100, 97, 116, 101] else [100, 101, 99, 105, 109, 97, 108]
def colA (c : Col) : List UInt8 := c.nm.data.toList ++ [32] ++ tyW c.ty
def colB (c : Col) : List UInt8 := if c.ty = 5 then 32 :: Lib.itoa c.sc else []
def colC (c : Col) : List UInt8 := if c.nu = true then [32, 110, 117, 108, 108] else []
def colLine (c : Col) : List UInt8 := colA c ++ colB c ++ colC c ++ [10]
def linesC (l : List Col) : List UInt8 := l.flatMap colLine
def keyL (nm : ByteArray) : List UInt8 := [107, 101, 121, 32] ++ nm.data.toList ++ [10]
def keyC (l : List Col) (key : Int) : List UInt8 := match l[key.toNat]? with
  | some c => keyL c.nm
  | none => []
def sfmtV (l : List Col) (key : Int) : List UInt8 × Int := if schkV l key ≠ 0 then ([], schkV l key) else (linesC l ++ keyC l key, 0)
theorem linesC_snoc {l : List Col} {k : Nat} {c : Col} (h : l[k]? = some c) : linesC (l.take (k + 1)) = linesC (l.take k) ++ colLine c := by
  unfold linesC; rw [List.take_add_one, h, Option.toList_some, List.flatMap_append]; simp
theorem firstE_zero {f : Nat → Int} : ∀ n, firstE f n = 0 → ∀ k, k < n → f k = 0
  | 0, _, k, hk => by omega
  | n + 1, h, k, hk => by
    simp only [firstE] at h
    by_cases e : firstE f n = 0
    · rw [if_neg (by rw [e]; simp)] at h
      by_cases ek : k = n
      · subst ek; exact h
      · exact firstE_zero n e k (by omega)
    · rw [if_pos e] at h; exact absurd h e
structure ColValid (c : Col) : Prop where
  nm : c.nm.size ≤ 16
  ty : 1 ≤ c.ty ∧ c.ty ≤ 5
  sc : 0 ≤ c.sc ∧ c.sc ≤ 18
theorem nameB_len {s : ByteArray} (h : nameB s.data.toList = true) : s.size ≤ 16 := by
  unfold nameB at h
  simp only [Bool.and_eq_true, decide_eq_true_eq] at h
  have := h.1.1.1.2
  rw [size_data] at this; exact this
theorem colErr_zero {l : List Col} {k : Nat} {c : Col} (h : colErr l k c = 0) : ColValid c := by
  unfold colErr at h
  split at h
  · cases h
  · rename_i h1
    split at h
    · cases h
    · split at h
      · cases h
      · split at h
        · cases h
        · exact ⟨nameB_len (by simpa using h1), by omega, by omega⟩
theorem schk_valid {l : List Col} {key : Int} (h : schkV l key = 0) : 0 < l.length ∧ l.length ≤ 12 ∧ (∀ c ∈ l, ColValid c) ∧ 0 ≤ key ∧ key < l.length := by
  unfold schkV at h
  split at h
  · cases h
  · split at h
    · cases h
    · split at h
      · rename_i h1; exact absurd h h1
      · rename_i h1
        split at h
        · cases h
        · refine ⟨by omega, by omega, fun c hc => ?_, by omega, by omega⟩
          obtain ⟨k, hk⟩ := List.mem_iff_getElem?.1 hc
          have hz : firstE (colE l) l.length = 0 := by simpa using h1
          have := firstE_zero _ hz k (List.getElem?_eq_some_iff.1 hk).1
          rw [colE_at hk] at this
          exact colErr_zero this
theorem tyW_len (t : Int) : (tyW t).length ≤ 7 := by
  unfold tyW; repeat' split
  all_goals simp
theorem itoa_small {n : Int} (h0 : 0 ≤ n) (h1 : n ≤ 18) : (Lib.itoa n).length ≤ 20 := by
  unfold Lib.itoa; rw [if_neg (by omega)]; exact Nat.le_trans (dd_len_lt n.toNat 19 (by omega) (Nat.lt_of_le_of_lt (show n.toNat ≤ 18 by omega) (by decide))) (by omega)
theorem colLine_len {c : Col} (h : ColValid c) : (colLine c).length ≤ 60 := by
  have h1 := h.nm
  have h2 := tyW_len c.ty
  have h3 : (colB c).length ≤ 21 := by
    unfold colB; split
    · rw [List.length_cons]; have := itoa_small h.sc.1 h.sc.2; omega
    · simp
  have h4 : (colC c).length ≤ 5 := by unfold colC; split <;> simp
  unfold colLine colA
  simp only [List.length_append, List.length_cons, List.length_nil, size_data]
  omega
theorem linesC_len {l : List Col} (h : ∀ c ∈ l, ColValid c) : (linesC l).length ≤ 60 * l.length := by
  induction l with
  | nil => simp [linesC]
  | cons c r ih =>
    have h1 := colLine_len (h c (by simp))
    have h2 := ih (fun d hd => h d (by simp [hd]))
    simp only [linesC, List.flatMap_cons, List.length_append, List.length_cons] at h2 ⊢
    omega
theorem lines_len2 {l : List Col} {k : Nat} (h : ∀ c ∈ l, ColValid c) : (linesC (l.take k)).length ≤ 60 * l.length := by
  have h1 := linesC_len (l := l.take k) (fun c hc => h c (List.mem_of_mem_take hc))
  have h2 : (l.take k).length ≤ l.length := by rw [List.length_take]; omega
  omega
end Go.Proofs.YtjnamjkdjcndiaaDoor
