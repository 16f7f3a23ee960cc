/-
  The text of a schema as it is read, in plain Lean: words of a line, a column of words, the lines.
-/
import Derived.Test.YtojfhlppiicpbaaDoorSFmtSpec
namespace Go.Proofs.YtojfhlppiicpbaaDoor
set_option linter.unusedVariables false
def mkS (l : List UInt8) : ByteArray := ⟨l.toArray⟩
theorem mkS_data (l : List UInt8) : (mkS l).data.toList = l := rfl
theorem mkS_inj {a b : List UInt8} (h : mkS a = mkS b) : a = b := by rw [← mkS_data a, h, mkS_data]
theorem mkS_of (s : ByteArray) : mkS s.data.toList = s := by unfold mkS; rw [Array.toArray_toList]
/-- The pieces between the bytes c. -/
def splitC (c : UInt8) : List UInt8 → List (List UInt8)
  | [] => [[]]
  | x :: r => if x = c then [] :: splitC c r else match splitC c r with
    | [] => [[x]]
    | h :: t => (x :: h) :: t
theorem splitC_ne (c : UInt8) : ∀ l, splitC c l ≠ []
  | [] => by simp [splitC]
  | x :: r => by
    unfold splitC
    split
    · simp
    · split <;> simp
theorem splitC_no {c : UInt8} : ∀ {l : List UInt8}, (∀ x ∈ l, x ≠ c) → splitC c l = [l]
  | [], _ => rfl
  | x :: r, h => by
    unfold splitC
    rw [if_neg (h x (by simp)), splitC_no (fun y hy => h y (by simp [hy]))]
theorem splitC_app {c : UInt8} : ∀ {a r : List UInt8}, (∀ x ∈ a, x ≠ c) → splitC c (a ++ c :: r) = a :: splitC c r
  | [], r, _ => by show splitC c (c :: r) = _; rw [splitC, if_pos rfl]
  | x :: a, r, h => by
    show splitC c (x :: (a ++ c :: r)) = _
    rw [splitC, if_neg (h x (by simp)), splitC_app (fun y hy => h y (by simp [hy]))]
def nullW : List UInt8 := [110, 117, 108, 108]
def keyW : List UInt8 := [107, 101, 121]
def decW : List UInt8 := [100, 101, 99, 105, 109, 97, 108]
def tyN (b : List UInt8) : Int := if b = tyW 1 then 1 else if b = tyW 2 then 2 else if b = tyW 3 then 3 else if b = tyW 4 then 4 else if b = tyW 5 then 5 else 0
theorem tyN_W {t : Int} (h1 : 1 ≤ t) (h2 : t ≤ 5) : tyN (tyW t) = t := by
  obtain rfl | rfl | rfl | rfl | rfl : t = 1 ∨ t = 2 ∨ t = 3 ∨ t = 4 ∨ t = 5 := by omega
  all_goals decide
theorem tyN_range (b : List UInt8) : 0 ≤ tyN b ∧ tyN b ≤ 5 := by
  unfold tyN; repeat' split
  all_goals omega
def scaV (k : List UInt8) : Option Int := if k.length ≤ 2 ∧ (readV k).2 = 0 ∧ 0 ≤ (readV k).1 then some (readV k).1 else none
def nuV (r : List (List UInt8)) : Option Bool := match r with
  | [] => some false
  | [x] => if x = nullW then some true else none
  | _ => none
/-- The column of the words of a line. -/
def colV (W : List (List UInt8)) : Option Col := match W with
  | a :: b :: r =>
    if tyN b = 0 then none
    else if tyN b = 5 then (match r with
      | k :: q => match scaV k, nuV q with
        | some n, some u => some ⟨mkS a, 5, n, u⟩
        | _, _ => none
      | [] => none)
    else match nuV r with
      | some u => some ⟨mkS a, tyN b, 0, u⟩
      | none => none
  | _ => none
abbrev SRes := (List Col × Int) × Int × Int
def formE (line : Int) : SRes := (([], 0), line, 2)
def finP (cs : List Col) (kw : List UInt8) (kl : Int) : SRes :=
  if kl = 0 then formE 0 else if findC cs (mkS kw) < 0 then (([], 0), kl, 3) else if schkV cs (findC cs (mkS kw)) ≠ 0 then (([], 0), 0, schkV cs (findC cs (mkS kw))) else ((cs, findC cs (mkS kw)), 0, 0)
def lineB (c : UInt8) : Bool := decide (c ≠ 10)
def lineT (l : List UInt8) : List UInt8 := l.takeWhile lineB
def lineR (l : List UInt8) : List UInt8 := l.dropWhile lineB
theorem line_whole (t : List UInt8) : t = lineT t ++ lineR t := List.takeWhile_append_dropWhile.symm
theorem line_of {a r : List UInt8} (h : ∀ x ∈ a, x ≠ 10) : lineT (a ++ 10 :: r) = a ∧ lineR (a ++ 10 :: r) = 10 :: r := by
  induction a with
  | nil => exact ⟨rfl, rfl⟩
  | cons x a ih =>
    have h1 := h x (by simp)
    obtain ⟨i1, i2⟩ := ih (fun y hy => h y (by simp [hy]))
    unfold lineT at i1
    unfold lineR at i2
    unfold lineT lineR
    have e : lineB x = true := by unfold lineB; rw [decide_eq_true_eq]; exact h1
    rw [List.cons_append, List.takeWhile_cons, List.dropWhile_cons, e]
    exact ⟨by rw [if_pos rfl, i1], by rw [if_pos rfl, i2]⟩
def isKey (W : List (List UInt8)) : Bool := match W with
  | [a, b] => decide (a = keyW)
  | _ => false
def secW (W : List (List UInt8)) : List UInt8 := W.getD 1 []
/-- The lines of a text from one on: columns so far, the word of the key and its line. -/
def goP : Nat → List UInt8 → Int → List Col → List UInt8 → Int → SRes
  | 0, _, _, _, _, _ => formE 0
  | f + 1, src, line, cs, kw, kl =>
    if src = [] then finP cs kw kl
    else if lineR src = [] ∨ 0 < kl ∨ [] ∈ splitC 32 (lineT src) then formE line
    else if isKey (splitC 32 (lineT src)) = true then goP f (lineR src).tail (line + 1) cs (secW (splitC 32 (lineT src))) line
    else match colV (splitC 32 (lineT src)) with
      | none => formE line
      | some c => goP f (lineR src).tail (line + 1) (cs ++ [c]) kw kl
def sparV (l : List UInt8) : SRes := if 65536 < l.length then (([], 0), 0, 7) else goP (l.length + 1) l 1 [] [] 0
theorem goP_nil (f : Nat) (line : Int) (cs : List Col) (kw : List UInt8) (kl : Int) : goP (f + 1) [] line cs kw kl = finP cs kw kl := by unfold goP; rw [if_pos rfl]
theorem goP_form {f : Nat} {src : List UInt8} {line : Int} {cs : List Col} {kw : List UInt8} {kl : Int} (h0 : src ≠ []) (h : lineR src = [] ∨ 0 < kl ∨ [] ∈ splitC 32 (lineT src)) : goP (f + 1) src line cs kw kl = formE line := by
  unfold goP; rw [if_neg h0, if_pos h]
theorem goP_key {f : Nat} {src : List UInt8} {line : Int} {cs : List Col} {kw : List UInt8} {kl : Int} (h0 : src ≠ []) (h : ¬(lineR src = [] ∨ 0 < kl ∨ [] ∈ splitC 32 (lineT src))) (hk : isKey (splitC 32 (lineT src)) = true) :
    goP (f + 1) src line cs kw kl = goP f (lineR src).tail (line + 1) cs (secW (splitC 32 (lineT src))) line := by
  rw [goP, if_neg h0, if_neg h, if_pos hk]
theorem goP_bad {f : Nat} {src : List UInt8} {line : Int} {cs : List Col} {kw : List UInt8} {kl : Int} (h0 : src ≠ []) (h : ¬(lineR src = [] ∨ 0 < kl ∨ [] ∈ splitC 32 (lineT src))) (hk : isKey (splitC 32 (lineT src)) = false) (hc : colV (splitC 32 (lineT src)) = none) :
    goP (f + 1) src line cs kw kl = formE line := by
  rw [goP, if_neg h0, if_neg h, if_neg (by rw [hk]; simp), hc]
theorem goP_col {f : Nat} {src : List UInt8} {line : Int} {cs : List Col} {kw : List UInt8} {kl : Int} {c : Col} (h0 : src ≠ []) (h : ¬(lineR src = [] ∨ 0 < kl ∨ [] ∈ splitC 32 (lineT src))) (hk : isKey (splitC 32 (lineT src)) = false) (hc : colV (splitC 32 (lineT src)) = some c) :
    goP (f + 1) src line cs kw kl = goP f (lineR src).tail (line + 1) (cs ++ [c]) kw kl := by
  rw [goP, if_neg h0, if_neg h, if_neg (by rw [hk]; simp), hc]
theorem lineR_lt {l : List UInt8} (h : lineR l ≠ []) : (lineR l).tail.length < l.length := by
  have := congrArg List.length (line_whole l)
  rw [List.length_append] at this
  rw [List.length_tail]
  have h2 : 0 < (lineR l).length := List.length_pos_iff.2 h
  omega
/-- A column of words and 'null' after them. -/
theorem colV_null {V : List (List UInt8)} (h : 2 ≤ V.length) : colV (V ++ [nullW]) = match colV V with
    | some c => if c.nu = true then none else some ⟨c.nm, c.ty, c.sc, true⟩
    | none => none := by
  match V, h with
  | a :: b :: r, _ =>
    have hnull : scaV nullW = none := by decide +kernel
    show colV (a :: b :: (r ++ [nullW])) = _
    unfold colV
    by_cases h0 : tyN b = 0
    · simp only [if_pos h0]
    · simp only [if_neg h0]
      by_cases h5 : tyN b = 5
      · simp only [if_pos h5]
        match r with
        | [] => simp only [List.nil_append, hnull]
        | [k] =>
          simp only [List.cons_append, List.nil_append, nuV, if_pos]
          cases scaV k <;> rfl
        | [k, x] =>
          simp only [List.cons_append, List.nil_append, nuV]
          by_cases hx : x = nullW
          · rw [if_pos hx]; cases scaV k <;> rfl
          · rw [if_neg hx]; cases scaV k <;> rfl
        | k :: x :: y :: q =>
          simp only [List.cons_append, nuV]
          cases scaV k <;> cases q <;> rfl
      · simp only [if_neg h5]
        match r with
        | [] => simp only [List.nil_append, nuV, if_pos]; rfl
        | [x] =>
          simp only [List.cons_append, List.nil_append, nuV]
          by_cases hx : x = nullW
          · rw [if_pos hx]; rfl
          · rw [if_neg hx]
        | x :: y :: q => simp only [List.cons_append, nuV]
end Go.Proofs.YtojfhlppiicpbaaDoor
