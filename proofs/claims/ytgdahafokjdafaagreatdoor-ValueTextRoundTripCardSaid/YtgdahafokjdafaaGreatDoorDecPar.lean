/-
  Texts of decimals in plain Lean: what Parse decides, and that it reads what Format writes.
-/
import Derived.Test.YtgdahafokjdafaaGreatDoorDecSplit
import Derived.Test.YtgdahafokjdafaaGreatDoorNumLaw
namespace Go.Proofs.YtgdahafokjdafaaGreatDoor
def zeroB (l : List UInt8) : Bool := l.all fun c => decide (c.toNat = 48)
def spW (t : List UInt8) : List UInt8 := t.takeWhile digB
def spR (t : List UInt8) : List UInt8 := t.dropWhile digB
def negB (l : List UInt8) : Bool := decide (l.headD 0 = 45)
def bodyL (l : List UInt8) : List UInt8 := if negB l = true then l.tail else l
def wholeOk (a : List UInt8) : Bool := decide (a ≠ []) && (decide (a.length ≤ 1) || decide (a.headD 0 ≠ 48))
def restOk : List UInt8 → Bool
  | [] => true
  | c :: p => decide (c = 46) && (decide (p ≠ []) && p.all digB)
def formB (t : List UInt8) : Bool := wholeOk (spW t) && restOk (spR t)
def valP (a p : List UInt8) (j : Nat) : Nat := valN (a ++ p ++ List.replicate j 48)
def outP (neg : Bool) (v : Nat) : Int × Int := if 999999999999999999 < v then (0, 8) else (if neg = true then -(v : Int) else (v : Int), 0)
/-- What Parse answers. -/
def decP (l : List UInt8) (k : Int) : Int × Int :=
  if scaB k = false then (0, 4)
  else if formB (bodyL l) = false then (0, 2)
  else if (negB l && zeroB (spW (bodyL l) ++ (spR (bodyL l)).tail)) = true then (0, 2)
  else if k < ((spR (bodyL l)).tail.length : Int) then (0, 8)
  else outP (negB l) (valP (spW (bodyL l)) (spR (bodyL l)).tail (k.toNat - (spR (bodyL l)).tail.length))
theorem fold_app (b : List UInt8) : ∀ u, b.foldl stepN u = u * 10 ^ b.length + b.foldl stepN 0 := by
  induction b with
  | nil => intro u; simp
  | cons c r ih =>
    intro u
    rw [List.foldl_cons, List.foldl_cons, ih (stepN u c), ih (stepN 0 c), List.length_cons, Nat.pow_succ]
    unfold stepN
    rw [Nat.zero_mul, Nat.zero_add, Nat.add_mul, Nat.mul_assoc, Nat.mul_comm 10 (10 ^ r.length)]
    omega
theorem valN_app (a b : List UInt8) : valN (a ++ b) = valN a * 10 ^ b.length + valN b := by
  unfold valN; rw [List.foldl_append]; exact fold_app b _
theorem valN_zero {l : List UInt8} (h : zeroB l = true) : valN l = 0 := by
  induction l with
  | nil => rfl
  | cons c r ih =>
    unfold zeroB at h
    simp only [List.all_cons, Bool.and_eq_true, decide_eq_true_eq] at h
    have := ih (by unfold zeroB; simpa using h.2)
    unfold valN at this ⊢
    rw [List.foldl_cons, stepN, h.1]
    simpa using this
theorem zeroB_rep (j : Nat) : zeroB (List.replicate j 48) = true := by
  unfold zeroB; rw [List.all_eq_true]; intro x hx; rw [(List.mem_replicate.1 hx).2]; rfl
theorem valP_eq (a p : List UInt8) (j : Nat) : valP a p j = valN (a ++ p) * 10 ^ j := by
  unfold valP; rw [valN_app, valN_zero (zeroB_rep j), List.length_replicate, Nat.add_zero]
theorem digB_48 : digB 48 = true := by decide
theorem rep_dig (j : Nat) : (List.replicate j (48 : UInt8)).all digB = true := by
  rw [List.all_eq_true]; intro x hx; rw [(List.mem_replicate.1 hx).2]; exact digB_48
theorem digL_all (n k : Nat) : (digL n k).all digB = true := by
  unfold digL; rw [List.all_append, rep_dig]
  split
  · rfl
  · rw [dd_all]; rfl
theorem digL_val (n k : Nat) : valN (digL n k) = n := by
  unfold digL; rw [valN_app, valN_zero (zeroB_rep _), Nat.zero_mul, Nat.zero_add]
  split
  · rename_i h; subst h; rfl
  · exact valN_dd n
theorem digL_one (a : Nat) : digL a 1 = Lib.decDigits a := by
  unfold digL
  by_cases h : a = 0
  · subst h; rw [if_pos rfl, dd_small (by omega)]; rfl
  · rw [if_neg h]
    have : 1 ≤ (Lib.decDigits a).length := List.length_pos_iff.2 (dd_ne a)
    rw [show 1 - (Lib.decDigits a).length = 0 by omega]; rfl
theorem dig_ne45 {l : List UInt8} (h : l.all digB = true) : l.headD 0 ≠ 45 := by
  cases l with
  | nil => decide
  | cons c r =>
    simp only [List.all_cons, Bool.and_eq_true] at h
    have := h.1
    unfold digB at this
    rw [decide_eq_true_eq] at this
    intro e
    rw [List.headD_cons] at e
    subst e
    exact absurd this (by decide)
theorem all_mem {l : List UInt8} (h : l.all digB = true) : ∀ c ∈ l, digB c = true := List.all_eq_true.1 h
theorem sp_of {a r : List UInt8} (ha : a.all digB = true) (hr : r.headD 0 = 46 ∨ r = []) : spW (a ++ r) = a ∧ spR (a ++ r) = r := by
  have e1 : r.takeWhile digB = [] ∧ r.dropWhile digB = r := by
    rcases hr with h | rfl
    · cases r with
      | nil => exact ⟨rfl, rfl⟩
      | cons c q =>
        rw [List.headD_cons] at h
        subst h
        exact ⟨rfl, rfl⟩
    · exact ⟨rfl, rfl⟩
  unfold spW spR
  rw [List.takeWhile_append_of_pos (all_mem ha), List.dropWhile_append_of_pos (all_mem ha), e1.1, e1.2, List.append_nil]
  exact ⟨rfl, rfl⟩
theorem wholeOk_dd (a : Nat) : wholeOk (Lib.decDigits a) = true := by
  unfold wholeOk
  by_cases h : a = 0
  · subst h; rw [dd_small (by omega)]; decide
  · rw [decide_eq_true (dd_ne a), decide_eq_true (dd_head a (by omega)), Bool.or_true]; rfl
/-- Parse reads what Format writes, with a scale as great or greater. -/
theorem decP_str (neg : Bool) (m j k : Nat) (hk : k ≤ 18) (hj : j ≤ k) (hn : neg = true → 1 ≤ m) : decP (decStr neg m j) (k : Int) = outP neg (m * 10 ^ (k - j)) := by
  have hq := (padL_split j m).2
  have hqa := digL_all (m % 10 ^ j) j
  have hqv := digL_val (m % 10 ^ j) j
  rw [decStr_split, digL_one]
  generalize digL (m % 10 ^ j) j = q at hq hqa hqv ⊢
  obtain ⟨d, hd⟩ : ∃ d, d = Lib.decDigits (m / 10 ^ j) := ⟨_, rfl⟩
  have hda : d.all digB = true := by rw [hd]; exact dd_all _
  have hdv : valN d = m / 10 ^ j := by rw [hd]; exact valN_dd _
  have hdw : wholeOk d = true := by rw [hd]; exact wholeOk_dd _
  have hdn : d ≠ [] := by rw [hd]; exact dd_ne _
  rw [← hd]
  clear hd
  obtain ⟨r, hr⟩ : ∃ r : List UInt8, r = if j = 0 then [] else 46 :: q := ⟨_, rfl⟩
  rw [← hr]
  have hr1 : r.headD 0 = 46 ∨ r = [] := by
    rw [hr]; split
    · exact .inr rfl
    · exact .inl rfl
  have hrt : r.tail = q := by
    rw [hr]; split
    · rename_i h; subst h; rw [List.eq_nil_of_length_eq_zero hq]; rfl
    · rfl
  have hro : restOk r = true := by
    rw [hr]; split
    · rfl
    · have : q ≠ [] := by intro e; rw [e] at hq; simp at hq; omega
      simp [restOk, this, hqa]
  have hb : bodyL ((if neg = true then [45] else []) ++ (d ++ r)) = d ++ r ∧ negB ((if neg = true then [45] else []) ++ (d ++ r)) = neg := by
    unfold bodyL
    cases neg with
    | true => exact ⟨rfl, rfl⟩
    | false =>
      have : negB (d ++ r) = false := by
        unfold negB; rw [headD_append hdn]; exact decide_eq_false (dig_ne45 hda)
      simp only [Bool.false_eq_true, if_false, List.nil_append, this]
      exact ⟨trivial, trivial⟩
  obtain ⟨s1, s2⟩ := sp_of hda hr1
  have hv : valN (d ++ q) = m := by rw [valN_app, hdv, hqv, hq]; rw [Nat.mul_comm]; exact Nat.div_add_mod m (10 ^ j)
  have hz : ¬(neg && zeroB (d ++ q)) = true := by
    intro h
    rw [Bool.and_eq_true] at h
    have := valN_zero h.2
    have := hn h.1
    omega
  unfold decP
  rw [hb.1, hb.2, s1, s2, hrt, if_neg (by unfold scaB; simp; omega), if_neg (by unfold formB; rw [s1, s2, hdw, hro]; decide), if_neg hz, if_neg (by omega), hq, valP_eq, hv, Int.toNat_natCast]
theorem upN_eq : ∀ (k : Nat) (n : Int), -999999999999999999 ≤ n → n ≤ 999999999999999999 → upN k n = if 999999999999999999 < n.natAbs * 10 ^ k then none else some (n * 10 ^ k)
  | 0, n, h0, h1 => by simp only [upN, Nat.pow_zero, Nat.mul_one, Int.pow_zero, Int.mul_one]; rw [if_neg (by omega)]
  | k + 1, n, h0, h1 => by
    simp only [upN]
    have hp : 1 ≤ 10 ^ k := Nat.pow_pos (by decide)
    have e : n.natAbs * 10 ^ (k + 1) = n.natAbs * 10 * 10 ^ k := by rw [Nat.pow_succ, Nat.mul_comm (10 ^ k), Nat.mul_assoc]
    split
    · rename_i h
      rw [if_pos]
      rw [e]
      have : n.natAbs * 10 * 1 ≤ n.natAbs * 10 * 10 ^ k := Nat.mul_le_mul_left _ hp
      omega
    · rename_i h
      rw [upN_eq k (n * 10) (by omega) (by omega), e, show (n * 10).natAbs = n.natAbs * 10 by omega, show n * 10 ^ (k + 1) = n * 10 * 10 ^ k by rw [Int.pow_succ, Int.mul_comm (10 ^ k), Int.mul_assoc]]
theorem outP_up (n : Int) (k : Nat) (h0 : -999999999999999999 ≤ n) (h1 : n ≤ 999999999999999999) : outP (decide (n < 0)) (n.natAbs * 10 ^ k) = outR (upN k n) := by
  rw [upN_eq k n h0 h1]
  unfold outP outR
  split
  · rfl
  · have hp : ((n.natAbs * 10 ^ k : Nat) : Int) = (n.natAbs : Int) * 10 ^ k := by push_cast; rfl
    rw [hp]
    by_cases hn : n < 0
    · rw [decide_eq_true hn, if_pos rfl, ← Int.neg_mul, show -(n.natAbs : Int) = n by omega]
    · rw [decide_eq_false hn, if_neg (by decide), show (n.natAbs : Int) = n by omega]
end Go.Proofs.YtgdahafokjdafaaGreatDoor
