/-
  Law 28 in plain Lean: depth, peak; the program's one pass and the reference's two come to one.
-/
import Derived.Test.YtcjekbncllccbaaKRanges
namespace Go.Proofs.Ytcjekbncllccbaa
def contR (t : Int) (r : Rg) (p : Rk) : Bool := decide (cmpR t r.lo p ≤ 0) && decide (cmpR t p r.hi ≤ 0)
def chkRs (t : Int) (l : List Rg) : Bool := decide (l.length ≤ 256) && l.all fun r => decide (cmpR t r.lo r.hi ≤ 0)
def stabN (t : Int) (l : List Rg) (p : Rk) : Nat := l.countP fun r => contR t r p
def rk00 : Rk := ⟨false, 0, { data := #[] }, 0⟩
/-- The program's pass over the first k ranges. -/
def mostStep (t : Int) (l : List Rg) (s : Nat × Rk) (r : Rg) : Nat × Rk := if s.1 < stabN t l r.lo ∨ stabN t l r.lo = s.1 ∧ cmpR t r.lo s.2 < 0 then (stabN t l r.lo, r.lo) else s
def mostTo (t : Int) (l : List Rg) (k : Nat) : Nat × Rk := (l.take k).foldl (mostStep t l) (0, rk00)
def mostR (t : Int) (l : List Rg) : Nat × Rk := if chkRs t l = true then mostTo t l l.length else (0, rk00)
/-- The reference's depth. -/
def depthTo (t : Int) (l : List Rg) (k : Nat) : Nat := (l.take k).foldl (fun d r => max d (stabN t l r.lo)) 0
def depthR (t : Int) (l : List Rg) : Nat := if chkRs t l = true then depthTo t l l.length else 0
/-- The reference's peak: the first least lower end at which the depth d is reached. -/
def lessO (t : Int) (r : Rk) : Option Rk → Bool
  | none => true
  | some b => decide (cmpR t r b < 0)
def peakStep (t : Int) (l : List Rg) (d : Nat) (s : Option Rk) (r : Rg) : Option Rk := if 0 < d ∧ stabN t l r.lo = d ∧ lessO t r.lo s = true then some r.lo else s
def peakTo (t : Int) (l : List Rg) (d : Nat) (k : Nat) : Option Rk := (l.take k).foldl (peakStep t l d) none
theorem mostTo_next {t : Int} {l : List Rg} {k : Nat} {r : Rg} (h : l[k]? = some r) : mostTo t l (k + 1) = mostStep t l (mostTo t l k) r := by
  unfold mostTo; rw [List.take_add_one, h, List.foldl_append]; rfl
theorem depthTo_next {t : Int} {l : List Rg} {k : Nat} {r : Rg} (h : l[k]? = some r) : depthTo t l (k + 1) = max (depthTo t l k) (stabN t l r.lo) := by
  unfold depthTo; rw [List.take_add_one, h, List.foldl_append]; rfl
theorem peakTo_next {t : Int} {l : List Rg} {d k : Nat} {r : Rg} (h : l[k]? = some r) : peakTo t l d (k + 1) = peakStep t l d (peakTo t l d k) r := by
  unfold peakTo; rw [List.take_add_one, h, List.foldl_append]; rfl
theorem depthTo_mono {t : Int} {l : List Rg} {k : Nat} : depthTo t l k ≤ depthTo t l (k + 1) := by
  cases h : l[k]? with
  | none =>
    have : l.take (k + 1) = l.take k := by rw [List.take_add_one, h]; simp
    unfold depthTo; rw [this]; exact Nat.le_refl _
  | some r => rw [depthTo_next h]; omega
/-- No range's lower end reaches d among the first k while the depth so far is less. -/
theorem peakTo_none {t : Int} {l : List Rg} {d : Nat} : ∀ k, k ≤ l.length → depthTo t l k < d → peakTo t l d k = none
  | 0, _, _ => rfl
  | k + 1, hk, hd => by
    have hr := List.getElem?_eq_getElem (show k < l.length by omega)
    have h1 := depthTo_mono (t := t) (l := l) (k := k)
    rw [peakTo_next hr, peakTo_none k (by omega) (by omega)]
    rw [depthTo_next hr] at hd
    unfold peakStep
    rw [if_neg (by omega)]
/-- A valid range contains its own lower end. -/
def LoOk (t : Int) (l : List Rg) : Prop := ∀ r ∈ l, 0 < stabN t l r.lo
theorem most_inv {t : Int} {l : List Rg} (hlo : LoOk t l) : ∀ k, k ≤ l.length → (mostTo t l k).1 = depthTo t l k ∧ (0 < k → peakTo t l (depthTo t l k) k = some (mostTo t l k).2) ∧ (0 < k → 0 < depthTo t l k)
  | 0, _ => ⟨rfl, fun h => by omega, fun h => by omega⟩
  | k + 1, hk => by
    obtain ⟨h1, h2, h3⟩ := most_inv hlo k (by omega)
    have hr := List.getElem?_eq_getElem (show k < l.length by omega)
    have hpos := hlo _ (List.getElem_mem (show k < l.length by omega))
    obtain ⟨r, hre⟩ : ∃ r, l[k]'(by omega) = r := ⟨_, rfl⟩
    rw [hre] at hr hpos
    obtain ⟨n, hn⟩ : ∃ n, stabN t l r.lo = n := ⟨_, rfl⟩
    rw [mostTo_next hr, depthTo_next hr, hn]
    rw [hn] at hpos
    unfold mostStep
    rw [hn, h1]
    obtain ⟨d, hd⟩ : ∃ d, depthTo t l k = d := ⟨_, rfl⟩
    rw [hd] at h1 h2 h3 ⊢
    rcases Nat.lt_trichotomy d n with hlt | heq | hgt
    · rw [if_pos (.inl hlt), Nat.max_eq_right (by omega)]
      refine ⟨rfl, fun _ => ?_, fun _ => hpos⟩
      rw [peakTo_next hr, peakTo_none k (by omega) (by omega)]
      unfold peakStep
      rw [if_pos ⟨hpos, hn, rfl⟩]
    · subst heq
      rw [Nat.max_self]
      rcases k with _ | k
      · have : d = 0 := by rw [← hd]; rfl
        omega
      have hp := h2 (by omega)
      refine ⟨?_, fun _ => ?_, fun _ => hpos⟩
      · split
        · rfl
        · exact h1
      · rw [peakTo_next hr, hp]
        unfold peakStep
        by_cases hc : cmpR t r.lo (mostTo t l (k + 1)).2 < 0
        · rw [if_pos ⟨hpos, hn, decide_eq_true hc⟩, if_pos (Or.inr ⟨rfl, hc⟩)]
        · rw [if_neg (fun h => hc (of_decide_eq_true h.2.2)), if_neg (fun h => by
            rcases h with h | h
            · exact absurd h (by omega)
            · exact hc h.2)]
    · rw [if_neg (by omega), Nat.max_eq_left (by omega)]
      refine ⟨h1, fun _ => ?_, fun _ => by omega⟩
      rw [peakTo_next hr]
      unfold peakStep
      rw [if_neg (by omega)]
      rcases k with _ | k
      · have : d = 0 := by rw [← hd]; rfl
        omega
      · exact h2 (by omega)
end Go.Proofs.Ytcjekbncllccbaa
