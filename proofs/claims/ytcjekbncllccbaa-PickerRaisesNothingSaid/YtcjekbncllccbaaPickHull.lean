/-
  Law 28 in plain Lean: putting new ranges within the hull of the picked entries in their place raises the count at no end of another entry.
-/
import Derived.Test.YtcjekbncllccbaaPickPeak2
namespace Go.Proofs.Ytcjekbncllccbaa
def loK (e : Ent) : Int := keyR e.lo
def hiK (e : Ent) : Int := keyR e.hi
/-- Entries that hold a common rank cover their hull. -/
theorem hull_common {c : List Ent} {p x : Int} (hp : ∀ e ∈ c, loK e ≤ p ∧ p ≤ hiK e) {a b : Ent} (ha : a ∈ c) (hb : b ∈ c) (h1 : loK a ≤ x) (h2 : x ≤ hiK b) : ∃ e ∈ c, loK e ≤ x ∧ x ≤ hiK e := by
  by_cases h : x ≤ p
  · exact ⟨a, ha, h1, by have := (hp a ha).2; omega⟩
  · exact ⟨b, hb, by have := (hp b hb).1; omega, h2⟩
/-- Between two adjacent entries lies no end of another one. -/
theorem hull_pair {a b e : Ent} {x : Int} (hev : loK e ≤ hiK e) (hadj : ¬ (hiK a < hiK e ∧ loK e < loK b)) (hx : x = loK e ∨ x = hiK e) (h1 : loK a ≤ x) (h2 : x ≤ hiK b) :
    (loK a ≤ x ∧ x ≤ hiK a) ∨ (loK b ≤ x ∧ x ≤ hiK b) := by
  rcases hx with rfl | rfl <;> omega
/-- Two entries that overlap cover their hull. -/
theorem hull_over {a b : Ent} {x : Int} (h1 : loK a ≤ hiK b) (h2 : loK b ≤ hiK a) (hx : loK a ≤ x ∨ loK b ≤ x) (hy : x ≤ hiK a ∨ x ≤ hiK b) : (loK a ≤ x ∧ x ≤ hiK a) ∨ (loK b ≤ x ∧ x ≤ hiK b) := by
  omega
def inK (x : Int) (e : Ent) : Bool := decide (loK e ≤ x) && decide (x ≤ hiK e)
/-- The count behind the replacement is at most the count before it. -/
theorem raises_not {l : List Ent} {C : Ent → Bool} {x : Int} {n : Nat} (hn : n ≤ 1) (hc : 0 < n → ∃ e ∈ l, C e = true ∧ inK x e = true) : (l.filter fun e => !C e).countP (inK x) + n ≤ l.countP (inK x) := by
  have h := List.countP_eq_countP_filter_add l (inK x) C
  rcases Nat.eq_zero_or_pos n with h0 | h0
  · have : (l.filter fun e => !C e).countP (inK x) ≤ l.countP (inK x) := List.Sublist.countP_le (List.filter_sublist)
    omega
  · obtain ⟨e, he, hCe, hx⟩ := hc h0
    have h1 : 0 < (l.filter C).countP (inK x) := List.countP_pos_iff.2 ⟨e, List.mem_filter.2 ⟨he, hCe⟩, hx⟩
    omega
end Go.Proofs.Ytcjekbncllccbaa
