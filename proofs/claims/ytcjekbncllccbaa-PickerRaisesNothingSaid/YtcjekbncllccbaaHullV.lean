/-
  The hull of ranges, in plain Lean.
-/
import Derived.Test.YtcjekbncllccbaaPickSpec
namespace Go.Proofs.Ytcjekbncllccbaa
def hullStep (t : Int) (h r : Rg) : Rg := ⟨if cmpR t r.lo h.lo < 0 then r.lo else h.lo, if 0 < cmpR t r.hi h.hi then r.hi else h.hi⟩
def hullTo (t : Int) (l : List Rg) (r0 : Rg) (k : Nat) : Rg := (l.take k).foldl (hullStep t) r0
theorem hullTo_next {t : Int} {l : List Rg} {r0 r : Rg} {k : Nat} (h : l[k]? = some r) : hullTo t l r0 (k + 1) = hullStep t (hullTo t l r0 k) r := by
  unfold hullTo; rw [List.take_add_one, h, List.foldl_append]; rfl
def rg00 : Rg := ⟨rk00, rk00⟩
/-- The hull of ranges. -/
def hullR (t : Int) (l : List Rg) : Option Rg := if l.length = 0 ∨ chkRs t l = false then none else some (hullTo t l (l.headD rg00) l.length)
theorem hull_mem {t : Int} {l : List Rg} {r0 : Rg} (h0 : r0 ∈ l) : ∀ k, ∃ a ∈ l, ∃ b ∈ l, hullTo t l r0 k = ⟨a.lo, b.hi⟩
  | 0 => ⟨r0, h0, r0, h0, rfl⟩
  | k + 1 => by
    obtain ⟨a, ha, b, hb, e⟩ := hull_mem (t := t) h0 k
    cases he : l[k]? with
    | none =>
      have : hullTo t l r0 (k + 1) = hullTo t l r0 k := by unfold hullTo; rw [List.take_add_one, he]; simp
      rw [this]; exact ⟨a, ha, b, hb, e⟩
    | some r =>
      have hr := List.mem_of_getElem? he
      rw [hullTo_next he, e]
      unfold hullStep
      by_cases h1 : cmpR t r.lo a.lo < 0 <;> by_cases h2 : 0 < cmpR t r.hi b.hi
      · exact ⟨r, hr, r, hr, by simp only [h1, h2, if_true]⟩
      · exact ⟨r, hr, b, hb, by simp only [h1, h2, if_true, if_false]⟩
      · exact ⟨a, ha, r, hr, by simp only [h1, h2, if_true, if_false]⟩
      · exact ⟨a, ha, b, hb, by simp only [h1, h2, if_false]⟩
end Go.Proofs.Ytcjekbncllccbaa
