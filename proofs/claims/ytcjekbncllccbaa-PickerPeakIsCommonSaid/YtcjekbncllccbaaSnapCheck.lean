/-
  The contracts of snapshot.Check and ref18.CheckSnapshot.
-/
import Derived.Test.YtcjekbncllccbaaEntries
namespace Go.Proofs.Ytcjekbncllccbaa
open Go.RowKit Go.Sort
def HeadOk (x q n : Int) (len : Nat) : Prop := 0 ≤ x ∧ x ≤ 2147483647 ∧ 0 ≤ q ∧ q ≤ 1099511627777 ∧ 1 ≤ n ∧ n ≤ 2147483647 ∧ len ≤ 256
theorem headB_of {x q n : Int} {len : Nat} (h : HeadOk x q n len) : headB x q n len = true := by
  obtain ⟨h1, h2, h3, h4, h5, h6, h7⟩ := h
  simp [headB, *]
theorem headB_not {x q n : Int} {len : Nat} (h : ¬HeadOk x q n len) : headB x q n len = false := by
  cases hb : headB x q n len with
  | false => rfl
  | true =>
    refine absurd ?_ h
    simp only [headB, Bool.and_eq_true, decide_eq_true_eq] at hb
    obtain ⟨⟨⟨⟨⟨⟨h1, h2⟩, h3⟩, h4⟩, h5⟩, h6⟩, h7⟩ := hb
    exact ⟨h1, h2, h3, h4, h5, h6, h7⟩
theorem snapB_head {x q n : Int} {l : List Ent} (h : ¬HeadOk x q n l.length) : snapB x q n l = false := by unfold snapB; rw [headB_not h]; rfl
def goodAt (q n : Int) (l : List Ent) (k : Nat) : Bool := okAt l k && underAt q n l k
theorem snapB_good {x q n : Int} {l : List Ent} (h : HeadOk x q n l.length) {t : Bool} (ht : allTo (goodAt q n l) l.length = t) : snapB x q n l = t := by
  unfold snapB; rw [headB_of h, Bool.true_and, entsB, ← allTo_and]; exact ht
theorem goodAt_of {q n : Int} {l : List Ent} {k : Nat} {a b : Bool} (h1 : okAt l k = a) (h2 : underAt q n l k = b) : goodAt q n l k = (a && b) := by unfold goodAt; rw [h1, h2]
theorem under_of {q n : Int} {l : List Ent} {k : Nat} {e : Ent} (he : l[k]? = some e) {t : Bool} (h : e.underB q n = t) : underAt q n l k = t := by rw [underAt_get he, h]
end Go.Proofs.Ytcjekbncllccbaa
