/-
  The contract of ref18.CheckSnapshot.
-/
import Derived.Test.YtcjekbncllccbaaSnapCheck
namespace Go.Proofs.Ytcjekbncllccbaa
open Go.RowKit Go.Sort
theorem in_b (n lo hi : Int) {b : Bool} (hb : inB n lo hi = b) (w : World) : Calls Try.prog 90 #[.int .i64 n, .int .i64 lo, .int .i64 hi] w fun e w' => e = .returned (.bool b) ∧ w = w' := by subst hb; exact in_any n lo hi w
theorem snapB_ents {x q n : Int} {l : List Ent} (h : entsB l = false) : snapB x q n l = false := by simp [snapB, h]
theorem snapB_under {x q n : Int} {l : List Ent} (h : HeadOk x q n l.length) (he : entsB l = true) {t : Bool} (ht : allTo (underAt q n l) l.length = t) : snapB x q n l = t := by
  unfold snapB; rw [headB_of h, he, ht]; rfl
end Go.Proofs.Ytcjekbncllccbaa
