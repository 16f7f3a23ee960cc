/-
  The contract of ref18.CheckSnapshot.
-/
import Derived.Test.YtjfnpklknehiiaaDoorSnapCheck
namespace Go.Proofs.YtjfnpklknehiiaaDoor
open Go.RowKit Go.Sort
theorem snapB_ents {x q n : Int} {l : List Ent} (h : entsB l = false) : snapB x q n l = false := by simp [snapB, h]
theorem snapB_under {x q n : Int} {l : List Ent} (h : HeadOk x q n l.length) (he : entsB l = true) {t : Bool} (ht : allTo (underAt q n l) l.length = t) : snapB x q n l = t := by
  unfold snapB; rw [headB_of h, he, ht]; rfl
end Go.Proofs.YtjfnpklknehiiaaDoor
