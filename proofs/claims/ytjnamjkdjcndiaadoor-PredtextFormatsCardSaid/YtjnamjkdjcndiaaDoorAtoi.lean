/-
  The contract of strconv.Atoi at every string of the reach.
-/
import Derived.Test.YtjnamjkdjcndiaaDoorDecFmt
import Derived.Test.YtjnamjkdjcndiaaDoorNumLaw
import Derived.Lib.AtoiErrMem
namespace Go.Proofs.YtjnamjkdjcndiaaDoor
open Go.RowKit Go.Sort
/-- A variable of the library's holds an interface value that is not nil. -/
def VarIs (w : World) (n : String) : Prop := ∃ (tp : TypeId) (p : Value), w.var? Tryd.prog n = some #[.iface tp p]
/-- What the library's variables hold. -/
structure Env (w : World) : Prop where
  tab : Tab w
  syn : VarIs w "strconv.ErrSyntax"
  rng : VarIs w "strconv.ErrRange"
theorem below_bw {w w' : World} {e : TypeId} (h : w' = w ∨ ∃ t, w' = Lib.bytesWorld w e t) : Below w.heap.size w w' := by
  rcases h with rfl | ⟨t, rfl⟩
  · exact Below.refl _ _
  · exact Lib.bytesWorld_below w e t
theorem okV_some {l : List UInt8} {v : Int} (h : okV (Lib.atoiAll l) = some v) : Lib.atoiAll l = .ok v := by
  rcases hh : Lib.atoiAll l with x | _ | _
  · rw [hh] at h; simp only [okV, Option.some.injEq] at h; rw [h]
  · rw [hh] at h; simp [okV] at h
  · rw [hh] at h; simp [okV] at h
end Go.Proofs.YtjnamjkdjcndiaaDoor
