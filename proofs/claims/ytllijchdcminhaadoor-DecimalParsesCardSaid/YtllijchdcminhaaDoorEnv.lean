/-
  What the library's variables hold: the table of powers of ten, and the two errors of strconv.
-/
import Derived.Test.YtllijchdcminhaaDoorDecFmt
import Derived.Lib.AtoiErrMem
namespace Go.Proofs.YtllijchdcminhaaDoor
open Go.RowKit Go.Sort
/-- A variable of the library's holds an interface value that is not nil. -/
def VarIs (w : World) (n : String) : Prop := ∃ (tp : TypeId) (p : Value), w.var? Tryd.prog n = some #[.iface tp p]
theorem glob_syn : Tryd.prog.globalNamed "strconv.ErrSyntax" = some 1 := by kernel_rfl
theorem glob_rng : Tryd.prog.globalNamed "strconv.ErrRange" = some 2 := by kernel_rfl
/-- What the library's variables hold. -/
structure Env (w : World) : Prop where
  tab : Tab w
  syn : VarIs w "strconv.ErrSyntax"
  rng : VarIs w "strconv.ErrRange"
theorem Env.below {w w' : World} (h : Env w) (hb : Below w.heap.size w w') : Env w' := by
  obtain ⟨t, ⟨a, b, h1⟩, ⟨c, d, h2⟩⟩ := h
  exact ⟨t.below hb, ⟨a, b, Joins.var_stays glob_syn h1 hb (Nat.le_refl _)⟩, ⟨c, d, Joins.var_stays glob_rng h2 hb (Nat.le_refl _)⟩⟩
theorem below_bw {w w' : World} {e : TypeId} (h : w' = w ∨ ∃ t, w' = Lib.bytesWorld w e t) : Below w.heap.size w w' := by
  rcases h with rfl | ⟨t, rfl⟩
  · exact Below.refl _ _
  · exact Lib.bytesWorld_below w e t
end Go.Proofs.YtllijchdcminhaaDoor
