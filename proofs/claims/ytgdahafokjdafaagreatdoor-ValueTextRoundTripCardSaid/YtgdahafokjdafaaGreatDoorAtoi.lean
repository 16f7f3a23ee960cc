/-
  The contract of strconv.Atoi at every string of the reach.
-/
import Derived.Test.YtgdahafokjdafaaGreatDoorDecFmt
import Derived.Test.YtgdahafokjdafaaGreatDoorNumLaw
import Derived.Lib.AtoiErrMem
namespace Go.Proofs.YtgdahafokjdafaaGreatDoor
open Go.RowKit Go.Sort
/-- A variable of the library's holds an interface value that is not nil. -/
def VarIs (w : World) (n : String) : Prop := ∃ (tp : TypeId) (p : Value), w.var? Tryz.prog n = some #[.iface tp p]
theorem glob_syn : Tryz.prog.globalNamed "strconv.ErrSyntax" = some 1 := by kernel_rfl
theorem glob_rng : Tryz.prog.globalNamed "strconv.ErrRange" = some 2 := by kernel_rfl
/-- What the library's variables hold. -/
structure Env (w : World) : Prop where
  tab : Tab w
  syn : VarIs w "strconv.ErrSyntax"
  rng : VarIs w "strconv.ErrRange"
theorem Env.below {w w' : World} (h : Env w) (hb : Below w.heap.size w w') : Env w' := by
  obtain ⟨t, ⟨a, b, h1⟩, ⟨c, d, h2⟩⟩ := h
  exact ⟨t.below hb, ⟨a, b, Joins.var_stays glob_syn h1 hb (Nat.le_refl _)⟩, ⟨c, d, Joins.var_stays glob_rng h2 hb (Nat.le_refl _)⟩⟩
theorem below_bw {w w' : World} {e : TypeId} (h : w' = w ∨ ∃ t, w' = Lib.bytesWorld w e t) : Below w.heap.size w w' := by
  rcases h with rfl | ⟨t, rfl⟩
  · exact Below.refl _ _
  · exact Lib.bytesWorld_below w e t
theorem okV_some {l : List UInt8} {v : Int} (h : okV (Lib.atoiAll l) = some v) : Lib.atoiAll l = .ok v := by
  rcases hh : Lib.atoiAll l with x | _ | _
  · rw [hh] at h; simp only [okV, Option.some.injEq] at h; rw [h]
  · rw [hh] at h; simp [okV] at h
  · rw [hh] at h; simp [okV] at h
/-- An error. -/
def RetAtoiBad (w : World) (e : Ending) (w' : World) : Prop := ∃ (x : Int) (N : Nat), e = .returned (.tuple #[.int .i64 x, .iface 123 (.pointer (some ⟨N, 0, none⟩))]) ∧ Below w.heap.size w w'
end Go.Proofs.YtgdahafokjdafaaGreatDoor
