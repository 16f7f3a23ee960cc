/-
  The contract of strconv.Atoi at every string of the reach.
-/
import Derived.Test.YtjfnpklknehiiaaDoorDecFmt
import Derived.Test.YtjfnpklknehiiaaDoorNumLaw
import Derived.Lib.AtoiErrMem
namespace Go.Proofs.YtjfnpklknehiiaaDoor
open Go.RowKit Go.Sort
/-- A variable of the library's holds an interface value that is not nil. -/
def VarIs (w : World) (n : String) : Prop := ∃ (tp : TypeId) (p : Value), w.var? Tryd.prog n = some #[.iface tp p]
theorem glob_syn : Tryd.prog.globalNamed "strconv.ErrSyntax" = some 0 := by kernel_rfl
theorem glob_rng : Tryd.prog.globalNamed "strconv.ErrRange" = some 1 := by kernel_rfl
/-- What the library's variables hold. -/
structure Env (w : World) : Prop where
  tab : Tab w
  syn : VarIs w "strconv.ErrSyntax"
  rng : VarIs w "strconv.ErrRange"
theorem Env.below {w w' : World} (h : Env w) (hb : Below w.heap.size w w') : Env w' := by
  obtain ⟨t, ⟨a, b, h1⟩, ⟨c, d, h2⟩⟩ := h
  exact ⟨t.below hb, ⟨a, b, Joins.var_stays glob_syn h1 hb (Nat.le_refl _)⟩, ⟨c, d, Joins.var_stays glob_rng h2 hb (Nat.le_refl _)⟩⟩
theorem below_bw {w w' : World} {e : TypeId} (h : w' = w ∨ ∃ t, w' = Lib.bytesWorld w e t) : Below w.heap.size w w' := by
  rcases h with rfl | ⟨t, rfl⟩
  · exact Below.refl _ _
  · exact Lib.bytesWorld_below w e t
theorem okV_some {l : List UInt8} {v : Int} (h : okV (Lib.atoiAll l) = some v) : Lib.atoiAll l = .ok v := by
  rcases hh : Lib.atoiAll l with x | _ | _
  · rw [hh] at h; simp only [okV, Option.some.injEq] at h; rw [h]
  · rw [hh] at h; simp [okV] at h
  · rw [hh] at h; simp [okV] at h
theorem atoi_ok (s : ByteArray) (v : Int) (w : World) (hs : s.size ≤ 281474976710656) (h : okV (Lib.atoiAll s.data.toList) = some v) :
    Calls Tryd.prog 36 #[.string s] w fun e w' => e = .returned (.tuple #[.int .i64 v, .nilIface]) ∧ Below w.heap.size w w' :=
  (Tryd.strconv_Atoi_ok s (by omega) v (okV_some h) w).mono fun _ _ ⟨h1, h2⟩ => ⟨h1, below_bw h2⟩
/-- An error. -/
def RetAtoiBad (w : World) (e : Ending) (w' : World) : Prop := ∃ (x : Int) (N : Nat), e = .returned (.tuple #[.int .i64 x, .iface 96 (.pointer (some ⟨N, 0, none⟩))]) ∧ Below w.heap.size w w'
theorem atoi_bad (s : ByteArray) (w : World) (hs : s.size ≤ 281474976710656) (h : okV (Lib.atoiAll s.data.toList) = none) (hE : Env w) :
    Calls Tryd.prog 36 #[.string s] w (RetAtoiBad w) := by
  obtain ⟨_, ⟨tp, p, h1⟩, ⟨tq, q, h2⟩⟩ := hE
  rcases hh : Lib.atoiAll s.data.toList with x | _ | _
  · rw [hh] at h; simp [okV] at h
  · exact (Any.strconv_Atoi_syntax_var Tryd.laysC172 s (by omega) hh tp p w h1).mono fun _ _ ⟨N, a, _, _, b⟩ => ⟨0, N, a, b⟩
  · exact (Tryd.strconv_Atoi_range_var s (by omega) hh tq q w h2).mono fun _ _ ⟨N, a, _, _, b⟩ => ⟨_, N, a, b⟩
end Go.Proofs.YtjfnpklknehiiaaDoor
