/-
  The contracts of the helpers column and near of the statements of layer 6.
-/
import Derived.Test.YtgdahafokjdafaaGreatDoorPick
import Derived.Test.YtgdahafokjdafaaGreatDoorCmp
namespace Go.Proofs.YtgdahafokjdafaaGreatDoor
open Go.RowKit
def xStr : ByteArray := { data := #[120] }
/-- A column of a known type: its scale is 0 where it is no decimal. -/
def ColOk (t k : Int) : Prop := 1 ≤ t ∧ t ≤ 5 ∧ 0 ≤ k ∧ k ≤ 18 ∧ (t ≠ 5 → k = 0)
def RetCol (w : World) (null : Bool) (e : Ending) (w' : World) : Prop := ∃ t k : Int, e = .returned (.agg #[.string { data := #[120] }, .int .i64 t, .int .i64 k, .bool null]) ∧ ColOk t k ∧ Below w.heap.size w w'
set_option maxHeartbeats 1000000 in
theorem column_any (t k : Int) (null : Bool) (w : World) : Calls Tryz.prog 5 #[.int .i64 t, .int .i64 k, .bool null] w (RetCol w null) := by
  have p1 := pick_lo t 5 (by omega)
  have p2 := pick_hi t 5 (by omega)
  go_enter Tryz.func5, Tryz.ntmps5
  go_wp2_with fail
  refine (pick_any t 5 _ (by omega) (by omega)).mono ?_
  rintro e w' ⟨rfl, rfl⟩
  obtain ⟨x, hx⟩ : ∃ x, pick t 5 = x := ⟨_, rfl⟩
  rw [hx] at p1 p2 ⊢
  clear hx
  by_cases h5 : x = 4
  · subst h5
    go_wp2_with fail
    refine (pick_any k 19 _ (by omega) (by omega)).mono ?_
    rintro e w' ⟨rfl, rfl⟩
    have p3 := pick_lo k 19 (by omega)
    have p4 := pick_hi k 19 (by omega)
    obtain ⟨y, hy⟩ : ∃ y, pick k 19 = y := ⟨_, rfl⟩
    rw [hy] at p3 p4 ⊢
    clear hy
    go_wp2
    exact bodyPost_ret (v := .agg #[.string { data := #[120] }, .int .i64 5, .int .i64 y, .bool null]) (by simp [results, Tryz.results5, go_sem]) rfl ⟨5, y, rfl, ⟨by omega, by omega, by omega, by omega, fun h => absurd rfl h⟩, ((Below.refl _ _).alloc (Nat.le_refl _) _).alloc (by simp) _⟩
  · have hq : (1 + x == 5) = false := by simp; omega
    go_wp2
    exact bodyPost_ret (v := .agg #[.string { data := #[120] }, .int .i64 (1 + x), .int .i64 0, .bool null]) (by simp [results, Tryz.results5, go_sem]) rfl ⟨1 + x, 0, rfl, ⟨by omega, by omega, by omega, by omega, fun _ => rfl⟩, ((Below.refl _ _).alloc (Nat.le_refl _) _).alloc (by simp) _⟩
end Go.Proofs.YtgdahafokjdafaaGreatDoor
