/-
  The contracts of the helpers column and near of the statements of layer 6.
-/
import Derived.Test.YtdffmkbcjnonaaaPick
import Derived.Test.YtdffmkbcjnonaaaCmp
namespace Go.Proofs.Ytdffmkbcjnonaaa
open Go.RowKit
def xStr : ByteArray := { data := #[120] }
/-- A column of a known type: its scale is 0 where it is no decimal. -/
def ColOk (t k : Int) : Prop := 1 ≤ t ∧ t ≤ 5 ∧ 0 ≤ k ∧ k ≤ 18 ∧ (t ≠ 5 → k = 0)
def RetCol (w : World) (null : Bool) (e : Ending) (w' : World) : Prop := ∃ t k : Int, e = .returned (.agg #[.string { data := #[120] }, .int .i64 t, .int .i64 k, .bool null]) ∧ ColOk t k ∧ Below w.heap.size w w'
set_option maxHeartbeats 1000000 in
theorem column_any (t k : Int) (null : Bool) (w : World) : Calls Try.prog 35 #[.int .i64 t, .int .i64 k, .bool null] w (RetCol w null) := by
  have p1 := pick_lo t 5 (by omega)
  have p2 := pick_hi t 5 (by omega)
  go_enter Try.func35, Try.ntmps35
  go_wp2_with fail
  refine (pick_any t 5 _ (by omega) (by omega)).mono ?_
  rintro e w' ⟨rfl, rfl⟩
  obtain ⟨x, hx⟩ : ∃ x, pick t 5 = x := ⟨_, rfl⟩
  rw [hx] at p1 p2 ⊢
  clear hx
  by_cases h5 : x = 4
  · subst h5
    go_wp2_with fail
    refine (pick_any k 19 _ (by omega) (by omega)).mono ?_
    rintro e w' ⟨rfl, rfl⟩
    have p3 := pick_lo k 19 (by omega)
    have p4 := pick_hi k 19 (by omega)
    obtain ⟨y, hy⟩ : ∃ y, pick k 19 = y := ⟨_, rfl⟩
    rw [hy] at p3 p4 ⊢
    clear hy
    go_wp2
    exact bodyPost_ret (v := .agg #[.string { data := #[120] }, .int .i64 5, .int .i64 y, .bool null]) (by simp [results, Try.results35, go_sem]) rfl ⟨5, y, rfl, ⟨by omega, by omega, by omega, by omega, fun h => absurd rfl h⟩, ((Below.refl _ _).alloc (Nat.le_refl _) _).alloc (by simp) _⟩
  · have hq : (1 + x == 5) = false := by simp; omega
    go_wp2
    exact bodyPost_ret (v := .agg #[.string { data := #[120] }, .int .i64 (1 + x), .int .i64 0, .bool null]) (by simp [results, Try.results35, go_sem]) rfl ⟨1 + x, 0, rfl, ⟨by omega, by omega, by omega, by omega, fun _ => rfl⟩, ((Below.refl _ _).alloc (Nat.le_refl _) _).alloc (by simp) _⟩
/-- A value near the limits. -/
def nearB (n : Int) : Bool := pick n 5 == 0
def nearX (n : Int) : Int := ([0, 1, 2, -1, -719162, -719163, 2932896, 2932897, 999999999999999999, 1000000000000000000, -999999999999999999, -1000000000000000000] : List Int).getD (pick (wrap64 (n.tdiv 5)) 12).toNat 0
def RetNear (w : World) (n : Int) (s : ByteArray) (e : Ending) (w' : World) : Prop := e = .returned (.agg #[.bool (nearB n), .int .i64 (nearX n), .string s]) ∧ Below w.heap.size w w'
theorem RetNear.mk_ {w w' : World} {n : Int} {s : ByteArray} {b : Bool} {x : Int} (hb : b = nearB n) (hx : x = nearX n) (h : Below w.heap.size w w') : RetNear w n s (.returned (.agg #[.bool b, .int .i64 x, .string s])) w' := by
  subst hb; subst hx; exact ⟨rfl, h⟩
set_option maxHeartbeats 1000000 in
theorem near_any (n : Int) (s : ByteArray) (w : World) : Calls Try.prog 42 #[.int .i64 n, .string s] w (RetNear w n s) := by
  go_enter Try.func42, Try.ntmps42
  go_wp2_with fail
  refine (pick_any n 5 _ (by omega) (by omega)).mono ?_
  rintro e w' ⟨rfl, rfl⟩
  obtain ⟨x, hx⟩ : ∃ x, pick n 5 = x := ⟨_, rfl⟩
  rw [hx]
  have HB := Lib.hid (show (x == 0) = nearB n by rw [← hx]; rfl)
  clear hx
  obtain ⟨b, hb⟩ : ∃ b, (x == 0) = b := ⟨_, rfl⟩
  rw [hb] at HB
  go_wp2_with fail
  refine (pick_any _ 12 _ (by omega) (by omega)).mono ?_
  rintro e w' ⟨rfl, rfl⟩
  obtain ⟨j, hj⟩ : ∃ j, pick (wrap64 (n.tdiv 5)) 12 = j := ⟨_, rfl⟩
  have p1 := pick_lo (wrap64 (n.tdiv 5)) 12 (by omega)
  have p2 := pick_hi (wrap64 (n.tdiv 5)) 12 (by omega)
  rw [hj] at p1 p2 ⊢
  have HJ := Lib.hid hj
  clear hj
  have hj : j = 0 ∨ j = 1 ∨ j = 2 ∨ j = 3 ∨ j = 4 ∨ j = 5 ∨ j = 6 ∨ j = 7 ∨ j = 8 ∨ j = 9 ∨ j = 10 ∨ j = 11 := by omega
  rcases hj with rfl | rfl | rfl | rfl | rfl | rfl | rfl | rfl | rfl | rfl | rfl | rfl
  all_goals
    have HX := Lib.hid (show nearX n = _ by unfold nearX; rw [HJ.out])
    go_wp2
    exact bodyPost_ret (v := .agg #[.bool b, .int .i64 _, .string s]) (by simp [results, Try.results42, go_sem]) rfl (RetNear.mk_ HB.out HX.out.symm (((Below.refl _ _).alloc (Nat.le_refl _) _).alloc (by simp) _))
end Go.Proofs.Ytdffmkbcjnonaaa
