/-
  Words for memory: the stores of a whole struct into one block.
-/
import Derived.Test.YtoikgjhekemjdaaSrcMem
namespace Go.Proofs.Ytoikgjhekemjdaa
open Go.RowKit
theorem blk8 {w : World} {A : Nat} {T : TypeId} {x0 x1 x2 x3 x4 x5 x6 x7 : Value} (a0 a1 a2 a3 a4 a5 a6 a7 : Value) (h : Blk w A T #[x0, x1, x2, x3, x4, x5, x6, x7]) :
    Blk ((((((((w.setCell ⟨A, 0, none⟩ a0).setCell ⟨A, 1, none⟩ a1).setCell ⟨A, 2, none⟩ a2).setCell ⟨A, 3, none⟩ a3).setCell ⟨A, 4, none⟩ a4).setCell ⟨A, 5, none⟩ a5).setCell ⟨A, 6, none⟩ a6).setCell ⟨A, 7, none⟩ a7) A T #[a0, a1, a2, a3, a4, a5, a6, a7] := by
  have h0 := h.set_ 0 a0
  simp only [List.setIfInBounds_toArray, List.set_cons_zero] at h0
  have h1 := h0.set_ 1 a1
  simp only [List.setIfInBounds_toArray, List.set_cons_zero, List.set_cons_succ] at h1
  have h2 := h1.set_ 2 a2
  simp only [List.setIfInBounds_toArray, List.set_cons_zero, List.set_cons_succ] at h2
  have h3 := h2.set_ 3 a3
  simp only [List.setIfInBounds_toArray, List.set_cons_zero, List.set_cons_succ] at h3
  have h4 := h3.set_ 4 a4
  simp only [List.setIfInBounds_toArray, List.set_cons_zero, List.set_cons_succ] at h4
  have h5 := h4.set_ 5 a5
  simp only [List.setIfInBounds_toArray, List.set_cons_zero, List.set_cons_succ] at h5
  have h6 := h5.set_ 6 a6
  simp only [List.setIfInBounds_toArray, List.set_cons_zero, List.set_cons_succ] at h6
  have h7 := h6.set_ 7 a7
  simp only [List.setIfInBounds_toArray, List.set_cons_zero, List.set_cons_succ] at h7
  exact h7
theorem grown8 (w : World) (A : Nat) (a0 a1 a2 a3 a4 a5 a6 a7 : Value) : w.grownBy ((((((((w.setCell ⟨A, 0, none⟩ a0).setCell ⟨A, 1, none⟩ a1).setCell ⟨A, 2, none⟩ a2).setCell ⟨A, 3, none⟩ a3).setCell ⟨A, 4, none⟩ a4).setCell ⟨A, 5, none⟩ a5).setCell ⟨A, 6, none⟩ a6).setCell ⟨A, 7, none⟩ a7) (some A) := grown_trans' (grown_trans' (grown_trans' (grown_trans' (grown_trans' (grown_trans' (grown_trans' (grownBy_set w ⟨A, 0, none⟩ a0) (grownBy_set _ ⟨A, 1, none⟩ a1)) (grownBy_set _ ⟨A, 2, none⟩ a2)) (grownBy_set _ ⟨A, 3, none⟩ a3)) (grownBy_set _ ⟨A, 4, none⟩ a4)) (grownBy_set _ ⟨A, 5, none⟩ a5)) (grownBy_set _ ⟨A, 6, none⟩ a6)) (grownBy_set _ ⟨A, 7, none⟩ a7)
theorem blk12 {w : World} {A : Nat} {T : TypeId} {x0 x1 x2 x3 x4 x5 x6 x7 x8 x9 x10 x11 : Value} (a0 a1 a2 a3 a4 a5 a6 a7 a8 a9 a10 a11 : Value) (h : Blk w A T #[x0, x1, x2, x3, x4, x5, x6, x7, x8, x9, x10, x11]) :
    Blk ((((((((((((w.setCell ⟨A, 0, none⟩ a0).setCell ⟨A, 1, none⟩ a1).setCell ⟨A, 2, none⟩ a2).setCell ⟨A, 3, none⟩ a3).setCell ⟨A, 4, none⟩ a4).setCell ⟨A, 5, none⟩ a5).setCell ⟨A, 6, none⟩ a6).setCell ⟨A, 7, none⟩ a7).setCell ⟨A, 8, none⟩ a8).setCell ⟨A, 9, none⟩ a9).setCell ⟨A, 10, none⟩ a10).setCell ⟨A, 11, none⟩ a11) A T #[a0, a1, a2, a3, a4, a5, a6, a7, a8, a9, a10, a11] := by
  have h0 := h.set_ 0 a0
  simp only [List.setIfInBounds_toArray, List.set_cons_zero] at h0
  have h1 := h0.set_ 1 a1
  simp only [List.setIfInBounds_toArray, List.set_cons_zero, List.set_cons_succ] at h1
  have h2 := h1.set_ 2 a2
  simp only [List.setIfInBounds_toArray, List.set_cons_zero, List.set_cons_succ] at h2
  have h3 := h2.set_ 3 a3
  simp only [List.setIfInBounds_toArray, List.set_cons_zero, List.set_cons_succ] at h3
  have h4 := h3.set_ 4 a4
  simp only [List.setIfInBounds_toArray, List.set_cons_zero, List.set_cons_succ] at h4
  have h5 := h4.set_ 5 a5
  simp only [List.setIfInBounds_toArray, List.set_cons_zero, List.set_cons_succ] at h5
  have h6 := h5.set_ 6 a6
  simp only [List.setIfInBounds_toArray, List.set_cons_zero, List.set_cons_succ] at h6
  have h7 := h6.set_ 7 a7
  simp only [List.setIfInBounds_toArray, List.set_cons_zero, List.set_cons_succ] at h7
  have h8 := h7.set_ 8 a8
  simp only [List.setIfInBounds_toArray, List.set_cons_zero, List.set_cons_succ] at h8
  have h9 := h8.set_ 9 a9
  simp only [List.setIfInBounds_toArray, List.set_cons_zero, List.set_cons_succ] at h9
  have h10 := h9.set_ 10 a10
  simp only [List.setIfInBounds_toArray, List.set_cons_zero, List.set_cons_succ] at h10
  have h11 := h10.set_ 11 a11
  simp only [List.setIfInBounds_toArray, List.set_cons_zero, List.set_cons_succ] at h11
  exact h11
theorem grown12 (w : World) (A : Nat) (a0 a1 a2 a3 a4 a5 a6 a7 a8 a9 a10 a11 : Value) : w.grownBy ((((((((((((w.setCell ⟨A, 0, none⟩ a0).setCell ⟨A, 1, none⟩ a1).setCell ⟨A, 2, none⟩ a2).setCell ⟨A, 3, none⟩ a3).setCell ⟨A, 4, none⟩ a4).setCell ⟨A, 5, none⟩ a5).setCell ⟨A, 6, none⟩ a6).setCell ⟨A, 7, none⟩ a7).setCell ⟨A, 8, none⟩ a8).setCell ⟨A, 9, none⟩ a9).setCell ⟨A, 10, none⟩ a10).setCell ⟨A, 11, none⟩ a11) (some A) := grown_trans' (grown_trans' (grown_trans' (grown_trans' (grown_trans' (grown_trans' (grown_trans' (grown_trans' (grown_trans' (grown_trans' (grown_trans' (grownBy_set w ⟨A, 0, none⟩ a0) (grownBy_set _ ⟨A, 1, none⟩ a1)) (grownBy_set _ ⟨A, 2, none⟩ a2)) (grownBy_set _ ⟨A, 3, none⟩ a3)) (grownBy_set _ ⟨A, 4, none⟩ a4)) (grownBy_set _ ⟨A, 5, none⟩ a5)) (grownBy_set _ ⟨A, 6, none⟩ a6)) (grownBy_set _ ⟨A, 7, none⟩ a7)) (grownBy_set _ ⟨A, 8, none⟩ a8)) (grownBy_set _ ⟨A, 9, none⟩ a9)) (grownBy_set _ ⟨A, 10, none⟩ a10)) (grownBy_set _ ⟨A, 11, none⟩ a11)
theorem Only.row {g A : Nat} {w w' w'' : World} (h : Only g w w') (k : w'.grownBy w'' (some A)) (hA : w.heap.size ≤ A) : Only g w w'' := h.grown k (fun j hj => by injection hj; exact .inl (by omega))
theorem Blk.row {g A : Nat} {w w' : World} {t : TypeId} {cs : Array Value} (h : Blk w g t cs) (k : w.grownBy w' (some A)) (hA : g ≠ A) : Blk w' g t cs := h.grown k (by intro e; injection e with e; exact hA e.symm)
theorem Src.row {w w' : World} {B g A : Nat} {t : TypeId} {rest : List Int} (h : Src w B t g rest) (k : w.grownBy w' (some A)) (hg : g ≠ A) (hB : B ≤ A) : Src w' B t g rest := h.grown k (by intro e; injection e with e; exact hg e.symm) (fun j hj => by injection hj; omega)
theorem own_row {w w' : World} {A base : Nat} {e : TypeId} {size n : Nat} {v : Value} {xs : List Value} (h : w.ownsRow base e size v n xs) (k : w.grownBy w' (some A)) (hA : ∀ b, v.ownBlock = some b → b ≠ A) : w'.ownsRow base e size v n xs :=
  own_grown h k (fun b hb e' => by injection e' with e'; exact hA b hb e'.symm)
theorem below_row {w w' w'' : World} {B A : Nat} (h : Below B w w') (k : w'.grownBy w'' (some A)) (hA : B ≤ A) (hB : B ≤ w'.heap.size) : Below B w w'' := h.grown k hB (fun j hj => by injection hj; omega)
end Go.Proofs.Ytoikgjhekemjdaa
