/-
  The contracts of slices.Contains at strings, of the two functions member, and of garbage.Collect and the reference's.
-/
import Derived.Test.YtojfhlppiicpbaaDoorShelf
import Derived.Test.YtojfhlppiicpbaaDoorSameS
import Derived.Test.YtojfhlppiicpbaaDoorNameSpec
import Derived.Laws.AppendOwn
namespace Go.Proofs.YtojfhlppiicpbaaDoor
open Go.RowKit
def RetB0 (w : World) (b : Bool) (e : Ending) (w' : World) : Prop := e = .returned (.bool b) ∧ w = w'
theorem RetB0.mk_ {w : World} {b b' : Bool} (h : b = b') : RetB0 w b (.returned (.bool b')) w := by subst h; exact ⟨rfl, rfl⟩
theorem info_str : (Tryd.prog.info? 9).map (fun i => (i.zero, i.size, i.bytes)) = some (some (.string ByteArray.empty), 1, 16) := by kernel_rfl
theorem contS_any (u : Value) (us : List ByteArray) (x : ByteArray) (w : World) (h : Sl w 1 u us.length (strV us)) : Calls Tryd.prog 26 #[u, .string x] w (RetB0 w (Lib.containsS us x)) := by
  obtain ⟨A, c, rfl, h1, h2, h3, h4⟩ := h
  by_cases h0 : us.length = 0
  · obtain rfl := List.eq_nil_of_length_eq_zero h0
    exact (Tryd.slices_Contains_string_empty A c x w).mono fun _ _ ⟨a, b⟩ => ⟨a, b.symm⟩
  · obtain ⟨ad, rfl, hb, hc⟩ := h4 (by omega)
    obtain ⟨u0, hu0⟩ : ∃ u0, (strV us)[0]? = some u0 := ⟨_, List.getElem?_eq_getElem (by rw [strV_length]; omega)⟩
    have c0 := hc 0 u0 hu0
    have hspot : ad.spot = none := by
      have := World.cell?_spot c0
      simpa [Addr.add] using this
    obtain ⟨b, off, spot⟩ := ad
    simp only at hspot
    subst hspot
    unfold maxLen at h2
    have := Tryd.slices_Contains_string b off us.length c us x w (Nat.le_refl _) (by omega) (fun j hj => by
      have e : (strV us)[j]? = some (.string (us.getD j ByteArray.empty)) := by
        simp only [strV, List.getElem?_map, List.getElem?_eq_getElem hj, Option.map_some, List.getD, Option.getD_some]
      have := hc j _ e
      rwa [Go.WideShapes.add_plain] at this)
    rw [List.take_length] at this
    exact this.mono fun _ _ ⟨a, b⟩ => ⟨a, b.symm⟩
theorem cont_hit {us : List ByteArray} {k : Nat} {x : ByteArray} (h : us[k]? = some x) : Lib.containsS us x = true := (Lib.containsS_iff us x).2 (List.mem_of_getElem? h)
theorem cont_miss {us : List ByteArray} {x : ByteArray} (h : ∀ j y, us[j]? = some y → j < us.length → y ≠ x) : Lib.containsS us x = false := by
  cases hc : Lib.containsS us x with
  | false => rfl
  | true =>
    obtain ⟨j, hj⟩ := List.mem_iff_getElem?.1 ((Lib.containsS_iff us x).1 hc)
    exact absurd rfl (h j x hj (List.getElem?_eq_some_iff.1 hj).1)
/-- What Collect collects. -/
def collStep (used : List ByteArray) (n : Int) (acc : List ByteArray) (s : ByteArray) : List ByteArray := if decide ((acc.length : Int) < n) && !Lib.containsS used s then acc ++ [s] else acc
def coll (have_ used : List ByteArray) (n : Int) : List ByteArray := have_.foldl (collStep used n) []
theorem coll_snoc {hs used : List ByteArray} {n : Int} {k : Nat} {x : ByteArray} (h : hs[k]? = some x) : coll (hs.take (k + 1)) used n = collStep used n (coll (hs.take k) used n) x := by
  unfold coll
  rw [List.take_add_one, h, Option.toList_some, List.foldl_append]; rfl
theorem collStep_len (used : List ByteArray) (n : Int) (acc : List ByteArray) (s : ByteArray) : (collStep used n acc s).length ≤ acc.length + 1 := by
  unfold collStep; split <;> simp
theorem coll_len (hs used : List ByteArray) (n : Int) (k : Nat) : (coll (hs.take k) used n).length ≤ k := by
  induction k with
  | zero => simp [coll]
  | succ k ih =>
    by_cases hk : k < hs.length
    · rw [coll_snoc (List.getElem?_eq_getElem hk)]
      have := collStep_len used n (coll (hs.take k) used n) hs[k]; omega
    · rw [show hs.take (k + 1) = hs.take k by rw [List.take_of_length_le (by omega), List.take_of_length_le (by omega)]]; omega
theorem coll_all {hs used : List ByteArray} {n : Int} {k : Nat} (h : hs.length ≤ k) : coll (hs.take k) used n = coll hs used n := by rw [List.take_of_length_le h]
end Go.Proofs.YtojfhlppiicpbaaDoor
