/-
  The contract of schema.Format.
-/
import Derived.Test.YtjnamjkdjcndiaaDoorRSFmt
import Derived.Test.YtjnamjkdjcndiaaDoorBase
namespace Go.Proofs.YtjnamjkdjcndiaaDoor
open Go.RowKit Go.Sort
set_option linter.unusedVariables false
def RetTypes (w : World) (e : Ending) (w' : World) : Prop := ∃ g, e = .returned (.slice (some ⟨g, 0, none⟩) 5 5) ∧ w.heap.size ≤ g ∧ Blk w' g 9 #[.string { data := #[105, 110, 116] }, .string { data := #[98, 111, 111, 108] }, .string { data := #[98, 121, 116, 101, 115] }, .string { data := #[100, 97, 116, 101] }, .string { data := #[100, 101, 99, 105, 109, 97, 108] }] ∧ Below w.heap.size w w'
theorem type_at {j : Nat} (h : j ≤ 4) : ∃ U : ByteArray, (#[.string { data := #[105, 110, 116] }, .string { data := #[98, 111, 111, 108] }, .string { data := #[98, 121, 116, 101, 115] }, .string { data := #[100, 97, 116, 101] }, .string { data := #[100, 101, 99, 105, 109, 97, 108] }] : Array Value)[j]? = some (.string U) ∧ U.data.toList = tyW ((j : Int) + 1) ∧ U.size ≤ 7 := by
  have : ∀ j : Fin 5, ∃ U : ByteArray, (#[.string { data := #[105, 110, 116] }, .string { data := #[98, 111, 111, 108] }, .string { data := #[98, 121, 116, 101, 115] }, .string { data := #[100, 97, 116, 101] }, .string { data := #[100, 101, 99, 105, 109, 97, 108] }] : Array Value)[j.val]? = some (.string U) ∧ U.data.toList = tyW ((j.val : Int) + 1) ∧ U.size ≤ 7 := by
    intro j
    match j with
    | 0 => exact ⟨_, rfl, rfl, by decide⟩
    | 1 => exact ⟨_, rfl, rfl, by decide⟩
    | 2 => exact ⟨_, rfl, rfl, by decide⟩
    | 3 => exact ⟨_, rfl, rfl, by decide⟩
    | 4 => exact ⟨_, rfl, rfl, by decide⟩
  exact this ⟨j, by omega⟩
theorem isB_below {B b : Nat} {bs : List Value} {w w' : World} (h : IsB B b bs w) (hb : Below w.heap.size w w') : IsB B b bs w' := by
  have g : ∀ p, Lib.BuilderAt 57 5 B b p bs w → Lib.BuilderAt 57 5 B b p bs w' := fun p hp => by
    have hlt := hp.lt
    obtain ⟨h1, v, h2, h3, h4⟩ := hp
    exact ⟨h1, v, (hb.block b hlt).trans h2, own_below h3 hb, h4⟩
  exact h.imp (g _) (g _)
theorem isB_len {B b : Nat} {bs : List Value} {w : World} (h : IsB B b bs w) : b < w.heap.size := by
  rcases h with h | h
  · exact h.lt
  · exact h.lt
theorem strCells_len (s : ByteArray) : (Lib.strCells s).length = s.size := by unfold Lib.strCells; rw [List.length_map, sizeD]
theorem byteCells_len (l : List UInt8) : (Lib.byteCells l).length = l.length := by unfold Lib.byteCells; rw [List.length_map]
theorem bytes_next {l : List UInt8} {s : ByteArray} {m : List UInt8} (h : l ++ s.data.toList = m) : Lib.byteCells l ++ Lib.strCells s = Lib.byteCells m := by
  rw [Lib.strCells_eq, ← Lib.byteCells_append, h]
/-- A write behind which the text is m. -/
def RetW (B b : Nat) (m : List UInt8) (s : ByteArray) (w : World) (e : Ending) (w' : World) : Prop := e = .returned (.tuple #[.int .i64 s.size, .nilIface]) ∧ IsB B b (Lib.byteCells m) w' ∧ Below B w w' ∧ KeepsB b w w' ∧ B ≤ w'.heap.size
theorem write_any {B b : Nat} {l m : List UInt8} (s : ByteArray) (w : World) (h : IsB B b (Lib.byteCells l) w) (hm : l ++ s.data.toList = m) (hlen : l.length + s.size ≤ 1000000) (hBw : B ≤ w.heap.size) :
    Calls Tryd.prog 31 #[.pointer (some ⟨b, 0, none⟩), .string s] w (RetW B b m s w) :=
  (writeString_any B b _ s w h (by rw [byteCells_len]; omega) hBw).mono fun _ _ ⟨h1, h2, h3, h4⟩ => ⟨h1, by rw [← bytes_next hm]; exact h2, h3, h4, Nat.le_trans hBw h3.size⟩
theorem below_drew0 (w : World) : Below w.heap.size w w.drew := (Below.refl _ _).drew
theorem GotRow.keepB {p : Bool} {N b : Nat} {u : Value} {n : Nat} {T : TypeId} {cs : Array Value} {w w' : World} (h : GotRow p N u n T cs w) (hk : KeepsB b w w') (hT : T ≠ 5) (hN : b < N) : GotRow p N u n T cs w' := fun hp => by
  obtain ⟨A, e, hA, hB⟩ := h hp
  exact ⟨A, e, hA, hk _ _ _ (by omega) hT hB⟩
theorem GotPtr.keepB {p : Bool} {N b : Nat} {u : Value} {k : Nat} {T : TypeId} {cs : Array Value} {w w' : World} (h : GotPtr p N u k T cs w) (hk : KeepsB b w w') (hT : T ≠ 5) (hN : b < N) : GotPtr p N u k T cs w' := fun hp => by
  obtain ⟨A, e, hA, hB⟩ := h hp
  exact ⟨A, e, hA, hk _ _ _ (by omega) hT hB⟩
end Go.Proofs.YtjnamjkdjcndiaaDoor
