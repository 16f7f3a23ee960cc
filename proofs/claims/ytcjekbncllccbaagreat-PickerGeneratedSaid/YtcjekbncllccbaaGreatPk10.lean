/-
  The contract of law28.chosen.
-/
import Derived.Test.YtcjekbncllccbaaGreatPk8
namespace Go.Proofs.YtcjekbncllccbaaGreat
open Go.RowKit Go.Sort

def oneE (e : Ent) (ids : List Int) : List Ent := (ids.filter fun i => decide (e.id = i)).map fun _ => e
def chosenE (l : List Ent) (ids : List Int) : List Ent := l.flatMap fun e => oneE e ids
theorem oneE_next {e : Ent} {ids : List Int} {n : Nat} {i : Int} (h : ids[n]? = some i) : oneE e (ids.take (n + 1)) = oneE e (ids.take n) ++ (if e.id = i then [e] else []) := by
  unfold oneE
  rw [List.take_add_one, h, List.filter_append, List.map_append, Option.toList_some]
  congr 1
  by_cases hi : e.id = i <;> simp [hi]
theorem chosenE_next {l : List Ent} {ids : List Int} {m : Nat} {e : Ent} (h : l[m]? = some e) : chosenE (l.take (m + 1)) ids = chosenE (l.take m) ids ++ oneE e ids := by
  unfold chosenE
  rw [List.take_add_one, h, List.flatMap_append, Option.toList_some]
  simp
theorem oneE_len (e : Ent) (ids : List Int) : (oneE e ids).length ≤ ids.length := by
  unfold oneE; rw [List.length_map]; exact List.length_filter_le _ _
theorem chosenE_len (l : List Ent) (ids : List Int) : (chosenE l ids).length ≤ l.length * ids.length := by
  induction l with
  | nil => simp [chosenE]
  | cons e r ih =>
    have h1 := oneE_len e ids
    have e1 : chosenE (e :: r) ids = oneE e ids ++ chosenE r ids := by simp [chosenE]
    rw [e1, List.length_append, List.length_cons, Nat.add_mul]; omega
theorem oneE_take_len (e : Ent) (ids : List Int) (n : Nat) : (oneE e (ids.take n)).length ≤ ids.length := Nat.le_trans (oneE_len _ _) (by rw [List.length_take]; omega)
end Go.Proofs.YtcjekbncllccbaaGreat
