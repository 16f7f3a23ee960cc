/-
  Entries of versions in plain Lean: what they are, when they are valid, and their cells.
-/
import Derived.Test.YtcjekbncllccbaaBase
namespace Go.Proofs.Ytcjekbncllccbaa
open Go.RowKit
structure Rk where
  null : Bool
  n : Int
  s : ByteArray
  seq : Int
structure Ent where
  id : Int
  rows : Int
  live : Int
  lo : Rk
  hi : Rk
  del : Int
/-- The numbers are integers of 64 bits, the strings are not too long. -/
def Rk.wf (r : Rk) : Prop := -9223372036854775808 ≤ r.n ∧ r.n ≤ 9223372036854775807 ∧ -9223372036854775808 ≤ r.seq ∧ r.seq ≤ 9223372036854775807 ∧ r.s.size ≤ 9223372036854775807
def i64ok (n : Int) : Prop := -9223372036854775808 ≤ n ∧ n ≤ 9223372036854775807
def Ent.wf (e : Ent) : Prop := i64ok e.id ∧ i64ok e.rows ∧ i64ok e.live ∧ e.lo.wf ∧ e.hi.wf ∧ i64ok e.del
def Rk.cells (r : Rk) : List Value := [.bool r.null, .int .i64 r.n, .string r.s, .int .i64 r.seq]
def Ent.cells (e : Ent) : List Value :=
  [.int .i64 e.id, .int .i64 e.rows, .int .i64 e.live, .bool e.lo.null, .int .i64 e.lo.n, .string e.lo.s, .int .i64 e.lo.seq, .bool e.hi.null, .int .i64 e.hi.n, .string e.hi.s, .int .i64 e.hi.seq, .int .i64 e.del]
theorem Ent.cells_length (e : Ent) : e.cells.length = 12 := rfl
def ents (l : List Ent) : List Value := l.flatMap Ent.cells
theorem ents_length (l : List Ent) : (ents l).length = l.length * 12 := by
  induction l with
  | nil => rfl
  | cons e r ih => simp only [ents, List.flatMap_cons, List.length_append, Ent.cells_length, List.length_cons] at ih ⊢; omega
theorem ents_nil : ents [] = [] := rfl
theorem ents_cons (e : Ent) (l : List Ent) : ents (e :: l) = e.cells ++ ents l := rfl
theorem ents_append (a b : List Ent) : ents (a ++ b) = ents a ++ ents b := by simp [ents]
theorem ents_snoc (a : List Ent) (e : Ent) : ents (a ++ [e]) = ents a ++ e.cells := by simp [ents]
theorem ents_get {l : List Ent} {k j : Nat} {e : Ent} (h : l[k]? = some e) (hj : j < 12) : (ents l)[k * 12 + j]? = e.cells[j]? := by
  induction l generalizing k with
  | nil => simp at h
  | cons x r ih =>
    rw [ents_cons]
    cases k with
    | zero =>
      simp at h; subst h
      rw [List.getElem?_append_left (by rw [Ent.cells_length]; omega)]; simp
    | succ k =>
      rw [List.getElem?_append_right (by rw [Ent.cells_length]; omega), Ent.cells_length, show (k + 1) * 12 + j - 12 = k * 12 + j by omega]
      exact ih (by simpa using h)

/-- A valid rank; a valid entry. -/
def Rk.okB (r : Rk) : Bool := (if r.null then decide (r.n = 0) && decide (r.s.size = 0) else decide (r.s.size ≤ 64)) && (decide (0 ≤ r.seq) && decide (r.seq ≤ 1099511627776))
def Ent.okB (e : Ent) : Bool :=
  (decide (1 ≤ e.id) && decide (e.id ≤ 2147483647)) && (decide (1 ≤ e.rows) && decide (e.rows ≤ 1024)) && (decide (1 ≤ e.live) && decide (e.live ≤ e.rows)) && e.lo.okB && e.hi.okB && (decide (0 ≤ e.del) && decide (e.del ≤ 2147483647))
/-- f holds at every number below k. -/
def allTo (f : Nat → Bool) : Nat → Bool
  | 0 => true
  | k + 1 => allTo f k && f k
theorem allTo_true {f : Nat → Bool} {n : Nat} : allTo f n = true ↔ ∀ k, k < n → f k = true := by
  induction n with
  | zero => simp [allTo]
  | succ n ih =>
    simp only [allTo, Bool.and_eq_true, ih]
    constructor
    · intro ⟨h, h'⟩ k hk
      by_cases e : k = n
      · subst e; exact h'
      · exact h k (by omega)
    · intro h; exact ⟨fun k hk => h k (by omega), h n (by omega)⟩
theorem allTo_false {f : Nat → Bool} {n k : Nat} (hk : k < n) (h : f k = false) : allTo f n = false := by
  rw [← Bool.not_eq_true, allTo_true]
  intro h'; rw [h' k hk] at h; cases h
theorem allTo_and (f g : Nat → Bool) (n : Nat) : allTo (fun k => f k && g k) n = (allTo f n && allTo g n) := by
  induction n with
  | zero => rfl
  | succ n ih => simp only [allTo, ih]; cases allTo f n <;> cases allTo g n <;> cases f n <;> cases g n <;> rfl
theorem allTo_congr {f g : Nat → Bool} {n : Nat} (h : ∀ k, k < n → f k = g k) : allTo f n = allTo g n := by
  induction n with
  | zero => rfl
  | succ n ih => simp only [allTo]; rw [ih (fun k hk => h k (by omega)), h n (by omega)]
/-- The number of the entry ahead of place k lies below that of the entry there. -/
def ascAt (l : List Ent) (k : Nat) : Bool :=
  match k with
  | 0 => true
  | j + 1 => match l[j]?, l[j + 1]? with
    | some a, some b => decide (a.id < b.id)
    | _, _ => true
def okAt (l : List Ent) (k : Nat) : Bool := (match l[k]? with | some e => e.okB | none => true) && ascAt l k
def Ent.underB (e : Ent) (q n : Int) : Bool := decide (e.id < n) && decide (e.del < n) && decide (e.lo.seq < q) && decide (e.hi.seq < q)
def underAt (q n : Int) (l : List Ent) (k : Nat) : Bool := match l[k]? with | some e => e.underB q n | none => true
def entsB (l : List Ent) : Bool := allTo (okAt l) l.length
/-- A valid version. -/
def headB (v q n : Int) (len : Nat) : Bool :=
  decide (0 ≤ v) && decide (v ≤ 2147483647) && decide (0 ≤ q) && decide (q ≤ 1099511627777) && decide (1 ≤ n) && decide (n ≤ 2147483647) && decide (len ≤ 256)
def snapB (v q n : Int) (l : List Ent) : Bool := headB v q n l.length && entsB l && allTo (underAt q n l) l.length
theorem okAt_get {l : List Ent} {k : Nat} {e : Ent} (h : l[k]? = some e) : okAt l k = (e.okB && ascAt l k) := by unfold okAt; rw [h]
theorem underAt_get {q n : Int} {l : List Ent} {k : Nat} {e : Ent} (h : l[k]? = some e) : underAt q n l k = e.underB q n := by unfold underAt; rw [h]
theorem ascAt_zero (l : List Ent) : ascAt l 0 = true := rfl
theorem ascAt_succ {l : List Ent} {k : Nat} {a b : Ent} (ha : l[k]? = some a) (hb : l[k + 1]? = some b) : ascAt l (k + 1) = decide (a.id < b.id) := by
  unfold ascAt; simp only [ha, hb]
end Go.Proofs.Ytcjekbncllccbaa
