/-
  The contracts of manifest.Entry and ref18.Entry.
-/
import Derived.Test.YtjfnpklknehiiaaDoorEnt
import Derived.Test.YtjfnpklknehiiaaDoorBase
import Derived.Test.YtjfnpklknehiiaaDoorValPut
namespace Go.Proofs.YtjfnpklknehiiaaDoor
open Go.RowKit
def Rk.val (r : Rk) : Value := .agg #[.bool r.null, .int .i64 r.n, .string r.s, .int .i64 r.seq]
def Ent.val (e : Ent) : Value := .agg #[.int .i64 e.id, .int .i64 e.rows, .int .i64 e.live, .bool e.lo.null, .int .i64 e.lo.n, .string e.lo.s, .int .i64 e.lo.seq, .bool e.hi.null, .int .i64 e.hi.n, .string e.hi.s, .int .i64 e.hi.seq, .int .i64 e.del]
def objB (n : Int) : Bool := decide (1 ≤ n) && decide (n ≤ 2147483647)
def plainB (b : Bool) (n : Int) (s : ByteArray) : Bool := if b then decide (n = 0) && decide (s.size = 0) else decide (s.size ≤ 64)
def inB (n lo hi : Int) : Bool := decide (lo ≤ n) && decide (n ≤ hi)
theorem nil_size (s : ByteArray) : s.toList = [] ↔ s.size = 0 := by
  rw [Go.ByteArray.toList_eq, ← List.length_eq_zero_iff, size_data]
theorem abel (w : World) (o : Obj) : Below w.heap.size w (w.alloc o) := (Below.refl _ _).alloc (Nat.le_refl _) _
theorem abel2 (w : World) (o p : Obj) : Below w.heap.size w ((w.alloc o).alloc p) := (abel w o).alloc (by simp) _
theorem Rk.okB_plain (r : Rk) : r.okB = (plainB r.null r.n r.s && (decide (0 ≤ r.seq) && decide (r.seq ≤ 1099511627776))) := rfl
theorem Ent.okB_prog (e : Ent) : e.okB = (objB e.id && decide (1 ≤ e.rows) && decide (e.rows ≤ 1024) && decide (1 ≤ e.live) && decide (e.live ≤ e.rows) && e.lo.okB && e.hi.okB && (decide (e.del = 0) || objB e.del)) := by
  have h : (decide (e.del = 0) || objB e.del) = (decide (0 ≤ e.del) && decide (e.del ≤ 2147483647)) := by
    unfold objB
    by_cases h0 : e.del = 0
    · simp [h0]
    · by_cases h1 : 0 ≤ e.del
      · simp [h0, h1]; omega
      · simp [h0, h1]; omega
  rw [h]; simp only [Ent.okB, objB, Bool.and_assoc]
theorem Ent.okB_ref (e : Ent) : e.okB = (inB e.id 1 2147483647 && inB e.rows 1 1024 && inB e.live 1 e.rows && e.lo.okB && e.hi.okB && inB e.del 0 2147483647) := by
  simp only [Ent.okB, inB, Bool.and_assoc]
end Go.Proofs.YtjfnpklknehiiaaDoor
