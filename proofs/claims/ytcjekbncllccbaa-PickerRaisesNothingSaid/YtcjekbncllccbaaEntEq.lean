/-
  '==' of entries.
-/
import Derived.Test.YtcjekbncllccbaaEntOps
import Derived.Laws.StructEq
import Derived.Lib.SlicesS
import Derived.Shelf.SlicesE.Kit
namespace Go.Proofs.Ytcjekbncllccbaa
open Go.RowKit Go.Sort
set_option maxRecDepth 100000 in
set_option maxHeartbeats 1000000 in
theorem eq_val (d : Nat) (a c : Bool) (n m : Int) (s t : ByteArray) (w : World) :
    (Op.equalIn (d + 2) 35 (.agg #[.bool a, .int .i64 n, .string s]) (.agg #[.bool c, .int .i64 m, .string t])).run Try.prog w = .ok (a == c && (n == m && (s.toList == t.toList))) w := by
  have u3 := Try.underlying3
  have hS : Try.prog.underlying 35 = some (.struct (Try.prog.fieldsOf 35)) := by kernel_rfl
  have hp : Try.prog.stoodInHeld 35 = false := by kernel_rfl
  rw [run_equalIn_agg w (d + 1) 35 _ _ hS hp]
  simp only [Program.fieldsOf, Try.underlying35]
  go_simp
  by_cases h1 : a = c <;> by_cases h2 : n = m <;> by_cases h3 : s.toList = t.toList <;> simp [h1, h2, h3]
set_option maxRecDepth 100000 in
set_option maxHeartbeats 1000000 in
theorem eq_rk (d : Nat) (a c : Bool) (n m q r : Int) (s t : ByteArray) (w : World) :
    (Op.equalIn (d + 3) 37 (.agg #[.bool a, .int .i64 n, .string s, .int .i64 q]) (.agg #[.bool c, .int .i64 m, .string t, .int .i64 r])).run Try.prog w = .ok ((a == c && (n == m && (s.toList == t.toList))) && q == r) w := by
  have u3 := Try.underlying3
  have hS : Try.prog.underlying 37 = some (.struct (Try.prog.fieldsOf 37)) := by kernel_rfl
  have hp : Try.prog.stoodInHeld 37 = false := by kernel_rfl
  have hv := fun (a c : Bool) (n m : Int) (s t : ByteArray) w => eq_val d a c n m s t w
  rw [run_equalIn_agg w (d + 2) 37 _ _ hS hp]
  simp only [Program.fieldsOf, Try.underlying37]
  simp only [Op.eqFields]
  go_simp
  by_cases h1 : a = c <;> by_cases h2 : n = m <;> by_cases h3 : s.toList = t.toList <;> by_cases h4 : q = r <;> simp [h1, h2, h3, h4]
def rkB (a c : Bool) (n m q r : Int) (s t : ByteArray) : Bool := (a == c && (n == m && (s.toList == t.toList))) && q == r
set_option maxRecDepth 100000 in
set_option maxHeartbeats 1000000 in
theorem eq_ent (d : Nat) (i1 ro1 li1 b1 d1 b2 d2 de1 i2 ro2 li2 f1 g1 f2 g2 de2 : Int) (a1 a2 c1 c2 : Bool) (s1 s2 t1 t2 : ByteArray) (w : World) :
    (Op.equalIn (d + 4) 41 (.agg #[.int .i64 i1, .int .i64 ro1, .int .i64 li1, .bool a1, .int .i64 b1, .string s1, .int .i64 d1, .bool a2, .int .i64 b2, .string s2, .int .i64 d2, .int .i64 de1]) (.agg #[.int .i64 i2, .int .i64 ro2, .int .i64 li2, .bool c1, .int .i64 f1, .string t1, .int .i64 g1, .bool c2, .int .i64 f2, .string t2, .int .i64 g2, .int .i64 de2])).run Try.prog w
      = .ok (i1 == i2 && (ro1 == ro2 && (li1 == li2 && (rkB a1 c1 b1 f1 d1 g1 s1 t1 && (rkB a2 c2 b2 f2 d2 g2 s2 t2 && de1 == de2))))) w := by
  have u3 := Try.underlying3
  have hS : Try.prog.underlying 41 = some (.struct (Try.prog.fieldsOf 41)) := by kernel_rfl
  have hp : Try.prog.stoodInHeld 41 = false := by kernel_rfl
  have hv : ∀ (a c : Bool) (n m q r : Int) (s t : ByteArray) (w : World), (Op.equalIn (d + 3) 37 (.agg #[.bool a, .int .i64 n, .string s, .int .i64 q]) (.agg #[.bool c, .int .i64 m, .string t, .int .i64 r])).run Try.prog w = .ok (rkB a c n m q r s t) w := fun a c n m q r s t w => eq_rk d a c n m q r s t w
  rw [run_equalIn_agg w (d + 3) 41 _ _ hS hp]
  simp only [Program.fieldsOf, Try.underlying41]
  simp only [Op.eqFields]
  generalize hR1 : rkB a1 c1 b1 f1 d1 g1 s1 t1 = R1
  generalize hR2 : rkB a2 c2 b2 f2 d2 g2 s2 t2 = R2
  have hv1 := hv a1 c1 b1 f1 d1 g1 s1 t1
  have hv2 := hv a2 c2 b2 f2 d2 g2 s2 t2
  rw [hR1] at hv1
  rw [hR2] at hv2
  clear hv hR1 hR2
  go_simp
  by_cases h1 : i1 = i2 <;> by_cases h2 : ro1 = ro2 <;> by_cases h3 : li1 = li2 <;> by_cases h4 : de1 = de2 <;> cases R1 <;> cases R2 <;> simp [h1, h2, h3, h4]
def eqE (x y : Ent) : Bool := x.id == y.id && (x.rows == y.rows && (x.live == y.live && (rkB x.lo.null y.lo.null x.lo.n y.lo.n x.lo.seq y.lo.seq x.lo.s y.lo.s && (rkB x.hi.null y.hi.null x.hi.n y.hi.n x.hi.seq y.hi.seq x.hi.s y.hi.s && x.del == y.del))))
theorem rkB_iff {x y : Rk} : rkB x.null y.null x.n y.n x.seq y.seq x.s y.s = true ↔ x = y := by
  obtain ⟨a, n, s, q⟩ := x
  obtain ⟨c, m, t, r⟩ := y
  unfold rkB
  simp only [Bool.and_eq_true, beq_iff_eq, Rk.mk.injEq]
  constructor
  · rintro ⟨⟨h1, h2, h3⟩, h4⟩; exact ⟨h1, h2, (Lib.bytes_beq_iff s t).1 (by simpa using h3), h4⟩
  · rintro ⟨h1, h2, h3, h4⟩; exact ⟨⟨h1, h2, by rw [h3]⟩, h4⟩
theorem eqE_iff {x y : Ent} : eqE x y = true ↔ x = y := by
  obtain ⟨i1, r1, l1, x1, y1, d1⟩ := x
  obtain ⟨i2, r2, l2, x2, y2, d2⟩ := y
  unfold eqE
  simp only [Bool.and_eq_true, beq_iff_eq, rkB_iff, Ent.mk.injEq]
theorem eqE_false {x y : Ent} : eqE x y = false ↔ x ≠ y := by rw [← Bool.not_eq_true, eqE_iff]
theorem eql_ent (x y : Ent) (w : World) : (binOp .eql 41 (.agg #[.int .i64 x.id, .int .i64 x.rows, .int .i64 x.live, .bool x.lo.null, .int .i64 x.lo.n, .string x.lo.s, .int .i64 x.lo.seq, .bool x.hi.null, .int .i64 x.hi.n, .string x.hi.s, .int .i64 x.hi.seq, .int .i64 x.del]) (.agg #[.int .i64 y.id, .int .i64 y.rows, .int .i64 y.live, .bool y.lo.null, .int .i64 y.lo.n, .string y.lo.s, .int .i64 y.lo.seq, .bool y.hi.null, .int .i64 y.hi.n, .string y.hi.s, .int .i64 y.hi.seq, .int .i64 y.del])).run Try.prog w = .ok (.bool (eqE x y)) w := by
  rw [run_eql_struct, show (10000 : Nat) = 9996 + 4 from rfl, eq_ent]; rfl
theorem neq_ent (x y : Ent) (w : World) : (binOp .neq 41 (.agg #[.int .i64 x.id, .int .i64 x.rows, .int .i64 x.live, .bool x.lo.null, .int .i64 x.lo.n, .string x.lo.s, .int .i64 x.lo.seq, .bool x.hi.null, .int .i64 x.hi.n, .string x.hi.s, .int .i64 x.hi.seq, .int .i64 x.del]) (.agg #[.int .i64 y.id, .int .i64 y.rows, .int .i64 y.live, .bool y.lo.null, .int .i64 y.lo.n, .string y.lo.s, .int .i64 y.lo.seq, .bool y.hi.null, .int .i64 y.hi.n, .string y.hi.s, .int .i64 y.hi.seq, .int .i64 y.del])).run Try.prog w = .ok (.bool (!eqE x y)) w := by
  rw [run_neq_struct, show (10000 : Nat) = 9996 + 4 from rfl, eq_ent]; rfl
theorem guard_ent : GuardAt Try.prog 41 (fun x : Ent => .agg x.cells.toArray) := GuardAt.agg _ (by kernel_rfl)
theorem eqlAt_ent : EqlAt Try.prog 41 (fun x : Ent => .agg x.cells.toArray) eqE := ⟨fun x y w => eql_ent x y w, guard_ent⟩
end Go.Proofs.Ytcjekbncllccbaa
