/-
  Arguments of a law that are values or columns, opened.
-/
import Derived.Test.YtojfhlppiicpbaaDoorFrame
import Derived.Lib.SmallJoins
namespace Go.Proofs.YtojfhlppiicpbaaDoor
open Go.ChangeShapes Go.WideShapes Go.ChangeAt Go.RowKit
section
variable {H : Type} {enc : TypeId × Value → H} {W : World} {b0 : Nat}
theorem wf_bd {a : Int} (h : (Lit.int .i64 a).wf = true) : -9223372036854775808 ≤ a ∧ a ≤ 9223372036854775807 := by
  simp [Lit.wf, IntKind.min, IntKind.max, IntKind.signed, IntKind.bits] at h; omega
set_option maxRecDepth 100000 in
theorem opened_column {v : Value} {d : DataW H} {p : List MemPlace} (hval : Value.okWide Tryd.prog W .any b0 41 v) (h : DataW.Trod enc Tryd.prog W 0 (fun _ => true) true 41 v d p) :
    ∃ (s : ByteArray) (a k : Int) (b : Bool), v = .agg #[.string s, .int .i64 a, .int .i64 k, .bool b] ∧ s.size ≤ maxLen ∧ (-9223372036854775808 ≤ a ∧ a ≤ 9223372036854775807) ∧ (-9223372036854775808 ≤ k ∧ k ≤ 9223372036854775807) := by
  obtain ⟨v0, v1, v2, v3, y0, y1, y2, y3, n, rfl, _, _, h0, h1, h2, h3⟩ := Go.Joins.open_agg4 Tryd.underlying41 (by kernel_rfl) (by kernel_rfl) hval h
  obtain ⟨s, e0, _, ws⟩ := DataW.trod_string Tryd.underlying9 h0
  obtain ⟨a, e1, _, wa⟩ := DataW.trod_int Tryd.underlying3 h1
  obtain ⟨k, e2, _, wk⟩ := DataW.trod_int Tryd.underlying3 h2
  obtain ⟨b, e3, _⟩ := DataW.trod_bool Tryd.underlying4 h3
  simp at e0 e1 e2 e3
  subst e0 e1 e2 e3
  exact ⟨s, a, k, b, rfl, ws, wf_bd wa, wf_bd wk⟩
end
end Go.Proofs.YtojfhlppiicpbaaDoor
