/-
  Arguments of a law that are values or columns, opened.
-/
import Derived.Test.YtjfnpklknehiiaaDoorFrame
import Derived.Lib.SmallJoins
namespace Go.Proofs.YtjfnpklknehiiaaDoor
open Go.ChangeShapes Go.WideShapes Go.ChangeAt Go.RowKit
section
variable {H : Type} {enc : TypeId × Value → H} {W : World} {b0 : Nat}
theorem wf_bd {a : Int} (h : (Lit.int .i64 a).wf = true) : -9223372036854775808 ≤ a ∧ a ≤ 9223372036854775807 := by
  simp [Lit.wf, IntKind.min, IntKind.max, IntKind.signed, IntKind.bits] at h; omega
set_option maxRecDepth 100000 in
theorem opened_value {v : Value} {d : DataW H} {p : List MemPlace} (hval : Value.okWide Tryd.prog W .any b0 36 v) (h : DataW.Trod enc Tryd.prog W 0 (fun _ => true) true 36 v d p) :
    ∃ (b : Bool) (a : Int) (s : ByteArray), v = .agg #[.bool b, .int .i64 a, .string s] ∧ (-9223372036854775808 ≤ a ∧ a ≤ 9223372036854775807) ∧ s.size ≤ maxLen := by
  obtain ⟨v0, v1, v2, y0, y1, y2, n, rfl, _, _, h0, h1, h2⟩ := Go.Joins.open_agg3 Tryd.underlying36 (by kernel_rfl) (by kernel_rfl) hval h
  obtain ⟨b, e0, _⟩ := DataW.trod_bool Tryd.underlying4 h0
  obtain ⟨a, e1, _, wa⟩ := DataW.trod_int Tryd.underlying2 h1
  obtain ⟨s, e2, _, ws⟩ := DataW.trod_string Tryd.underlying9 h2
  simp at e0 e1 e2
  subst e0 e1 e2
  exact ⟨b, a, s, rfl, wf_bd wa, ws⟩
end
end Go.Proofs.YtjfnpklknehiiaaDoor
