/-
  What the listed variables of the garbage rows give the walks: the table of powers of ten, and the two errors of strconv.
-/
import Derived.Test.YtjfnpklknehiiaaDoorLaid
import Derived.Test.YtjfnpklknehiiaaDoorAtoi
import Derived.Stop.LaidErr
namespace Go.Proofs.YtjfnpklknehiiaaDoor
open Go.ChangeShapes Go.WideShapes Go.ChangeAt Go.RowKit
set_option maxRecDepth 100000
/-- The rows' list of five. -/
def laid5 : List (String × DataW Unit) := [("math/bits.deBruijn32tab", Rows.laid_math_bits_deBruijn32tab), ("math/bits.deBruijn64tab", Rows.laid_math_bits_deBruijn64tab), ("internal/strconv.uint64pow10", Rows.laid_internal_strconv_uint64pow10), ("strconv.ErrRange", Rows.laid_strconv_ErrRange), ("strconv.ErrSyntax", Rows.laid_strconv_ErrSyntax)]
theorem gErrType : (Tryd.prog.globals[0]?).map (·.type) = some 68 := by kernel_rfl
theorem gErrType2 : (Tryd.prog.globals[1]?).map (·.type) = some 68 := by kernel_rfl
theorem cellsErr : Tryd.prog.cellsOf 123 = 1 := by kernel_rfl
theorem cellsStr : Tryd.prog.cellsOf 9 = 1 := by kernel_rfl
theorem starErr : "*" ++ "errors.errorString" = "*errors.errorString" := by decide
theorem rowErr (u : TypeId) (h : Tryd.prog.typeName? 3 u = some "*errors.errorString") : u = 121 :=
  typeName_ptr_named (nm := "errors.errorString") (by rw [starErr]; kernel_rfl) (by kernel_rfl) (by decide) u (by rw [starErr]; exact h)
/-- The door's own heap meets the condition. -/
theorem door5 (os : Os) (args : Array Value) : laidMetH Tryd.prog laid5 ((World.doorLaid Tryd.prog 62 os).forCall (fun _ _ => 0) ⟨#[], args, []⟩).memory :=
  laidMetH_of_parts3 (fuel := 8) (laidMet_of_run' 8 (by kernel_rfl) (by kernel_rfl)) (by kernel_rfl) (by kernel_rfl)
theorem env_of_laid {W : World} (h : laidMetH Tryd.prog laid5 W) : Env W := by
  rw [MakeChecks.laidMetH_plain _ _ _ (by kernel_rfl)] at h
  have h3 : laidMet Tryd.prog (("strconv.ErrRange", .iface "*errors.errorString" (.ptr (.agg [.lit (.string [118, 97, 108, 117, 101, 32, 111, 117, 116, 32, 111, 102, 32, 114, 97, 110, 103, 101])]))) :: [("strconv.ErrSyntax", .iface "*errors.errorString" (.ptr (.agg [.lit (.string [105, 110, 118, 97, 108, 105, 100, 32, 115, 121, 110, 116, 97, 120])])))]) W := h.tail.tail.tail
  obtain ⟨a, s, hv, _⟩ := laid_sentinel h3 glob_rng gErrType2 Tryd.underlying68 rowErr Tryd.underlying121 Tryd.underlying123 rfl rfl Tryd.underlying9 cellsErr cellsStr
  obtain ⟨a', s', hv', _⟩ := laid_sentinel h3.tail glob_syn gErrType Tryd.underlying68 rowErr Tryd.underlying121 Tryd.underlying123 rfl rfl Tryd.underlying9 cellsErr cellsStr
  refine ⟨?_, ⟨_, _, hv'⟩, ⟨_, _, hv⟩⟩
  obtain ⟨ps, ⟨g0, t0, cs0, f0, p0, q0, hg0, ht0, hv0, hd0, ⟨g1, t1, cs1, f1, p1, q1, hg1, ht1, hv1, hd1, ⟨g2, t2, cs2, f2, p2, q2, hg2, ht2, hv2, hd2, _, _⟩, _⟩, _⟩, _, _⟩ := h
  obtain rfl := Option.some.inj (tab_glob.symm.trans hg2)
  obtain rfl := Option.some.inj (tPow.symm.trans ht2)
  unfold Tab Lib.TabIs
  rw [powData] at hd2
  rw [hv2, ← Lib.cells_of_tab Tryd.underlying125 Tryd.underlying90 (by kernel_rfl) (by kernel_rfl) hd2]
end Go.Proofs.YtjfnpklknehiiaaDoor
