/-
  NARROWER THAN 'FOR EVERY INPUT', by the rows' own cells (each row's printed sentence says how): SchemaRaw: laid · SchemaGenerated: laid · SchemaIds: laid · DecimalFormats: laid · DecimalRescales: laid · DecimalRescaleBack: laid · GarbageExamples: laid · GarbageNames: laid · GarbageInverse: laid · GarbageCollects: laid · GarbageNeverUsed: laid · ValueFormats: laid.
  DERIVED. THE GIVEN ROWS OF THIS SEAT. 12 by the template 'for every input the law returns true; each argument reads behind the call as it read before'; 0 by the template 'total and deterministic' (their statements: YtlchfaakmgclcaaDoorTotals.lean).
  GIVEN WITH THE SEED: the statements are not yours to turn. If you find one false, say at which input.
  Laid BY PROGRAM, IN A SANDBOX (cutbox-rows.mjs): the forced cells as the released guide's own fill.sh prints them over the translation 40775f1be9ecd532… (all of the seat's roots in one cut). By AI agents, Wed Nov 11 2026. No macro, syntax, notation, axiom, sorry.
-/
import Derived.Test.YtlchfaakmgclcaaDoorChecked
import GoSem.Claim
import GoSem.ClaimJoined
import GoSem.ClaimMapViews
import Derived.JoinedTies
import Derived.KernelRfl
namespace Go.Proofs.YtlchfaakmgclcaaDoor
/- THE CELL 'sum', in the pinned program and in every row, IS THE sha256 OF THE DUMP (.gsa) THAT YtlchfaakmgclcaaDoorProg.lean LOADS. Nothing in Lean hashes anything: it is a label: what it is worth is what the hold of that sum in a sandbox is worth. -/
noncomputable def Tryd.pinned : Pinned := { name := "ytlchfaakmgclcaadoor", sum := "40775f1be9ecd532ddced88826d673d61b8492687acd60b7d4d750ce08a7f847", checked := Tryd.checked }
namespace Rows
def none {H : Type} : Left H := { results := [], args := [] }

/- WHAT THE LISTED PACKAGE-LEVEL VARIABLES READ AS WHEN THE CALL BEGINS. Each datum BY PROGRAM (the guide's laid-datum.mjs) off the statement by which the dump's own 'gosem.cut.vars' lays the variable. In a bare row this is a premise. The card (YtlchfaakmgclcaaDoorCards.lean) ties it to the program's text. -/
def laid_math_bits_deBruijn32tab {H : Type} : DataW H := .agg [.lit (.int .u8 0), .lit (.int .u8 1), .lit (.int .u8 28), .lit (.int .u8 2), .lit (.int .u8 29), .lit (.int .u8 14), .lit (.int .u8 24), .lit (.int .u8 3), .lit (.int .u8 30), .lit (.int .u8 22), .lit (.int .u8 20), .lit (.int .u8 15), .lit (.int .u8 25), .lit (.int .u8 17), .lit (.int .u8 4), .lit (.int .u8 8), .lit (.int .u8 31), .lit (.int .u8 27), .lit (.int .u8 13), .lit (.int .u8 23), .lit (.int .u8 21), .lit (.int .u8 19), .lit (.int .u8 16), .lit (.int .u8 7), .lit (.int .u8 26), .lit (.int .u8 12), .lit (.int .u8 18), .lit (.int .u8 6), .lit (.int .u8 11), .lit (.int .u8 5), .lit (.int .u8 10), .lit (.int .u8 9)]
def laid_math_bits_deBruijn64tab {H : Type} : DataW H := .agg [.lit (.int .u8 0), .lit (.int .u8 1), .lit (.int .u8 56), .lit (.int .u8 2), .lit (.int .u8 57), .lit (.int .u8 49), .lit (.int .u8 28), .lit (.int .u8 3), .lit (.int .u8 61), .lit (.int .u8 58), .lit (.int .u8 42), .lit (.int .u8 50), .lit (.int .u8 38), .lit (.int .u8 29), .lit (.int .u8 17), .lit (.int .u8 4), .lit (.int .u8 62), .lit (.int .u8 47), .lit (.int .u8 59), .lit (.int .u8 36), .lit (.int .u8 45), .lit (.int .u8 43), .lit (.int .u8 51), .lit (.int .u8 22), .lit (.int .u8 53), .lit (.int .u8 39), .lit (.int .u8 33), .lit (.int .u8 30), .lit (.int .u8 24), .lit (.int .u8 18), .lit (.int .u8 12), .lit (.int .u8 5), .lit (.int .u8 63), .lit (.int .u8 55), .lit (.int .u8 48), .lit (.int .u8 27), .lit (.int .u8 60), .lit (.int .u8 41), .lit (.int .u8 37), .lit (.int .u8 16), .lit (.int .u8 46), .lit (.int .u8 35), .lit (.int .u8 44), .lit (.int .u8 21), .lit (.int .u8 52), .lit (.int .u8 32), .lit (.int .u8 23), .lit (.int .u8 11), .lit (.int .u8 54), .lit (.int .u8 26), .lit (.int .u8 40), .lit (.int .u8 15), .lit (.int .u8 34), .lit (.int .u8 20), .lit (.int .u8 31), .lit (.int .u8 10), .lit (.int .u8 25), .lit (.int .u8 14), .lit (.int .u8 19), .lit (.int .u8 9), .lit (.int .u8 13), .lit (.int .u8 8), .lit (.int .u8 7), .lit (.int .u8 6)]
def laid_internal_strconv_uint64pow10 {H : Type} : DataW H := .agg [.lit (.int .u64 1), .lit (.int .u64 10), .lit (.int .u64 100), .lit (.int .u64 1000), .lit (.int .u64 10000), .lit (.int .u64 100000), .lit (.int .u64 1000000), .lit (.int .u64 10000000), .lit (.int .u64 100000000), .lit (.int .u64 1000000000), .lit (.int .u64 10000000000), .lit (.int .u64 100000000000), .lit (.int .u64 1000000000000), .lit (.int .u64 10000000000000), .lit (.int .u64 100000000000000), .lit (.int .u64 1000000000000000), .lit (.int .u64 10000000000000000), .lit (.int .u64 100000000000000000), .lit (.int .u64 1000000000000000000), .lit (.int .u64 10000000000000000000)]
def laid_strconv_ErrRange {H : Type} : DataW H := .iface "*errors.errorString" (.ptr (.agg [.lit (.string [118, 97, 108, 117, 101, 32, 111, 117, 116, 32, 111, 102, 32, 114, 97, 110, 103, 101])]))
def laid_strconv_ErrSyntax {H : Type} : DataW H := .iface "*errors.errorString" (.ptr (.agg [.lit (.string [105, 110, 118, 97, 108, 105, 100, 32, 115, 121, 110, 116, 97, 120])]))

/-- 'micropartlaw7.SchemaRaw': WHATEVER THE INPUT: true; the input reads as it did. -/
def schemaRawSpec : ChangeSpec := { name := "schemaRaw", fn := fun _ => fun
  | [d1, d2] => { results := [.lit (.bool true)], args := [d1, d2] }
  | _ => none }
def schemaRawRow : OpenClaim := { program := "ytlchfaakmgclcaadoor", sum := "40775f1be9ecd532ddced88826d673d61b8492687acd60b7d4d750ce08a7f847", func := "micropart/micropartlaw7.SchemaRaw", spec := "schemaRaw", inPlace := ["internal/abi.NoEscape"], unfollowed := true, recurses := true, named := ["internal/strconv.uint64pow10", "math/bits.deBruijn32tab", "math/bits.deBruijn64tab"], apart := false, laid := [("math/bits.deBruijn32tab", laid_math_bits_deBruijn32tab), ("math/bits.deBruijn64tab", laid_math_bits_deBruijn64tab), ("internal/strconv.uint64pow10", laid_internal_strconv_uint64pow10)] }
def SchemaRawSaid : Prop := schemaRawRow.holds Tryd.pinned (OpenSpec.ofChange schemaRawSpec)

/-- ITS FALSE NEIGHBOUR: 'it returns false'. Refute it at one input. -/
def schemaRawWrong : ChangeSpec := { name := "schemaRaw", fn := fun _ => fun
  | [d1, d2] => { results := [.lit (.bool false)], args := [d1, d2] }
  | _ => none }
def SchemaRawWrongFalsely : Prop := schemaRawRow.holds Tryd.pinned (OpenSpec.ofChange schemaRawWrong)

/-- 'micropartlaw7.SchemaGenerated': WHATEVER THE INPUT: true; the input reads as it did. -/
def schemaGeneratedSpec : ChangeSpec := { name := "schemaGenerated", fn := fun _ => fun
  | [d1, d2, d3, d4] => { results := [.lit (.bool true)], args := [d1, d2, d3, d4] }
  | _ => none }
def schemaGeneratedRow : OpenClaim := { program := "ytlchfaakmgclcaadoor", sum := "40775f1be9ecd532ddced88826d673d61b8492687acd60b7d4d750ce08a7f847", func := "micropart/micropartlaw7.SchemaGenerated", spec := "schemaGenerated", inPlace := ["internal/abi.NoEscape"], unfollowed := true, recurses := true, named := ["internal/strconv.uint64pow10", "math/bits.deBruijn32tab", "math/bits.deBruijn64tab"], apart := false, laid := [("math/bits.deBruijn32tab", laid_math_bits_deBruijn32tab), ("math/bits.deBruijn64tab", laid_math_bits_deBruijn64tab), ("internal/strconv.uint64pow10", laid_internal_strconv_uint64pow10)] }
def SchemaGeneratedSaid : Prop := schemaGeneratedRow.holds Tryd.pinned (OpenSpec.ofChange schemaGeneratedSpec)

/-- ITS FALSE NEIGHBOUR: 'it returns false'. Refute it at one input. -/
def schemaGeneratedWrong : ChangeSpec := { name := "schemaGenerated", fn := fun _ => fun
  | [d1, d2, d3, d4] => { results := [.lit (.bool false)], args := [d1, d2, d3, d4] }
  | _ => none }
def SchemaGeneratedWrongFalsely : Prop := schemaGeneratedRow.holds Tryd.pinned (OpenSpec.ofChange schemaGeneratedWrong)

/-- 'micropartlaw7.SchemaIds': WHATEVER THE INPUT: true; the input reads as it did. -/
def schemaIdsSpec : ChangeSpec := { name := "schemaIds", fn := fun _ => fun
  | [d1, d2] => { results := [.lit (.bool true)], args := [d1, d2] }
  | _ => none }
def schemaIdsRow : OpenClaim := { program := "ytlchfaakmgclcaadoor", sum := "40775f1be9ecd532ddced88826d673d61b8492687acd60b7d4d750ce08a7f847", func := "micropart/micropartlaw7.SchemaIds", spec := "schemaIds", inPlace := ["internal/abi.NoEscape"], unfollowed := true, recurses := true, named := ["internal/strconv.uint64pow10", "math/bits.deBruijn32tab", "math/bits.deBruijn64tab"], apart := false, laid := [("math/bits.deBruijn32tab", laid_math_bits_deBruijn32tab), ("math/bits.deBruijn64tab", laid_math_bits_deBruijn64tab), ("internal/strconv.uint64pow10", laid_internal_strconv_uint64pow10)] }
def SchemaIdsSaid : Prop := schemaIdsRow.holds Tryd.pinned (OpenSpec.ofChange schemaIdsSpec)

/-- ITS FALSE NEIGHBOUR: 'it returns false'. Refute it at one input. -/
def schemaIdsWrong : ChangeSpec := { name := "schemaIds", fn := fun _ => fun
  | [d1, d2] => { results := [.lit (.bool false)], args := [d1, d2] }
  | _ => none }
def SchemaIdsWrongFalsely : Prop := schemaIdsRow.holds Tryd.pinned (OpenSpec.ofChange schemaIdsWrong)

/-- 'micropartlaw5.DecimalFormats': WHATEVER THE INPUT: true; the input reads as it did. -/
def decimalFormatsSpec : ChangeSpec := { name := "decimalFormats", fn := fun _ => fun
  | [d1, d2, d3] => { results := [.lit (.bool true)], args := [d1, d2, d3] }
  | _ => none }
def decimalFormatsRow : OpenClaim := { program := "ytlchfaakmgclcaadoor", sum := "40775f1be9ecd532ddced88826d673d61b8492687acd60b7d4d750ce08a7f847", func := "micropart/micropartlaw5.DecimalFormats", spec := "decimalFormats", inPlace := ["internal/abi.NoEscape", "internal/bytealg.MakeNoZero"], named := ["internal/strconv.uint64pow10", "math/bits.deBruijn32tab", "math/bits.deBruijn64tab"], apart := false, laid := [("math/bits.deBruijn32tab", laid_math_bits_deBruijn32tab), ("math/bits.deBruijn64tab", laid_math_bits_deBruijn64tab), ("internal/strconv.uint64pow10", laid_internal_strconv_uint64pow10)] }
def DecimalFormatsSaid : Prop := decimalFormatsRow.holds Tryd.pinned (OpenSpec.ofChange decimalFormatsSpec)

/-- ITS FALSE NEIGHBOUR: 'it returns false'. Refute it at one input. -/
def decimalFormatsWrong : ChangeSpec := { name := "decimalFormats", fn := fun _ => fun
  | [d1, d2, d3] => { results := [.lit (.bool false)], args := [d1, d2, d3] }
  | _ => none }
def DecimalFormatsWrongFalsely : Prop := decimalFormatsRow.holds Tryd.pinned (OpenSpec.ofChange decimalFormatsWrong)

/-- 'micropartlaw5.DecimalRescales': WHATEVER THE INPUT: true; the input reads as it did. -/
def decimalRescalesSpec : ChangeSpec := { name := "decimalRescales", fn := fun _ => fun
  | [d1, d2, d3, d4] => { results := [.lit (.bool true)], args := [d1, d2, d3, d4] }
  | _ => none }
def decimalRescalesRow : OpenClaim := { program := "ytlchfaakmgclcaadoor", sum := "40775f1be9ecd532ddced88826d673d61b8492687acd60b7d4d750ce08a7f847", func := "micropart/micropartlaw5.DecimalRescales", spec := "decimalRescales", inPlace := ["internal/abi.NoEscape", "internal/bytealg.MakeNoZero"], named := ["internal/strconv.uint64pow10", "math/bits.deBruijn32tab", "math/bits.deBruijn64tab"], apart := false, laid := [("math/bits.deBruijn32tab", laid_math_bits_deBruijn32tab), ("math/bits.deBruijn64tab", laid_math_bits_deBruijn64tab), ("internal/strconv.uint64pow10", laid_internal_strconv_uint64pow10)] }
def DecimalRescalesSaid : Prop := decimalRescalesRow.holds Tryd.pinned (OpenSpec.ofChange decimalRescalesSpec)

/-- ITS FALSE NEIGHBOUR: 'it returns false'. Refute it at one input. -/
def decimalRescalesWrong : ChangeSpec := { name := "decimalRescales", fn := fun _ => fun
  | [d1, d2, d3, d4] => { results := [.lit (.bool false)], args := [d1, d2, d3, d4] }
  | _ => none }
def DecimalRescalesWrongFalsely : Prop := decimalRescalesRow.holds Tryd.pinned (OpenSpec.ofChange decimalRescalesWrong)

/-- 'micropartlaw5.DecimalRescaleBack': WHATEVER THE INPUT: true; the input reads as it did. -/
def decimalRescaleBackSpec : ChangeSpec := { name := "decimalRescaleBack", fn := fun _ => fun
  | [d1, d2, d3, d4] => { results := [.lit (.bool true)], args := [d1, d2, d3, d4] }
  | _ => none }
def decimalRescaleBackRow : OpenClaim := { program := "ytlchfaakmgclcaadoor", sum := "40775f1be9ecd532ddced88826d673d61b8492687acd60b7d4d750ce08a7f847", func := "micropart/micropartlaw5.DecimalRescaleBack", spec := "decimalRescaleBack", inPlace := ["internal/abi.NoEscape", "internal/bytealg.MakeNoZero"], named := ["internal/strconv.uint64pow10", "math/bits.deBruijn32tab", "math/bits.deBruijn64tab"], apart := false, laid := [("math/bits.deBruijn32tab", laid_math_bits_deBruijn32tab), ("math/bits.deBruijn64tab", laid_math_bits_deBruijn64tab), ("internal/strconv.uint64pow10", laid_internal_strconv_uint64pow10)] }
def DecimalRescaleBackSaid : Prop := decimalRescaleBackRow.holds Tryd.pinned (OpenSpec.ofChange decimalRescaleBackSpec)

/-- ITS FALSE NEIGHBOUR: 'it returns false'. Refute it at one input. -/
def decimalRescaleBackWrong : ChangeSpec := { name := "decimalRescaleBack", fn := fun _ => fun
  | [d1, d2, d3, d4] => { results := [.lit (.bool false)], args := [d1, d2, d3, d4] }
  | _ => none }
def DecimalRescaleBackWrongFalsely : Prop := decimalRescaleBackRow.holds Tryd.pinned (OpenSpec.ofChange decimalRescaleBackWrong)

/-- 'micropartlaw32.GarbageExamples': WHATEVER THE INPUT: true; the input reads as it did. -/
def garbageExamplesSpec : ChangeSpec := { name := "garbageExamples", fn := fun _ => fun
  | [] => { results := [.lit (.bool true)], args := [] }
  | _ => none }
def garbageExamplesRow : OpenClaim := { program := "ytlchfaakmgclcaadoor", sum := "40775f1be9ecd532ddced88826d673d61b8492687acd60b7d4d750ce08a7f847", func := "micropart/micropartlaw32.GarbageExamples", spec := "garbageExamples", named := ["strconv.ErrSyntax", "strconv.ErrRange", "internal/strconv.uint64pow10", "math/bits.deBruijn32tab", "math/bits.deBruijn64tab"], apart := false, laid := [("math/bits.deBruijn32tab", laid_math_bits_deBruijn32tab), ("math/bits.deBruijn64tab", laid_math_bits_deBruijn64tab), ("internal/strconv.uint64pow10", laid_internal_strconv_uint64pow10), ("strconv.ErrRange", laid_strconv_ErrRange), ("strconv.ErrSyntax", laid_strconv_ErrSyntax)] }
def GarbageExamplesSaid : Prop := garbageExamplesRow.holds Tryd.pinned (OpenSpec.ofChange garbageExamplesSpec)

/-- ITS FALSE NEIGHBOUR: 'it returns false'. Refute it at one input. -/
def garbageExamplesWrong : ChangeSpec := { name := "garbageExamples", fn := fun _ => fun
  | [] => { results := [.lit (.bool false)], args := [] }
  | _ => none }
def GarbageExamplesWrongFalsely : Prop := garbageExamplesRow.holds Tryd.pinned (OpenSpec.ofChange garbageExamplesWrong)

/-- 'micropartlaw32.GarbageNames': WHATEVER THE INPUT: true; the input reads as it did. -/
def garbageNamesSpec : ChangeSpec := { name := "garbageNames", fn := fun _ => fun
  | [d1, d2, d3, d4] => { results := [.lit (.bool true)], args := [d1, d2, d3, d4] }
  | _ => none }
def garbageNamesRow : OpenClaim := { program := "ytlchfaakmgclcaadoor", sum := "40775f1be9ecd532ddced88826d673d61b8492687acd60b7d4d750ce08a7f847", func := "micropart/micropartlaw32.GarbageNames", spec := "garbageNames", named := ["internal/strconv.uint64pow10", "math/bits.deBruijn32tab", "math/bits.deBruijn64tab", "strconv.ErrSyntax", "strconv.ErrRange"], apart := false, laid := [("math/bits.deBruijn32tab", laid_math_bits_deBruijn32tab), ("math/bits.deBruijn64tab", laid_math_bits_deBruijn64tab), ("internal/strconv.uint64pow10", laid_internal_strconv_uint64pow10), ("strconv.ErrRange", laid_strconv_ErrRange), ("strconv.ErrSyntax", laid_strconv_ErrSyntax)] }
def GarbageNamesSaid : Prop := garbageNamesRow.holds Tryd.pinned (OpenSpec.ofChange garbageNamesSpec)

/-- ITS FALSE NEIGHBOUR: 'it returns false'. Refute it at one input. -/
def garbageNamesWrong : ChangeSpec := { name := "garbageNames", fn := fun _ => fun
  | [d1, d2, d3, d4] => { results := [.lit (.bool false)], args := [d1, d2, d3, d4] }
  | _ => none }
def GarbageNamesWrongFalsely : Prop := garbageNamesRow.holds Tryd.pinned (OpenSpec.ofChange garbageNamesWrong)

/-- 'micropartlaw32.GarbageInverse': WHATEVER THE INPUT: true; the input reads as it did. -/
def garbageInverseSpec : ChangeSpec := { name := "garbageInverse", fn := fun _ => fun
  | [d1, d2] => { results := [.lit (.bool true)], args := [d1, d2] }
  | _ => none }
def garbageInverseRow : OpenClaim := { program := "ytlchfaakmgclcaadoor", sum := "40775f1be9ecd532ddced88826d673d61b8492687acd60b7d4d750ce08a7f847", func := "micropart/micropartlaw32.GarbageInverse", spec := "garbageInverse", named := ["internal/strconv.uint64pow10", "math/bits.deBruijn32tab", "math/bits.deBruijn64tab", "strconv.ErrSyntax", "strconv.ErrRange"], apart := false, laid := [("math/bits.deBruijn32tab", laid_math_bits_deBruijn32tab), ("math/bits.deBruijn64tab", laid_math_bits_deBruijn64tab), ("internal/strconv.uint64pow10", laid_internal_strconv_uint64pow10), ("strconv.ErrRange", laid_strconv_ErrRange), ("strconv.ErrSyntax", laid_strconv_ErrSyntax)] }
def GarbageInverseSaid : Prop := garbageInverseRow.holds Tryd.pinned (OpenSpec.ofChange garbageInverseSpec)

/-- ITS FALSE NEIGHBOUR: 'it returns false'. Refute it at one input. -/
def garbageInverseWrong : ChangeSpec := { name := "garbageInverse", fn := fun _ => fun
  | [d1, d2] => { results := [.lit (.bool false)], args := [d1, d2] }
  | _ => none }
def GarbageInverseWrongFalsely : Prop := garbageInverseRow.holds Tryd.pinned (OpenSpec.ofChange garbageInverseWrong)

/-- 'micropartlaw32.GarbageCollects': WHATEVER THE INPUT: true; the input reads as it did. -/
def garbageCollectsSpec : ChangeSpec := { name := "garbageCollects", fn := fun _ => fun
  | [d1, d2, d3, d4, d5] => { results := [.lit (.bool true)], args := [d1, d2, d3, d4, d5] }
  | _ => none }
def garbageCollectsRow : OpenClaim := { program := "ytlchfaakmgclcaadoor", sum := "40775f1be9ecd532ddced88826d673d61b8492687acd60b7d4d750ce08a7f847", func := "micropart/micropartlaw32.GarbageCollects", spec := "garbageCollects", named := ["internal/strconv.uint64pow10", "math/bits.deBruijn32tab", "math/bits.deBruijn64tab", "strconv.ErrSyntax", "strconv.ErrRange"], apart := false, laid := [("math/bits.deBruijn32tab", laid_math_bits_deBruijn32tab), ("math/bits.deBruijn64tab", laid_math_bits_deBruijn64tab), ("internal/strconv.uint64pow10", laid_internal_strconv_uint64pow10), ("strconv.ErrRange", laid_strconv_ErrRange), ("strconv.ErrSyntax", laid_strconv_ErrSyntax)] }
def GarbageCollectsSaid : Prop := garbageCollectsRow.holds Tryd.pinned (OpenSpec.ofChange garbageCollectsSpec)

/-- ITS FALSE NEIGHBOUR: 'it returns false'. Refute it at one input. -/
def garbageCollectsWrong : ChangeSpec := { name := "garbageCollects", fn := fun _ => fun
  | [d1, d2, d3, d4, d5] => { results := [.lit (.bool false)], args := [d1, d2, d3, d4, d5] }
  | _ => none }
def GarbageCollectsWrongFalsely : Prop := garbageCollectsRow.holds Tryd.pinned (OpenSpec.ofChange garbageCollectsWrong)

/-- 'micropartlaw32.GarbageNeverUsed': WHATEVER THE INPUT: true; the input reads as it did. -/
def garbageNeverUsedSpec : ChangeSpec := { name := "garbageNeverUsed", fn := fun _ => fun
  | [d1, d2, d3] => { results := [.lit (.bool true)], args := [d1, d2, d3] }
  | _ => none }
def garbageNeverUsedRow : OpenClaim := { program := "ytlchfaakmgclcaadoor", sum := "40775f1be9ecd532ddced88826d673d61b8492687acd60b7d4d750ce08a7f847", func := "micropart/micropartlaw32.GarbageNeverUsed", spec := "garbageNeverUsed", named := ["internal/strconv.uint64pow10", "math/bits.deBruijn32tab", "math/bits.deBruijn64tab", "strconv.ErrSyntax", "strconv.ErrRange"], apart := false, laid := [("math/bits.deBruijn32tab", laid_math_bits_deBruijn32tab), ("math/bits.deBruijn64tab", laid_math_bits_deBruijn64tab), ("internal/strconv.uint64pow10", laid_internal_strconv_uint64pow10), ("strconv.ErrRange", laid_strconv_ErrRange), ("strconv.ErrSyntax", laid_strconv_ErrSyntax)] }
def GarbageNeverUsedSaid : Prop := garbageNeverUsedRow.holds Tryd.pinned (OpenSpec.ofChange garbageNeverUsedSpec)

/-- ITS FALSE NEIGHBOUR: 'it returns false'. Refute it at one input. -/
def garbageNeverUsedWrong : ChangeSpec := { name := "garbageNeverUsed", fn := fun _ => fun
  | [d1, d2, d3] => { results := [.lit (.bool false)], args := [d1, d2, d3] }
  | _ => none }
def GarbageNeverUsedWrongFalsely : Prop := garbageNeverUsedRow.holds Tryd.pinned (OpenSpec.ofChange garbageNeverUsedWrong)

/-- 'micropartlaw6.ValueFormats': WHATEVER THE INPUT: true; the input reads as it did. -/
def valueFormatsSpec : ChangeSpec := { name := "valueFormats", fn := fun _ => fun
  | [d1, d2, d3, d4, d5, d6] => { results := [.lit (.bool true)], args := [d1, d2, d3, d4, d5, d6] }
  | _ => none }
def valueFormatsRow : OpenClaim := { program := "ytlchfaakmgclcaadoor", sum := "40775f1be9ecd532ddced88826d673d61b8492687acd60b7d4d750ce08a7f847", func := "micropart/micropartlaw6.ValueFormats", spec := "valueFormats", inPlace := ["internal/abi.NoEscape", "internal/bytealg.MakeNoZero"], named := ["internal/strconv.uint64pow10", "math/bits.deBruijn32tab", "math/bits.deBruijn64tab"], apart := false, laid := [("math/bits.deBruijn32tab", laid_math_bits_deBruijn32tab), ("math/bits.deBruijn64tab", laid_math_bits_deBruijn64tab), ("internal/strconv.uint64pow10", laid_internal_strconv_uint64pow10)] }
def ValueFormatsSaid : Prop := valueFormatsRow.holds Tryd.pinned (OpenSpec.ofChange valueFormatsSpec)

/-- ITS FALSE NEIGHBOUR: 'it returns false'. Refute it at one input. -/
def valueFormatsWrong : ChangeSpec := { name := "valueFormats", fn := fun _ => fun
  | [d1, d2, d3, d4, d5, d6] => { results := [.lit (.bool false)], args := [d1, d2, d3, d4, d5, d6] }
  | _ => none }
def ValueFormatsWrongFalsely : Prop := valueFormatsRow.holds Tryd.pinned (OpenSpec.ofChange valueFormatsWrong)

/- THE SECOND FORM. 'bulk': how many values and letters a reading holds, each counted each time it is reached (what is shared counts as often as it is met; a slice's spare places count too). A statement '..UptoSaid' is the law's where the arguments, and the package variables that the reading takes, are together of bulk at most 1048576: NARROWER than '..Said'. Prove '..Said' where nothing that the law and all that it calls make is longer than what came in: it says more and counts as full. Else prove '..UptoSaid'. A law counts once. -/
mutual
def uptoBulk {H : Type} : DataW H → Nat
  | .lit (.string bytes) => bytes.length + 1
  | .lit _ => 1
  | .nil => 1
  | .ptr d => uptoBulk d + 1
  | .slice elems spare => uptoBulkAll elems + uptoBulkAll spare + 1
  | .agg parts => uptoBulkAll parts + 1
  | .iface _ d => uptoBulk d + 1
  | .map entries => uptoBulkEntries entries + 1
  | .held _ => 1
def uptoBulkAll {H : Type} : List (DataW H) → Nat
  | [] => 0
  | d :: r => uptoBulk d + uptoBulkAll r
def uptoBulkEntries {H : Type} : List (Lit × DataW H) → Nat
  | [] => 0
  | x :: r => uptoBulkEntry x + uptoBulkEntries r
def uptoBulkEntry {H : Type} : Lit × DataW H → Nat
  | (.string bytes, d) => bytes.length + uptoBulk d + 1
  | (_, d) => uptoBulk d + 1
 end
def uptoSmall : (H : Type) → List (DataW H) → Bool := fun _ ds => decide (uptoBulkAll ds ≤ 1048576)
def OpenSpec.upto (s : _root_.Go.ChangeSpec) : _root_.Go.OpenSpec := { _root_.Go.OpenSpec.ofChange s with cond := some uptoSmall }

/-- 'micropartlaw7.SchemaRaw', WHERE WHAT IT READS IS OF BULK AT MOST 1048576: true; the input reads as it did. -/
def schemaRawUptoRow : OpenClaim := { program := "ytlchfaakmgclcaadoor", sum := "40775f1be9ecd532ddced88826d673d61b8492687acd60b7d4d750ce08a7f847", func := "micropart/micropartlaw7.SchemaRaw", spec := "schemaRaw", inPlace := ["internal/abi.NoEscape"], unfollowed := true, recurses := true, named := ["internal/strconv.uint64pow10", "math/bits.deBruijn32tab", "math/bits.deBruijn64tab"], apart := false, laid := [("math/bits.deBruijn32tab", laid_math_bits_deBruijn32tab), ("math/bits.deBruijn64tab", laid_math_bits_deBruijn64tab), ("internal/strconv.uint64pow10", laid_internal_strconv_uint64pow10)], narrowed := true }
def SchemaRawUptoSaid : Prop := schemaRawUptoRow.holds Tryd.pinned (OpenSpec.upto schemaRawSpec)

/-- 'micropartlaw7.SchemaGenerated', WHERE WHAT IT READS IS OF BULK AT MOST 1048576: true; the input reads as it did. -/
def schemaGeneratedUptoRow : OpenClaim := { program := "ytlchfaakmgclcaadoor", sum := "40775f1be9ecd532ddced88826d673d61b8492687acd60b7d4d750ce08a7f847", func := "micropart/micropartlaw7.SchemaGenerated", spec := "schemaGenerated", inPlace := ["internal/abi.NoEscape"], unfollowed := true, recurses := true, named := ["internal/strconv.uint64pow10", "math/bits.deBruijn32tab", "math/bits.deBruijn64tab"], apart := false, laid := [("math/bits.deBruijn32tab", laid_math_bits_deBruijn32tab), ("math/bits.deBruijn64tab", laid_math_bits_deBruijn64tab), ("internal/strconv.uint64pow10", laid_internal_strconv_uint64pow10)], narrowed := true }
def SchemaGeneratedUptoSaid : Prop := schemaGeneratedUptoRow.holds Tryd.pinned (OpenSpec.upto schemaGeneratedSpec)

/-- 'micropartlaw7.SchemaIds', WHERE WHAT IT READS IS OF BULK AT MOST 1048576: true; the input reads as it did. -/
def schemaIdsUptoRow : OpenClaim := { program := "ytlchfaakmgclcaadoor", sum := "40775f1be9ecd532ddced88826d673d61b8492687acd60b7d4d750ce08a7f847", func := "micropart/micropartlaw7.SchemaIds", spec := "schemaIds", inPlace := ["internal/abi.NoEscape"], unfollowed := true, recurses := true, named := ["internal/strconv.uint64pow10", "math/bits.deBruijn32tab", "math/bits.deBruijn64tab"], apart := false, laid := [("math/bits.deBruijn32tab", laid_math_bits_deBruijn32tab), ("math/bits.deBruijn64tab", laid_math_bits_deBruijn64tab), ("internal/strconv.uint64pow10", laid_internal_strconv_uint64pow10)], narrowed := true }
def SchemaIdsUptoSaid : Prop := schemaIdsUptoRow.holds Tryd.pinned (OpenSpec.upto schemaIdsSpec)

/-- 'micropartlaw5.DecimalFormats', WHERE WHAT IT READS IS OF BULK AT MOST 1048576: true; the input reads as it did. -/
def decimalFormatsUptoRow : OpenClaim := { program := "ytlchfaakmgclcaadoor", sum := "40775f1be9ecd532ddced88826d673d61b8492687acd60b7d4d750ce08a7f847", func := "micropart/micropartlaw5.DecimalFormats", spec := "decimalFormats", inPlace := ["internal/abi.NoEscape", "internal/bytealg.MakeNoZero"], named := ["internal/strconv.uint64pow10", "math/bits.deBruijn32tab", "math/bits.deBruijn64tab"], apart := false, laid := [("math/bits.deBruijn32tab", laid_math_bits_deBruijn32tab), ("math/bits.deBruijn64tab", laid_math_bits_deBruijn64tab), ("internal/strconv.uint64pow10", laid_internal_strconv_uint64pow10)], narrowed := true }
def DecimalFormatsUptoSaid : Prop := decimalFormatsUptoRow.holds Tryd.pinned (OpenSpec.upto decimalFormatsSpec)

/-- 'micropartlaw5.DecimalRescales', WHERE WHAT IT READS IS OF BULK AT MOST 1048576: true; the input reads as it did. -/
def decimalRescalesUptoRow : OpenClaim := { program := "ytlchfaakmgclcaadoor", sum := "40775f1be9ecd532ddced88826d673d61b8492687acd60b7d4d750ce08a7f847", func := "micropart/micropartlaw5.DecimalRescales", spec := "decimalRescales", inPlace := ["internal/abi.NoEscape", "internal/bytealg.MakeNoZero"], named := ["internal/strconv.uint64pow10", "math/bits.deBruijn32tab", "math/bits.deBruijn64tab"], apart := false, laid := [("math/bits.deBruijn32tab", laid_math_bits_deBruijn32tab), ("math/bits.deBruijn64tab", laid_math_bits_deBruijn64tab), ("internal/strconv.uint64pow10", laid_internal_strconv_uint64pow10)], narrowed := true }
def DecimalRescalesUptoSaid : Prop := decimalRescalesUptoRow.holds Tryd.pinned (OpenSpec.upto decimalRescalesSpec)

/-- 'micropartlaw5.DecimalRescaleBack', WHERE WHAT IT READS IS OF BULK AT MOST 1048576: true; the input reads as it did. -/
def decimalRescaleBackUptoRow : OpenClaim := { program := "ytlchfaakmgclcaadoor", sum := "40775f1be9ecd532ddced88826d673d61b8492687acd60b7d4d750ce08a7f847", func := "micropart/micropartlaw5.DecimalRescaleBack", spec := "decimalRescaleBack", inPlace := ["internal/abi.NoEscape", "internal/bytealg.MakeNoZero"], named := ["internal/strconv.uint64pow10", "math/bits.deBruijn32tab", "math/bits.deBruijn64tab"], apart := false, laid := [("math/bits.deBruijn32tab", laid_math_bits_deBruijn32tab), ("math/bits.deBruijn64tab", laid_math_bits_deBruijn64tab), ("internal/strconv.uint64pow10", laid_internal_strconv_uint64pow10)], narrowed := true }
def DecimalRescaleBackUptoSaid : Prop := decimalRescaleBackUptoRow.holds Tryd.pinned (OpenSpec.upto decimalRescaleBackSpec)

/-- 'micropartlaw32.GarbageExamples', WHERE WHAT IT READS IS OF BULK AT MOST 1048576: true; the input reads as it did. -/
def garbageExamplesUptoRow : OpenClaim := { program := "ytlchfaakmgclcaadoor", sum := "40775f1be9ecd532ddced88826d673d61b8492687acd60b7d4d750ce08a7f847", func := "micropart/micropartlaw32.GarbageExamples", spec := "garbageExamples", named := ["strconv.ErrSyntax", "strconv.ErrRange", "internal/strconv.uint64pow10", "math/bits.deBruijn32tab", "math/bits.deBruijn64tab"], apart := false, laid := [("math/bits.deBruijn32tab", laid_math_bits_deBruijn32tab), ("math/bits.deBruijn64tab", laid_math_bits_deBruijn64tab), ("internal/strconv.uint64pow10", laid_internal_strconv_uint64pow10), ("strconv.ErrRange", laid_strconv_ErrRange), ("strconv.ErrSyntax", laid_strconv_ErrSyntax)], narrowed := true }
def GarbageExamplesUptoSaid : Prop := garbageExamplesUptoRow.holds Tryd.pinned (OpenSpec.upto garbageExamplesSpec)

/-- 'micropartlaw32.GarbageNames', WHERE WHAT IT READS IS OF BULK AT MOST 1048576: true; the input reads as it did. -/
def garbageNamesUptoRow : OpenClaim := { program := "ytlchfaakmgclcaadoor", sum := "40775f1be9ecd532ddced88826d673d61b8492687acd60b7d4d750ce08a7f847", func := "micropart/micropartlaw32.GarbageNames", spec := "garbageNames", named := ["internal/strconv.uint64pow10", "math/bits.deBruijn32tab", "math/bits.deBruijn64tab", "strconv.ErrSyntax", "strconv.ErrRange"], apart := false, laid := [("math/bits.deBruijn32tab", laid_math_bits_deBruijn32tab), ("math/bits.deBruijn64tab", laid_math_bits_deBruijn64tab), ("internal/strconv.uint64pow10", laid_internal_strconv_uint64pow10), ("strconv.ErrRange", laid_strconv_ErrRange), ("strconv.ErrSyntax", laid_strconv_ErrSyntax)], narrowed := true }
def GarbageNamesUptoSaid : Prop := garbageNamesUptoRow.holds Tryd.pinned (OpenSpec.upto garbageNamesSpec)

/-- 'micropartlaw32.GarbageInverse', WHERE WHAT IT READS IS OF BULK AT MOST 1048576: true; the input reads as it did. -/
def garbageInverseUptoRow : OpenClaim := { program := "ytlchfaakmgclcaadoor", sum := "40775f1be9ecd532ddced88826d673d61b8492687acd60b7d4d750ce08a7f847", func := "micropart/micropartlaw32.GarbageInverse", spec := "garbageInverse", named := ["internal/strconv.uint64pow10", "math/bits.deBruijn32tab", "math/bits.deBruijn64tab", "strconv.ErrSyntax", "strconv.ErrRange"], apart := false, laid := [("math/bits.deBruijn32tab", laid_math_bits_deBruijn32tab), ("math/bits.deBruijn64tab", laid_math_bits_deBruijn64tab), ("internal/strconv.uint64pow10", laid_internal_strconv_uint64pow10), ("strconv.ErrRange", laid_strconv_ErrRange), ("strconv.ErrSyntax", laid_strconv_ErrSyntax)], narrowed := true }
def GarbageInverseUptoSaid : Prop := garbageInverseUptoRow.holds Tryd.pinned (OpenSpec.upto garbageInverseSpec)

/-- 'micropartlaw32.GarbageCollects', WHERE WHAT IT READS IS OF BULK AT MOST 1048576: true; the input reads as it did. -/
def garbageCollectsUptoRow : OpenClaim := { program := "ytlchfaakmgclcaadoor", sum := "40775f1be9ecd532ddced88826d673d61b8492687acd60b7d4d750ce08a7f847", func := "micropart/micropartlaw32.GarbageCollects", spec := "garbageCollects", named := ["internal/strconv.uint64pow10", "math/bits.deBruijn32tab", "math/bits.deBruijn64tab", "strconv.ErrSyntax", "strconv.ErrRange"], apart := false, laid := [("math/bits.deBruijn32tab", laid_math_bits_deBruijn32tab), ("math/bits.deBruijn64tab", laid_math_bits_deBruijn64tab), ("internal/strconv.uint64pow10", laid_internal_strconv_uint64pow10), ("strconv.ErrRange", laid_strconv_ErrRange), ("strconv.ErrSyntax", laid_strconv_ErrSyntax)], narrowed := true }
def GarbageCollectsUptoSaid : Prop := garbageCollectsUptoRow.holds Tryd.pinned (OpenSpec.upto garbageCollectsSpec)

/-- 'micropartlaw32.GarbageNeverUsed', WHERE WHAT IT READS IS OF BULK AT MOST 1048576: true; the input reads as it did. -/
def garbageNeverUsedUptoRow : OpenClaim := { program := "ytlchfaakmgclcaadoor", sum := "40775f1be9ecd532ddced88826d673d61b8492687acd60b7d4d750ce08a7f847", func := "micropart/micropartlaw32.GarbageNeverUsed", spec := "garbageNeverUsed", named := ["internal/strconv.uint64pow10", "math/bits.deBruijn32tab", "math/bits.deBruijn64tab", "strconv.ErrSyntax", "strconv.ErrRange"], apart := false, laid := [("math/bits.deBruijn32tab", laid_math_bits_deBruijn32tab), ("math/bits.deBruijn64tab", laid_math_bits_deBruijn64tab), ("internal/strconv.uint64pow10", laid_internal_strconv_uint64pow10), ("strconv.ErrRange", laid_strconv_ErrRange), ("strconv.ErrSyntax", laid_strconv_ErrSyntax)], narrowed := true }
def GarbageNeverUsedUptoSaid : Prop := garbageNeverUsedUptoRow.holds Tryd.pinned (OpenSpec.upto garbageNeverUsedSpec)

/-- 'micropartlaw6.ValueFormats', WHERE WHAT IT READS IS OF BULK AT MOST 1048576: true; the input reads as it did. -/
def valueFormatsUptoRow : OpenClaim := { program := "ytlchfaakmgclcaadoor", sum := "40775f1be9ecd532ddced88826d673d61b8492687acd60b7d4d750ce08a7f847", func := "micropart/micropartlaw6.ValueFormats", spec := "valueFormats", inPlace := ["internal/abi.NoEscape", "internal/bytealg.MakeNoZero"], named := ["internal/strconv.uint64pow10", "math/bits.deBruijn32tab", "math/bits.deBruijn64tab"], apart := false, laid := [("math/bits.deBruijn32tab", laid_math_bits_deBruijn32tab), ("math/bits.deBruijn64tab", laid_math_bits_deBruijn64tab), ("internal/strconv.uint64pow10", laid_internal_strconv_uint64pow10)], narrowed := true }
def ValueFormatsUptoSaid : Prop := valueFormatsUptoRow.holds Tryd.pinned (OpenSpec.upto valueFormatsSpec)

end Rows
end Go.Proofs.YtlchfaakmgclcaaDoor
