/-
  The contract of ref6.FormatSchema.
-/
import Derived.Test.YtjnamjkdjcndiaaDoorSFmtSpec
import Derived.Test.YtjnamjkdjcndiaaDoorRSChk
import Derived.Test.YtjnamjkdjcndiaaDoorRNumber
import Derived.Test.YtjnamjkdjcndiaaDoorDecFmt
namespace Go.Proofs.YtjnamjkdjcndiaaDoor
open Go.RowKit
theorem retN_to {P : Program} {f : FuncId} {args : Array Value} {w : World} {x y : Int} (h : x = y) (hc : Calls P f args w (RetN w x)) : Calls P f args w fun e w' => e = .returned (.int .i64 y) ∧ Below w.heap.size w w' := by subst h; exact hc
theorem col_at {l : List Col} {key : Int} {c : Col} (h : l[key.toNat]? = some c) : keyC l key = keyL c.nm := by unfold keyC; rw [h]
theorem lines_size {l : List Col} {k : Nat} {S : ByteArray} (h : ∀ c ∈ l, ColValid c) (hx : S.data.toList = linesC (l.take k)) : S.size ≤ 60 * l.length := by
  rw [← sizeD, hx]
  have h1 := linesC_len (l := l.take k) (fun c hc => h c (List.mem_of_mem_take hc))
  have h2 : (l.take k).length ≤ l.length := by rw [List.length_take]; omega
  omega
end Go.Proofs.YtjnamjkdjcndiaaDoor
