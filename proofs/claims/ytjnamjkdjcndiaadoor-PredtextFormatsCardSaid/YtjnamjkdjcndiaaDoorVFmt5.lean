/-
  The contracts of value.Format and of ref6.Format at every column and value.
-/
import Derived.Test.YtjnamjkdjcndiaaDoorVFmt3
namespace Go.Proofs.YtjnamjkdjcndiaaDoor
open Go.RowKit Go.Sort
theorem vfmt_any (sc : ByteArray) (t k : Int) (cn nul : Bool) (n : Int) (s : ByteArray) (w : World) (ht : Tab w) (hn : -9223372036854775808 ≤ n ∧ n ≤ 9223372036854775807) (hs : s.size ≤ 9223372036854775807) :
    Calls Tryd.prog 41 #[.agg #[.string sc, .int .i64 t, .int .i64 k, .bool cn], .agg #[.bool nul, .int .i64 n, .string s]] w (RetDec w (fmtV t k cn nul n s)) := by
  by_cases hk : t = 5 ∧ (k < 0 ∨ 18 < k)
  · obtain ⟨rfl, hk⟩ := hk
    exact vf_bad sc k cn nul n s w hk
  · by_cases hc : checkV t cn nul n s = 0
    · cases nul with
      | true => exact vf_null sc t k cn n s w hs hk hc
      | false =>
        have hr := check_range hc
        have h5 : t = 1 ∨ t = 2 ∨ t = 3 ∨ t = 4 ∨ t = 5 := by omega
        rcases h5 with rfl | rfl | rfl | rfl | rfl
        · exact vf_int sc k cn n s w ht hn hs hc
        · exact vf_bool sc k cn n s w ht hn hs hc
        · exact vf_bytes sc k cn n s w hs hc
        · exact vf_date sc k cn n s w ht hn hs hc
        · exact vf_dec sc k cn n s w ht hn hs (fun h => hk ⟨rfl, .inl h⟩) (fun h => hk ⟨rfl, .inr h⟩) hc
    · exact vf_err sc t k cn nul n s w hs hk hc
theorem rvfmt_any (sc : ByteArray) (t k : Int) (cn nul : Bool) (n : Int) (s : ByteArray) (w : World) (ht : Tab w) (hn : -9223372036854775808 ≤ n ∧ n ≤ 9223372036854775807) (hs : s.size ≤ 9223372036854775807) :
    Calls Tryd.prog 35 #[.agg #[.string sc, .int .i64 t, .int .i64 k, .bool cn], .agg #[.bool nul, .int .i64 n, .string s]] w (RetDec w (fmtV t k cn nul n s)) := by
  by_cases hk : t = 5 ∧ (k < 0 ∨ 18 < k)
  · obtain ⟨rfl, hk⟩ := hk
    exact rf_bad sc k cn nul n s w hk
  · by_cases hc : checkV t cn nul n s = 0
    · cases nul with
      | true => exact rf_null sc t k cn n s w hs hk hc
      | false =>
        have hr := check_range hc
        have h5 : t = 1 ∨ t = 2 ∨ t = 3 ∨ t = 4 ∨ t = 5 := by omega
        rcases h5 with rfl | rfl | rfl | rfl | rfl
        · exact rf_int sc k cn n s w ht hn hs hc
        · exact rf_bool sc k cn n s w ht hn hs hc
        · exact rf_bytes sc k cn n s w hs hc
        · exact rf_date sc k cn n s w ht hn hs hc
        · exact rf_dec sc k cn n s w ht hn hs (fun h => hk ⟨rfl, .inl h⟩) (fun h => hk ⟨rfl, .inr h⟩) hc
    · exact rf_err sc t k cn nul n s w hs hk hc
theorem retD_ex (r : List UInt8 × Int) : ∃ (B : ByteArray) (b : Int), ∀ (P : Program) (f : FuncId) (args : Array Value) (w : World), Calls P f args w (RetDec w r) → Calls P f args w fun e w' => e = .returned (.tuple #[.string B, .int .i64 b]) ∧ Below w.heap.size w w' :=
  ⟨⟨r.1.toArray⟩, r.2, fun _ _ _ _ h => h⟩
end Go.Proofs.YtjnamjkdjcndiaaDoor
