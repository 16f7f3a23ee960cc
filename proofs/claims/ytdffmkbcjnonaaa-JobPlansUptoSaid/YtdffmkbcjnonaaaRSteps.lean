/-
  The contracts of ref27.Writes and ref27.Steps.
-/
import Derived.Test.YtdffmkbcjnonaaaSteps
import Derived.Test.YtdffmkbcjnonaaaROuts
import Derived.Test.YtdffmkbcjnonaaaRReads
namespace Go.Proofs.Ytdffmkbcjnonaaa
open Go.RowKit
set_option maxHeartbeats 400000 in
theorem rwrites_any (live rows b : Int) (w : World) (hb : b ≤ 9223372036854775807) :
    Calls Try.prog 29 #[.int .i64 live, .int .i64 rows, .int .i64 b] w (RetLL w 25 3 (reads (outs live rows) b)) := by
  have hl := outs_length live rows
  go_enter Try.func29, Try.ntmps29
  go_wp2_with fail
  refine (routs_any _ _ _).mono ?_
  rintro e w1 ⟨v, rfl, hbel, hown⟩
  go_wp2_with fail
  refine (rreads_any v (outs live rows) b w1 (Sl.of_own hown) (by omega) hb).mono ?_
  rintro e w2 ⟨v2, vs, rfl, hbel2, hown2, hll⟩
  go_wp2
  go_ret
  exact ⟨v2, vs, rfl, bst hbel hbel2, own_mono hown2 hbel.size, ⟨hll.len, fun j u g hu hg => own_mono (hll.rows j u g hu hg) hbel.size⟩⟩
set_option maxHeartbeats 400000 in
theorem rsteps_any (v : Value) (zs : List Int) (live size b : Int) (w : World) (hs : Sl w 1 v zs.length (ints zs)) (hl : zs.length ≤ 5000000000000) (hb : b ≤ 9223372036854775807) :
    Calls Try.prog 31 #[v, .int .i64 live, .int .i64 size, .int .i64 b] w (RetInt w (steps zs live size b)) := by
  have h1 := reads_length zs b
  have h2 := reads_length (outs live size) b
  have h3 := outs_length live size
  obtain ⟨A, c, rfl, _, _⟩ := hs.form
  go_enter Try.func31, Try.ntmps31
  go_wp2_with fail
  refine (rreads_any _ zs b w hs hl hb).mono ?_
  rintro e w1 ⟨v1, vs, rfl, hbel, hown, hll⟩
  obtain ⟨A1, c1, rfl, _, _⟩ := (Sl.of_own hown).form
  go_wp2_with fail
  refine (rwrites_any live size b w1 hb).mono ?_
  rintro e w2 ⟨v2, vs2, rfl, hbel2, hown2, hll2⟩
  obtain ⟨A2, c2, rfl, _, _⟩ := (Sl.of_own hown2).form
  go_wp2
  go_ret
  exact ⟨rfl, bst hbel hbel2⟩
end Go.Proofs.Ytdffmkbcjnonaaa
