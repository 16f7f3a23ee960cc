/-
  The walk of the law ValueChecks.
-/
import Derived.Test.YtdffmkbcjnonaaaVCheck2
import Derived.Test.YtdffmkbcjnonaaaValPut
import Derived.Test.YtdffmkbcjnonaaaColumn
namespace Go.Proofs.Ytdffmkbcjnonaaa
open Go.RowKit Go.Sort
theorem reg_n {P : Program} {f : FuncId} {args : Array Value} {w : World} {x : Int} (h : ∀ W, Calls P f args W (RetN W x)) : ∀ d os, Calls P f args (grow (redrawn w d) os) fun e w'' => e = .returned (.int .i64 x) ∧ ∃ p : Regrown, w'' = grow (redrawn w p.d) p.os :=
  fun d os => Calls.regrown_of ((h (grow (redrawn w d) os)).mono fun _ _ h => h)
theorem reg_near {P : Program} {f : FuncId} {args : Array Value} {w : World} {n : Int} {s : ByteArray} (h : ∀ W, Calls P f args W (RetNear W n s)) : ∀ d os, Calls P f args (grow (redrawn w d) os) fun e w'' => e = .returned (.agg #[.bool (nearB n), .int .i64 (nearX n), .string s]) ∧ ∃ p : Regrown, w'' = grow (redrawn w p.d) p.os :=
  fun d os => Calls.regrown_of ((h (grow (redrawn w d) os)).mono fun _ _ h => h)
theorem reg_b {P : Program} {f : FuncId} {args : Array Value} {w : World} {b : Bool} (h : ∀ W, Calls P f args W (RetB1' W b)) : ∀ d os, Calls P f args (grow (redrawn w d) os) fun e w'' => e = .returned (.bool b) ∧ ∃ p : Regrown, w'' = grow (redrawn w p.d) p.os :=
  fun d os => Calls.regrown_of ((h (grow (redrawn w d) os)).mono fun _ _ h => h)
set_option maxRecDepth 100000 in
set_option maxHeartbeats 4000000 in
theorem valueChecks_walk (cs : ByteArray) (ct ck : Int) (cn : Bool) (vn : Bool) (vx : Int) (vs : ByteArray) (t k n : Int) (null : Bool) (s : ByteArray) (w : World) (h1 : vs.size ≤ 9223372036854775807) (h2 : s.size ≤ 9223372036854775807) :
    Calls Try.prog 12 #[.agg #[.string cs, .int .i64 ct, .int .i64 ck, .bool cn], .agg #[.bool vn, .int .i64 vx, .string vs], .int .i64 t, .int .i64 k, .int .i64 n, .bool null, .string s] w (RetB1' w true) := by
  obtain ⟨W0, hW0⟩ : ∃ W0, W0 = (w.alloc (.cells #[.string cs, .int .i64 ct, .int .i64 ck, .bool cn] 55)).alloc (.cells #[.bool vn, .int .i64 vx, .string vs] 30) := ⟨_, rfl⟩
  have hb0 : Below w.heap.size w W0 := by rw [hW0]; exact ((Below.refl _ _).alloc (Nat.le_refl _) _).alloc (by simp) _
  have hz0 : W0.heap.size = w.heap.size + 2 := by rw [hW0]; simp
  have q0 : W0.cell? ⟨w.heap.size, 0, none⟩ = some (.string cs) := by rw [hW0]; simp
  have q1 : W0.cell? ⟨w.heap.size, 1, none⟩ = some (.int .i64 ct) := by rw [hW0]; simp
  have q2 : W0.cell? ⟨w.heap.size, 2, none⟩ = some (.int .i64 ck) := by rw [hW0]; simp
  have q3 : W0.cell? ⟨w.heap.size, 3, none⟩ = some (.bool cn) := by rw [hW0]; simp
  have r0 : W0.cell? ⟨w.heap.size + 1, 0, none⟩ = some (.bool vn) := by rw [hW0]; simp
  have r1 : W0.cell? ⟨w.heap.size + 1, 1, none⟩ = some (.int .i64 vx) := by rw [hW0]; simp
  have r2 : W0.cell? ⟨w.heap.size + 1, 2, none⟩ = some (.string vs) := by rw [hW0]; simp
  have HC := Lib.hid (column_any t k null W0)
  go_enter Try.func12, Try.ntmps12
  go_wp2_with fail
  rw [← hW0]
  clear hW0
  refine HC.out.mono ?_
  rintro e w1 ⟨T, K, rfl, _, hb1⟩
  obtain ⟨W, hW⟩ : ∃ W, W = w1.alloc (.cells #[.string { data := #[120] }, .int .i64 T, .int .i64 K, .bool null] 55) := ⟨_, rfl⟩
  have hb2 : Below W0.heap.size W0 W := by rw [hW]; exact hb1.alloc hb1.size _
  have hbw := Lib.hid (bst hb0 hb2)
  have s0 : W.cell? ⟨w1.heap.size, 0, none⟩ = some (.string { data := #[120] }) := by rw [hW]; simp
  have s1 : W.cell? ⟨w1.heap.size, 1, none⟩ = some (.int .i64 T) := by rw [hW]; simp
  have s2 : W.cell? ⟨w1.heap.size, 2, none⟩ = some (.int .i64 K) := by rw [hW]; simp
  have s3 : W.cell? ⟨w1.heap.size, 3, none⟩ = some (.bool null) := by rw [hW]; simp
  have e0 := cell_regrown ((hb2.cell (p := ⟨w.heap.size, 0, none⟩) (by simp; omega)).trans q0)
  have e1 := cell_regrown ((hb2.cell (p := ⟨w.heap.size, 1, none⟩) (by simp; omega)).trans q1)
  have e2 := cell_regrown ((hb2.cell (p := ⟨w.heap.size, 2, none⟩) (by simp; omega)).trans q2)
  have e3 := cell_regrown ((hb2.cell (p := ⟨w.heap.size, 3, none⟩) (by simp; omega)).trans q3)
  have e4 := cell_regrown ((hb2.cell (p := ⟨w.heap.size + 1, 0, none⟩) (by simp; omega)).trans r0)
  have e5 := cell_regrown ((hb2.cell (p := ⟨w.heap.size + 1, 1, none⟩) (by simp; omega)).trans r1)
  have e6 := cell_regrown ((hb2.cell (p := ⟨w.heap.size + 1, 2, none⟩) (by simp; omega)).trans r2)
  have e7 := cell_regrown s0
  have e8 := cell_regrown s1
  have e9 := cell_regrown s2
  have e10 := cell_regrown s3
  clear q0 q1 q2 q3 r0 r1 r2 s0 s1 s2 s3 hb0 hb1 hb2 hz0
  have A1 := Lib.hid (reg_b (w := W) (fun X => awake6_any X))
  have A2 := Lib.hid (reg_n (w := W) (fun X => vcheck_any cs ct ck cn vn vx vs X h1))
  have A3 := Lib.hid (reg_n (w := W) (fun X => rvcheck_any cs ct ck cn vn vx vs X h1))
  have A4 := Lib.hid (reg_n (w := W) (fun X => vcheck_any { data := #[120] } T K null vn vx vs X h1))
  have A5 := Lib.hid (reg_n (w := W) (fun X => rvcheck_any { data := #[120] } T K null vn vx vs X h1))
  have A6 := Lib.hid (reg_near (w := W) (fun X => near_any n { data := #[] } X))
  have A7 := Lib.hid (reg_n (w := W) (fun X => vcheck_any { data := #[120] } T K null (nearB n) (nearX n) { data := #[] } X (by decide)))
  have A8 := Lib.hid (reg_n (w := W) (fun X => rvcheck_any { data := #[120] } T K null (nearB n) (nearX n) { data := #[] } X (by decide)))
  have A9 := Lib.hid (reg_near (w := W) (fun X => near_any n s X))
  have A10 := Lib.hid (reg_n (w := W) (fun X => vcheck_any { data := #[120] } T K null (nearB n) (nearX n) s X h2))
  have A11 := Lib.hid (reg_n (w := W) (fun X => rvcheck_any { data := #[120] } T K null (nearB n) (nearX n) s X h2))
  go_wp2_with fail
  rw [← hW]
  clear hW
  refine wp_region_quiet_below (by kernel_rfl) (by kernel_rfl) ?_
  repeat (go_big_quiet_step ((first | (with_reducible exact A1.out _ _) | (with_reducible exact A2.out _ _) | (with_reducible exact A3.out _ _) | (with_reducible exact A4.out _ _) | (with_reducible exact A5.out _ _) | (with_reducible exact A6.out _ _) | (with_reducible exact A7.out _ _) | (with_reducible exact A8.out _ _) | (with_reducible exact A9.out _ _) | (with_reducible exact A10.out _ _) | (with_reducible exact A11.out _ _))))
  refine wpQuiet_nil ?_
  intro _ hw'
  obtain ⟨⟨dq, osq⟩, hw''⟩ := hw'
  subst hw''
  go_wp2
  go_ret
  exact ⟨by simp, bst hbw.out (below_regrown W dq osq)⟩
end Go.Proofs.Ytdffmkbcjnonaaa
