/-
  The contract of law7's parses: Parse and ParseSchema agree.
-/
import Derived.Test.YtojfhlppiicpbaaDoorRSPar
import Derived.Test.YtojfhlppiicpbaaDoorSameC
import Derived.Test.YtojfhlppiicpbaaDoorRNames
namespace Go.Proofs.YtojfhlppiicpbaaDoor
open Go.RowKit Go.Sort
set_option linter.unusedVariables false
theorem sp_ex (r : SRes) : ∃ (l : List Col) (key x y : Int), ∀ (P : Program) (f : FuncId) (args : Array Value) (w : World), Calls P f args w (RetSp w r) →
    Calls P f args w fun e w' => ∃ v, e = .returned (.tuple #[.agg #[v, .int .i64 key], .int .i64 x, .int .i64 y]) ∧ Sl w' 4 v l.length (cols l) ∧ Below w.heap.size w w' := ⟨r.1.1, r.1.2, r.2.1, r.2.2, fun _ _ _ _ h => h⟩
set_option maxRecDepth 100000 in
set_option maxHeartbeats 1000000 in
theorem parses_any (s : ByteArray) (w : World) (hE : Env w) (hs : s.size ≤ 140737488351232) : Calls Tryd.prog 8 #[.string s] w (RetB w true) := by
  obtain ⟨l, key, x, y, R1⟩ := sp_ex (sparV s.data.toList)
  have HP := Lib.hid (R1 _ _ _ _ (spar_any s w hE hs))
  have HQ := Lib.hid (fun X => R1 _ _ _ _ (rspar_any s X hs))
  clear R1 hE
  go_enter Tryd.func8, Tryd.ntmps8
  go_wp2_with fail
  refine HP.out.mono ?_
  rintro _ w1 ⟨v1, rfl, hs1, hb1⟩
  obtain ⟨A1, c1, rfl, _, _⟩ := hs1.form
  clear HP
  go_upto_region 2 with (fail)
  have bX := Blk.new w1 34 #[.slice A1 l.length c1, .int .i64 key]
  have hbX := below_new w1 (.cells #[.slice A1 l.length c1, .int .i64 key] 34)
  have hslX := hs1.alloc (.cells #[.slice A1 l.length c1, .int .i64 key] 34)
  obtain ⟨WX, hWX⟩ : ∃ W, W = w1.alloc (.cells #[.slice A1 l.length c1, .int .i64 key] 34) := ⟨_, rfl⟩
  rw [← hWX] at bX hbX hslX ⊢
  obtain ⟨X, hX⟩ : ∃ S, S = w1.heap.size := ⟨_, rfl⟩
  rw [← hX] at bX ⊢
  have HBS := Lib.hid (bst hb1 hbX)
  have BX := Lib.hid bX
  have SX := Lib.hid hslX
  clear bX hbX hslX hWX hX hs1 hb1
  go_wp2_with fail
  refine (HQ.out _).mono ?_
  rintro _ w2 ⟨v2, rfl, hs2, hb2⟩
  obtain ⟨A2, c2, rfl, _, _⟩ := hs2.form
  replace HBS := Lib.hid (bst HBS.out hb2)
  replace BX := Lib.hid (BX.out.below hb2 BX.out.lt)
  replace SX := Lib.hid (SX.out.below hb2)
  clear HQ hb2
  go_upto_region 3 with (fail)
  have bY := Blk.new w2 34 #[.slice A2 l.length c2, .int .i64 key]
  have hbY := below_new w2 (.cells #[.slice A2 l.length c2, .int .i64 key] 34)
  have hslY := hs2.alloc (.cells #[.slice A2 l.length c2, .int .i64 key] 34)
  obtain ⟨WY, hWY⟩ : ∃ W, W = w2.alloc (.cells #[.slice A2 l.length c2, .int .i64 key] 34) := ⟨_, rfl⟩
  rw [← hWY] at bY hbY hslY ⊢
  obtain ⟨Y, hY⟩ : ∃ S, S = w2.heap.size := ⟨_, rfl⟩
  rw [← hY] at bY ⊢
  replace HBS := Lib.hid (bst HBS.out hbY)
  replace BX := Lib.hid (BX.out.below hbY BX.out.lt)
  replace SX := Lib.hid (SX.out.below hbY)
  have BY := Lib.hid bY
  have SY := Lib.hid hslY
  clear bY hbY hslY hWY hY hs2
  have s0 : WY.cell? ⟨X, 0, none⟩ = some (.slice A1 l.length c1) := BX.out.cell 0
  have s1 : WY.cell? ⟨X, 1, none⟩ = some (.int .i64 key) := BX.out.cell 1
  have x0 : WY.cell? ⟨Y, 0, none⟩ = some (.slice A2 l.length c2) := BY.out.cell 0
  have x1 : WY.cell? ⟨Y, 1, none⟩ = some (.int .i64 key) := BY.out.cell 1
  go_wp2_with fail
  refine (sameSchema_any _ _ l l key WY SX.out SY.out (B := true) ⟨fun _ => rfl, fun _ => rfl⟩).mono ?_
  rintro _ y5 ⟨rfl, hq5⟩
  go_wp2
  go_ret
  exact ⟨by simp, bst HBS.out hq5⟩
end Go.Proofs.YtojfhlppiicpbaaDoor
