/-
  The walk of the law SchemaRaw.
-/
import Derived.Test.YtlchfaakmgclcaaDoorSId
namespace Go.Proofs.YtlchfaakmgclcaaDoor
open Go.RowKit Go.Sort
set_option linter.unusedVariables false
set_option maxRecDepth 100000 in
set_option maxHeartbeats 1000000 in
theorem schemaRaw_walk (v : Value) (l : List Col) (key : Int) (x : ByteArray) (w : World) (ht : Tab w) (hs : Sl w 4 v l.length (cols l)) (hl : l.length ≤ 9223372036854775807) (hnm : ∀ c ∈ l, c.nm.size ≤ 9223372036854775807) :
    Calls Tryd.prog 3 #[.agg #[v, .int .i64 key], .string x] w (RetBl w true) := by
  obtain ⟨A, c, rfl, hc1, hc2⟩ := hs.form
  have hb := below_new w (.cells #[.slice A l.length c, .int .i64 key] 24)
  have bs := Blk.new w 24 #[.slice A l.length c, .int .i64 key]
  obtain ⟨W0, hW0⟩ : ∃ W, W = w.alloc (.cells #[.slice A l.length c, .int .i64 key] 24) := ⟨_, rfl⟩
  rw [← hW0] at hb bs
  have i0 : W0.cell? ⟨w.heap.size, 0, none⟩ = some (.slice A l.length c) := bs.cell 0
  have i1 : W0.cell? ⟨w.heap.size, 1, none⟩ = some (.int .i64 key) := bs.cell 1
  have hwz := bs.lt
  have HB := Lib.hid hb
  have CC := Lib.hid (fun X (h : Below W0.heap.size W0 X) => agrees_any _ l key x X ((ht.below hb).below h) ((hs.below hb).below h) hl hnm)
  clear hb bs
  go_enter Tryd.func3, Tryd.ntmps3
  go_upto_region 1 with (fail)
  rw [← hW0]
  clear hW0
  go_wp2_with fail
  refine (awake7_any _).mono ?_
  rintro _ w1 ⟨rfl, hb1⟩
  have a0 := (hb1.cell (p := ⟨w.heap.size, 0, none⟩) hwz).trans i0
  have a1 := (hb1.cell (p := ⟨w.heap.size, 1, none⟩) hwz).trans i1
  have HB1 := Lib.hid hb1
  clear hb1
  go_wp2_with fail
  refine (CC.out _ HB1.out).mono ?_
  rintro _ w2 ⟨rfl, hb2⟩
  go_wp2
  go_ret
  exact ⟨rfl, bst HB.out (bst HB1.out hb2)⟩
end Go.Proofs.YtlchfaakmgclcaaDoor
