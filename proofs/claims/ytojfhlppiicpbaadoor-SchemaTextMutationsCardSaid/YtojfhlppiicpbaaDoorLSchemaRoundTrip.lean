/-
  The walk of the law SchemaRoundTrip.
-/
import Derived.Test.YtojfhlppiicpbaaDoorSPar
import Derived.Test.YtojfhlppiicpbaaDoorSParBack
import Derived.Test.YtojfhlppiicpbaaDoorKSchemaLaw
import Derived.Test.YtojfhlppiicpbaaDoorSameC
import Derived.Test.YtojfhlppiicpbaaDoorRNames
namespace Go.Proofs.YtojfhlppiicpbaaDoor
open Go.RowKit Go.Sort
set_option linter.unusedVariables false
theorem sp_to {P : Program} {f : FuncId} {args : Array Value} {w : World} {r : SRes} {l : List Col} {key x y : Int} (h : r = ((l, key), x, y)) (hc : Calls P f args w (RetSp w r)) :
    Calls P f args w fun e w' => ∃ v, e = .returned (.tuple #[.agg #[v, .int .i64 key], .int .i64 x, .int .i64 y]) ∧ Sl w' 4 v l.length (cols l) ∧ Below w.heap.size w w' := by subst h; exact hc
theorem dec_to7 {P : Program} {f : FuncId} {args : Array Value} {w : World} {r : List UInt8 × Int} {T : ByteArray} {E : Int} (h1 : T = ⟨r.1.toArray⟩) (h2 : r.2 = E) (hc : Calls P f args w (RetDec w r)) :
    Calls P f args w fun e w' => e = .returned (.tuple #[.string T, .int .i64 E]) ∧ Below w.heap.size w w' := by subst h1 h2; exact hc
theorem keyL_len {l : List Col} {key : Int} (h : ∀ c ∈ l, ColValid c) : (keyC l key).length ≤ 21 := by
  unfold keyC
  split
  · rename_i c hc
    have := (h c (List.mem_of_getElem? hc)).nm
    unfold keyL; simp only [List.length_append, List.length_cons, List.length_nil, size_data]; omega
  · simp
set_option maxRecDepth 100000 in
set_option maxHeartbeats 1000000 in
theorem schemaRoundTrip_walk (v : Value) (zs : List Int) (w : World) (hE : Env w) (hs : Sl w 1 v zs.length (ints zs)) (hl : zs.length ≤ 9223372036854775807) (hr : ∀ x ∈ zs, -9223372036854775808 ≤ x ∧ x ≤ 9223372036854775807) :
    Calls Tryd.prog 6 #[v] w (RetB w true) := by
  have HK := Lib.hid (kschema_any v zs w hs hl hr)
  obtain ⟨A, c, rfl, _, _⟩ := hs.form
  have HE := Lib.hid hE
  clear hs hl hr hE
  go_enter Tryd.func6, Tryd.ntmps6
  go_wp2_with fail
  refine HK.out.mono ?_
  rintro _ w1 ⟨vs, l, key, rfl, h1, h4, hG, k0, k1, hsl, hb1⟩
  obtain ⟨A2, cp2, rfl, _, _⟩ := hsl.form
  have HV := Lib.hid (gen_valid h1 h4 hG k0 k1)
  have HN := Lib.hid (gen_small hG)
  have HB1 := Lib.hid hb1
  clear hG hb1
  go_upto_region 2 with (fail)
  have bS0 := Blk.new w1 34 #[.slice A2 l.length cp2, .int .i64 key]
  have hbS := below_new w1 (.cells #[.slice A2 l.length cp2, .int .i64 key] 34)
  have hslS0 := hsl.alloc (.cells #[.slice A2 l.length cp2, .int .i64 key] 34)
  obtain ⟨WF, hWF⟩ : ∃ W, W = w1.alloc (.cells #[.slice A2 l.length cp2, .int .i64 key] 34) := ⟨_, rfl⟩
  rw [← hWF] at bS0 hbS hslS0 ⊢
  obtain ⟨S, hS⟩ : ∃ S, S = w1.heap.size := ⟨_, rfl⟩
  rw [← hS] at bS0 ⊢
  have HBF := Lib.hid (bst HB1.out hbS)
  clear hWF hbS hsl hS
  obtain ⟨T, hT⟩ : ∃ T : ByteArray, T = ⟨(linesC l ++ keyC l key).toArray⟩ := ⟨_, rfl⟩
  have HT := Lib.hid (show T.data.toList = linesC l ++ keyC l key by rw [hT])
  have HSF := Lib.hid (show sfmtV l key = (linesC l ++ keyC l key, 0) by unfold sfmtV; rw [if_neg (by rw [HV.out]; simp)])
  have hTs : T.size ≤ 100000 := by
    have hv := (schk_valid HV.out).2.2.1
    rw [← sizeD, HT.out, List.length_append]
    have h1 := linesC_len hv
    have h2 := keyL_len (key := key) hv
    omega
  have HF := Lib.hid (dec_to7 (r := sfmtV l key) (T := T) (E := 0) (by rw [HSF.out]; exact hT) (by rw [HSF.out]) (sfmt_any _ l key WF (HE.out.below HBF.out).tab hslS0 (by omega) (fun c hc => by have := HN.out c hc; omega)))
  have HP := Lib.hid (fun X (h : Env X) => sp_to (r := sparV T.data.toList) (l := l) (key := key) (x := 0) (y := 0) (by rw [HT.out]; exact spar_back HV.out) (spar_any T X h (by omega)))
  have i0 : WF.cell? ⟨S, 0, none⟩ = some (.slice A2 l.length cp2) := bS0.cell 0
  have i1 : WF.cell? ⟨S, 1, none⟩ = some (.int .i64 key) := bS0.cell 1
  clear hT hTs
  go_wp2_with fail
  refine HF.out.mono ?_
  rintro _ WS ⟨rfl, hbG⟩
  have HBS := Lib.hid (bst HBF.out hbG)
  have BS := Lib.hid (bS0.below hbG bS0.lt)
  have SL := Lib.hid (hslS0.below hbG)
  clear i0 i1 bS0 hslS0 hbG HF HBF HB1
  go_wp2_with fail
  refine (HP.out _ (HE.out.below HBS.out)).mono ?_
  rintro _ WP ⟨vx, rfl, hsx, hbP⟩
  obtain ⟨A3, cp3, rfl, _, _⟩ := hsx.form
  replace HBS := Lib.hid (bst HBS.out hbP)
  replace BS := Lib.hid (BS.out.below hbP BS.out.lt)
  replace SL := Lib.hid (SL.out.below hbP)
  clear hbP HP
  go_upto_region 4 with (fail)
  have bX := Blk.new WP 34 #[.slice A3 l.length cp3, .int .i64 key]
  have hbX := below_new WP (.cells #[.slice A3 l.length cp3, .int .i64 key] 34)
  have hslX := hsx.alloc (.cells #[.slice A3 l.length cp3, .int .i64 key] 34)
  obtain ⟨WX, hWX⟩ : ∃ W, W = WP.alloc (.cells #[.slice A3 l.length cp3, .int .i64 key] 34) := ⟨_, rfl⟩
  rw [← hWX] at bX hbX hslX ⊢
  obtain ⟨X, hX⟩ : ∃ S, S = WP.heap.size := ⟨_, rfl⟩
  rw [← hX] at bX ⊢
  replace HBS := Lib.hid (bst HBS.out hbX)
  replace BS := Lib.hid (BS.out.below hbX BS.out.lt)
  replace SL := Lib.hid (SL.out.below hbX)
  have BX := Lib.hid bX
  have SX := Lib.hid hslX
  clear bX hbX hslX hWX hX hsx
  go_wp2_with fail
  refine (awake7_any _).mono ?_
  rintro _ WZ ⟨rfl, hbZ⟩
  replace HBS := Lib.hid (bst HBS.out hbZ)
  replace BS := Lib.hid (BS.out.below hbZ BS.out.lt)
  replace BX := Lib.hid (BX.out.below hbZ BX.out.lt)
  replace SL := Lib.hid (SL.out.below hbZ)
  replace SX := Lib.hid (SX.out.below hbZ)
  clear hbZ
  have s0 : WZ.cell? ⟨S, 0, none⟩ = some (.slice A2 l.length cp2) := BS.out.cell 0
  have s1 : WZ.cell? ⟨S, 1, none⟩ = some (.int .i64 key) := BS.out.cell 1
  have x0 : WZ.cell? ⟨X, 0, none⟩ = some (.slice A3 l.length cp3) := BX.out.cell 0
  have x1 : WZ.cell? ⟨X, 1, none⟩ = some (.int .i64 key) := BX.out.cell 1
  go_wp2_with fail
  refine (sameSchema_any _ _ l l key WZ SX.out SL.out (B := true) ⟨fun _ => rfl, fun _ => rfl⟩).mono ?_
  rintro _ y5 ⟨rfl, hq5⟩
  go_wp2
  go_ret
  exact ⟨rfl, bst HBS.out hq5⟩
end Go.Proofs.YtojfhlppiicpbaaDoor
