/-
  The walk of the law SchemaExamples.
-/
import Derived.Test.YtojfhlppiicpbaaDoorLSchemaRoundTrip
namespace Go.Proofs.YtojfhlppiicpbaaDoor
open Go.RowKit Go.Sort
set_option linter.unusedVariables false
theorem strq_self7 (s : ByteArray) : (s.toList == s.toList) = true := by simp
def exL : List UInt8 := [105, 100, 32, 105, 110, 116, 10, 112, 114, 105, 99, 101, 32, 100, 101, 99, 105, 109, 97, 108, 32, 50, 32, 110, 117, 108, 108, 10, 107, 101, 121, 32, 105, 100, 10]
def exC : List Col := [⟨{ data := #[105, 100] }, 1, 0, false⟩, ⟨{ data := #[112, 114, 105, 99, 101] }, 5, 2, true⟩]
theorem ex_find : findC exC { data := #[112, 114, 105, 99, 101] } = 1 := by decide +kernel
theorem ex_chk : schkV exC 0 = 0 := by decide +kernel
theorem ex_fmt : linesC exC ++ keyC exC 0 = exL := by decide +kernel
theorem example_any (w : World) : Calls Tryd.prog 9 #[] w fun e w' => e = .returned (.string { data := #[105, 100, 32, 105, 110, 116, 10, 112, 114, 105, 99, 101, 32, 100, 101, 99, 105, 109, 97, 108, 32, 50, 32, 110, 117, 108, 108, 10, 107, 101, 121, 32, 105, 100, 10] }) ∧ w = w' := by
  go_enter Tryd.func9, Tryd.ntmps9
  go_wp2
  go_ret
  exact ⟨rfl, rfl⟩
theorem ex_cells {w : World} {A : Option Addr} {c : Nat} (h : Sl w 4 (.slice A exC.length c) exC.length (cols exC)) : ∃ g o, A = some ⟨g, o, none⟩ ∧ w.cell? ⟨g, o + 4, none⟩ = some (.string { data := #[112, 114, 105, 99, 101] }) ∧ w.cell? ⟨g, o + 5, none⟩ = some (.int .i64 5) ∧ w.cell? ⟨g, o + 6, none⟩ = some (.int .i64 2) ∧ w.cell? ⟨g, o + 7, none⟩ = some (.bool true) := by
  obtain ⟨A', c', e, h1, h2, h3, h4⟩ := h
  injection e with e1 e2 e3
  subst e1
  obtain ⟨ad, rfl, hb, hc⟩ := h4 (by decide)
  have c0 := hc 0 _ rfl
  have hspot : ad.spot = none := by
    have := World.cell?_spot c0
    simpa [Addr.add] using this
  obtain ⟨g, o, sp⟩ := ad
  simp only at hspot
  subst hspot
  exact ⟨g, o, rfl, hc 4 _ rfl, hc 5 _ rfl, hc 6 _ rfl, hc 7 _ rfl⟩
set_option maxRecDepth 100000 in
set_option maxHeartbeats 2000000 in
theorem schemaExamples_walk (w : World) (hE : Env w) : Calls Tryd.prog 5 #[] w (RetB w true) := by
  have HE := Lib.hid hE
  obtain ⟨T, hT⟩ : ∃ T : ByteArray, T = { data := #[105, 100, 32, 105, 110, 116, 10, 112, 114, 105, 99, 101, 32, 100, 101, 99, 105, 109, 97, 108, 32, 50, 32, 110, 117, 108, 108, 10, 107, 101, 121, 32, 105, 100, 10] } := ⟨_, rfl⟩
  have HTE := Lib.hid hT
  have HX := Lib.hid (fun X => example_any X)
  rw [← hT] at HX
  have HTL := Lib.hid (show T.data.toList = linesC exC ++ keyC exC 0 by rw [hT, ex_fmt]; rfl)
  have HP := Lib.hid (fun X (h : Env X) => sp_to (r := sparV T.data.toList) (l := exC) (key := 0) (x := 0) (y := 0) (by rw [HTL.out]; exact spar_back ex_chk) (spar_any T X h (by rw [hT]; decide)))
  have qT := strq_self7 T
  clear hE hT
  go_enter Tryd.func5, Tryd.ntmps5
  go_wp2_with fail
  refine (HX.out _).mono ?_
  rintro _ _ ⟨rfl, rfl⟩
  go_wp2_with fail
  refine (HP.out _ HE.out).mono ?_
  rintro _ WP ⟨vx, rfl, hsx, hbP⟩
  obtain ⟨A3, cp3, rfl, _, _⟩ := hsx.form
  obtain ⟨g, o, rfl, k0, k1, k2, k3⟩ := ex_cells hsx
  have HBS := Lib.hid hbP
  have hgl : g < WP.heap.size := World.block_lt_of_cell? _ _ k0
  obtain ⟨LC, hLC⟩ : ∃ L, L = exC := ⟨_, rfl⟩
  rw [← hLC] at hsx
  have l2 : exC.length = 2 := rfl
  clear hbP HP
  rw [l2]
  go_upto_region 2 with (fail)
  have bX := Blk.new WP 34 #[.slice (some ⟨g, o, none⟩) 2 cp3, .int .i64 0]
  have hbX := below_new WP (.cells #[.slice (some ⟨g, o, none⟩) 2 cp3, .int .i64 0] 34)
  have hslX := hsx.alloc (.cells #[.slice (some ⟨g, o, none⟩) 2 cp3, .int .i64 0] 34)
  obtain ⟨WX, hWX⟩ : ∃ W, W = WP.alloc (.cells #[.slice (some ⟨g, o, none⟩) 2 cp3, .int .i64 0] 34) := ⟨_, rfl⟩
  rw [← hWX] at bX hbX hslX ⊢
  obtain ⟨X, hX⟩ : ∃ S, S = WP.heap.size := ⟨_, rfl⟩
  rw [← hX] at bX ⊢
  replace HBS := Lib.hid (bst HBS.out hbX)
  have K0 := Lib.hid ((hbX.cell (p := ⟨g, o + 4, none⟩) hgl).trans k0)
  have K1 := Lib.hid ((hbX.cell (p := ⟨g, o + 5, none⟩) hgl).trans k1)
  have K2 := Lib.hid ((hbX.cell (p := ⟨g, o + 6, none⟩) hgl).trans k2)
  have K3 := Lib.hid ((hbX.cell (p := ⟨g, o + 7, none⟩) hgl).trans k3)
  have HGL := Lib.hid (Nat.lt_of_lt_of_le hgl hbX.size)
  have BX := Lib.hid bX
  rw [hLC] at hslX
  have SX := Lib.hid (show Sl WX 4 (.slice (some ⟨g, o, none⟩) 2 cp3) exC.length (cols exC) from hslX)
  clear bX hbX hslX hWX hX hsx k0 k1 k2 k3 hgl hLC
  have HF := Lib.hid (dec_to7 (r := sfmtV exC 0) (T := T) (E := 0) (by unfold sfmtV; rw [if_neg (by rw [ex_chk]; simp), ← HTL.out]) (by unfold sfmtV; rw [if_neg (by rw [ex_chk]; simp)]) (sfmt_any _ exC 0 WX (HE.out.below HBS.out).tab SX.out (by decide) (by decide)))
  have i0 : WX.cell? ⟨X, 0, none⟩ = some (.slice (some ⟨g, o, none⟩) 2 cp3) := BX.out.cell 0
  have i1 : WX.cell? ⟨X, 1, none⟩ = some (.int .i64 0) := BX.out.cell 1
  go_wp2_with fail
  refine HF.out.mono ?_
  rintro _ WS ⟨rfl, hbG⟩
  clear i0 i1 HF
  replace HBS := Lib.hid (bst HBS.out hbG)
  replace BX := Lib.hid (BX.out.below hbG BX.out.lt)
  replace SX := Lib.hid (SX.out.below hbG)
  have k0 := (hbG.cell (p := ⟨g, o + 4, none⟩) HGL.out).trans K0.out
  have k1 := (hbG.cell (p := ⟨g, o + 5, none⟩) HGL.out).trans K1.out
  have k2 := (hbG.cell (p := ⟨g, o + 6, none⟩) HGL.out).trans K2.out
  have k3 := (hbG.cell (p := ⟨g, o + 7, none⟩) HGL.out).trans K3.out
  clear hbG K0 K1 K2 K3
  have i0 : WS.cell? ⟨X, 0, none⟩ = some (.slice (some ⟨g, o, none⟩) 2 cp3) := BX.out.cell 0
  have i1 : WS.cell? ⟨X, 1, none⟩ = some (.int .i64 0) := BX.out.cell 1
  have FC := Lib.hid (find_any _ exC 0 { data := #[112, 114, 105, 99, 101] } WS SX.out (by decide))
  rw [ex_find] at FC
  have qp := strq_self7 { data := #[112, 114, 105, 99, 101] }
  go_wp2_with fail
  refine (HX.out _).mono ?_
  rintro _ _ ⟨rfl, rfl⟩
  go_wp2_with fail
  refine FC.out.mono ?_
  rintro _ WF ⟨rfl, hbF⟩
  clear i0 i1 FC k0 k1 k2 k3
  replace HBS := Lib.hid (bst HBS.out hbF)
  replace BX := Lib.hid (BX.out.below hbF BX.out.lt)
  replace SX := Lib.hid (SX.out.below hbF)
  have i0 : WF.cell? ⟨X, 0, none⟩ = some (.slice (some ⟨g, o, none⟩) 2 cp3) := BX.out.cell 0
  have i1 : WF.cell? ⟨X, 1, none⟩ = some (.int .i64 0) := BX.out.cell 1
  have CK := Lib.hid (schk_any _ exC 0 WF SX.out (by decide) (by decide))
  rw [ex_chk] at CK
  go_wp2_with fail
  refine CK.out.mono ?_
  rintro _ WE ⟨rfl, hbE⟩
  go_wp2
  go_ret
  exact ⟨rfl, bst HBS.out hbE⟩
end Go.Proofs.YtojfhlppiicpbaaDoor
