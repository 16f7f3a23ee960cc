/-
  The contract of ref6.FormatSchema.
-/
import Derived.Test.YtojfhlppiicpbaaDoorSFmtSpec
import Derived.Test.YtojfhlppiicpbaaDoorRSChk
import Derived.Test.YtojfhlppiicpbaaDoorRNumber
import Derived.Test.YtojfhlppiicpbaaDoorDecFmt
namespace Go.Proofs.YtojfhlppiicpbaaDoor
open Go.RowKit
theorem retN_to {P : Program} {f : FuncId} {args : Array Value} {w : World} {x y : Int} (h : x = y) (hc : Calls P f args w (RetN w x)) : Calls P f args w fun e w' => e = .returned (.int .i64 y) ∧ Below w.heap.size w w' := by subst h; exact hc
theorem col_at {l : List Col} {key : Int} {c : Col} (h : l[key.toNat]? = some c) : keyC l key = keyL c.nm := by unfold keyC; rw [h]
theorem lines_size {l : List Col} {k : Nat} {S : ByteArray} (h : ∀ c ∈ l, ColValid c) (hx : S.data.toList = linesC (l.take k)) : S.size ≤ 60 * l.length := by
  rw [← sizeD, hx]
  have h1 := linesC_len (l := l.take k) (fun c hc => h c (List.mem_of_mem_take hc))
  have h2 : (l.take k).length ≤ l.length := by rw [List.length_take]; omega
  omega
set_option maxRecDepth 100000 in
set_option maxHeartbeats 4000000 in
theorem rsfmt_any (v : Value) (l : List Col) (key : Int) (w : World) (hs : Sl w 4 v l.length (cols l)) (hl : l.length ≤ 9223372036854775807) (hnm : ∀ c ∈ l, c.nm.size ≤ 9223372036854775807) :
    Calls Tryd.prog 10 #[.agg #[v, .int .i64 key]] w (RetDec w (sfmtV l key)) := by
  obtain ⟨A, c, rfl, hc1, hc2⟩ := hs.form
  have hb := below_new w (.cells #[.slice A l.length c, .int .i64 key] 34)
  have bs := Blk.new w 34 #[.slice A l.length c, .int .i64 key]
  obtain ⟨W0, hW0⟩ : ∃ W, W = w.alloc (.cells #[.slice A l.length c, .int .i64 key] 34) := ⟨_, rfl⟩
  rw [← hW0] at hb bs
  have hs0 := hs.below hb
  have i0 : W0.cell? ⟨w.heap.size, 0, none⟩ = some (.slice A l.length c) := bs.cell 0
  have i1 : W0.cell? ⟨w.heap.size, 1, none⟩ = some (.int .i64 key) := bs.cell 1
  have hwz := bs.lt
  have HB := Lib.hid hb
  have CC := Lib.hid (rschk_any _ l key W0 hs0 hl hnm)
  clear hb bs
  by_cases hE : schkV l key = 0
  case neg =>
    have HF := Lib.hid (show sfmtV l key = ([], schkV l key) by unfold sfmtV; rw [if_pos hE])
    obtain ⟨E, hEE⟩ : ∃ E, schkV l key = E := ⟨_, rfl⟩
    have CC2 := Lib.hid (retN_to hEE CC.out)
    rw [hEE] at HF hE
    have q0 : (E != 0) = true := by simpa using hE
    clear hE hEE CC
    go_enter Tryd.func10, Tryd.ntmps10
    go_upto_region 1 with (fail)
    rw [← hW0]
    clear hW0
    go_wp2_with fail
    refine CC2.out.mono ?_
    rintro _ w1 ⟨rfl, hb1⟩
    go_wp2
    go_ret2
    exact RetDec.mk_ (by rw [HF.out]) (by rw [HF.out]) (bst HB.out hb1)
  case pos =>
  have HF := Lib.hid (show sfmtV l key = (linesC l ++ keyC l key, 0) by unfold sfmtV; rw [if_neg (by rw [hE]; simp)])
  have CC2 := Lib.hid (retN_to hE CC.out)
  obtain ⟨h1, h2, hval, k0, k1⟩ := schk_valid hE
  obtain ⟨K, rfl⟩ := Int.eq_ofNat_of_zero_le k0
  have hK : K < l.length := by omega
  have HV := Lib.hid hval
  clear hE CC hval
  go_enter Tryd.func10, Tryd.ntmps10
  go_upto_region 1 with (fail)
  rw [← hW0]
  clear hW0
  go_wp2_with fail
  refine CC2.out.mono ?_
  rintro _ w1 ⟨rfl, hb1⟩
  have j0 := (hb1.cell (p := ⟨w.heap.size, 0, none⟩) hwz).trans i0
  have j1 := (hb1.cell (p := ⟨w.heap.size, 1, none⟩) hwz).trans i1
  have hs1 := hs0.below hb1
  have hwz1 := Nat.lt_of_lt_of_le hwz hb1.size
  have HB1 := Lib.hid (bst HB.out hb1)
  clear hb1 i0 i1 CC2
  go_wp2_with fail
  go_loopw [5, 16] (fun o i wr => ∃ (k : Nat) (S : ByteArray), k ≤ l.length ∧ i = .int .i64 k ∧ o = .string S ∧ Below w1.heap.size w1 wr ∧ Hid (S.data.toList = linesC (l.take k))) (fun _ i _ => l.length - (intOf i).toNat)
  case atStart => exact ⟨0, { data := #[] }, by omega, rfl, rfl, Below.refl _ _, Lib.hid rfl⟩
  case round =>
    obtain ⟨k, S, hk, rfl, rfl, hbel, hx⟩ := hrel
    have hS := lines_size HV.out hx.out
    have hS2 : S.size ≤ 720 := by omega
    clear hS
    have m0 := (hbel.cell (p := ⟨w.heap.size, 0, none⟩) hwz1).trans j0
    have m1 := (hbel.cell (p := ⟨w.heap.size, 1, none⟩) hwz1).trans j1
    by_cases hlt : k < l.length
    case neg =>
      obtain rfl : k = l.length := by omega
      obtain ⟨ad, e, p, rfl, he, hp, hE⟩ := (hs1.below hbel).col_load rfl hK
      obtain ⟨hplt, c0, c1, c2, c3⟩ := hE
      have hv := HV.out e (List.mem_of_getElem? he)
      have hsz := hv.nm
      have HX := Lib.hid (show keyC l K = keyL e.nm from col_at (by rw [Int.toNat_natCast]; exact he))
      have HL := Lib.hid (show S.data.toList = linesC l by rw [hx.out, List.take_of_length_le (Nat.le_refl _)])
      have HBW := Lib.hid (bst HB1.out hbel)
      clear he hv hbel hx
      go_wp2
      go_ret2
      exact RetDec.mk_ (by rw [HF.out, HX.out]; simp [keyL, ByteArray.data_append, HL.out]) (by rw [HF.out]) HBW.out
    case pos =>
    obtain ⟨ad, ⟨nm, ty, sc, nu⟩, p, rfl, he, hp, hE⟩ := (hs1.below hbel).col_load rfl hlt
    obtain ⟨hplt, c0, c1, c2, c3⟩ := hE
    dsimp only at c0 c1 c2 c3
    obtain ⟨v1, ⟨v2, v3⟩, v4, v5⟩ := HV.out _ (List.mem_of_getElem? he)
    dsimp only at v1 v2 v3 v4 v5
    have HN := Lib.hid (show linesC (l.take (k + 1)) = S.data.toList ++ colLine ⟨nm, ty, sc, nu⟩ by rw [linesC_snoc he, hx.out])
    have hv := HV.out _ (List.mem_of_getElem? he)
    have HZ := Lib.hid (colLine_len hv)
    clear he hv hx
    have h5 : ty = 1 ∨ ty = 2 ∨ ty = 3 ∨ ty = 4 ∨ ty = 5 := by omega
    rcases h5 with rfl | rfl | rfl | rfl | rfl
    case inr.inr.inr.inr =>
      obtain ⟨D, hD⟩ : ∃ D : ByteArray, D.data.toList = Lib.itoa sc := ⟨⟨(Lib.itoa sc).toArray⟩, by simp⟩
      have CN := Lib.hid (fun X => retS_of hD (number6_any sc X (by omega) (by omega)))
      have hDs : D.size ≤ 20 := by rw [← sizeD, hD]; exact itoa_small v4 v5
      have HD := Lib.hid hD
      clear hD
      cases nu
      all_goals
        go_wp2_with (first
          | (with_reducible refine (CN.out _).mono ?_; rintro _ _ ⟨rfl, rfl⟩))
        go_roundw
        case rel => exact ⟨k + 1, _, by omega, by go_num, rfl, hbel.alloc hbel.size _, Lib.hid (by rw [HN.out]; simp [colLine, colA, colB, colC, tyW, ByteArray.data_append, HD.out])⟩
        case measure => simp [intOf]; omega
    all_goals
      cases nu
      all_goals
        go_wp2
        go_roundw
        case rel => exact ⟨k + 1, _, by omega, by go_num, rfl, hbel.alloc hbel.size _, Lib.hid (by rw [HN.out]; simp [colLine, colA, colB, colC, tyW, ByteArray.data_append])⟩
        case measure => simp [intOf]; omega
end Go.Proofs.YtojfhlppiicpbaaDoor
