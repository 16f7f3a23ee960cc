/-
  The walk of the law GarbageUsed.
-/
import Derived.Test.YtjfnpklknehiiaaDoorLGarbageKeepsAll
import Derived.Test.YtjfnpklknehiiaaDoorBase
namespace Go.Proofs.YtjfnpklknehiiaaDoor
open Go.RowKit
theorem allE_mem {h : List Snp} {extra : List Ent} (e : Ent) : e ∈ allE h ++ extra ↔ e ∈ extra ++ allE h := by rw [List.mem_append, List.mem_append]; exact or_comm
set_option maxRecDepth 100000 in
set_option maxHeartbeats 8000000 in
theorem garbageUsed_walk (vh ve v0 v1 : Value) (hr : List Snp) (er : List Ent) (xs ys : List Int) (log : Int) (w : World) (hEnv : Env w)
    (hs : SlSn w vh hr) (he : Sl w 12 ve er.length (ents er)) (hT : er.length + (allE hr).length ≤ 10000000) (hl : hr.length ≤ 10000000)
    (hx : Sl w 1 v0 xs.length (ints xs)) (hxl : xs.length ≤ 9223372036854775807) (hxr : ∀ x ∈ xs, -9223372036854775808 ≤ x ∧ x ≤ 9223372036854775807)
    (hy : Sl w 1 v1 ys.length (ints ys)) (hyl : ys.length ≤ 9223372036854775807) (hyr : ∀ x ∈ ys, -9223372036854775808 ≤ x ∧ x ≤ 9223372036854775807) :
    Calls Tryd.prog 3 #[vh, .int .i64 log, ve, v0, v1] w fun e w' => e = .returned (.bool true) ∧ Below w.heap.size w w' := by
  obtain ⟨A0, c0, rfl, _, _⟩ := hx.form
  obtain ⟨A1, c1, rfl, _, _⟩ := hy.form
  obtain ⟨AR, cR, rfl, _, _⟩ := hs.form
  obtain ⟨AX, cX, rfl, _, _⟩ := he.form
  have HEN := Lib.hid hEnv
  have C1 := Lib.hid (snaps32_any _ xs w hx hxl hxr)
  have HY := Lib.hid (fun (X : World) (hb : Below w.heap.size w X) => kentries_any _ ys 4 X (hy.below hb) hyl hyr (by omega) (by omega))
  have SR := Lib.hid hs
  have SX := Lib.hid he
  have HT := Lib.hid hT
  have HL := Lib.hid hl
  obtain ⟨nR, hnR⟩ : ∃ n, hr.length = n := ⟨_, rfl⟩
  obtain ⟨nX, hnX⟩ : ∃ n, er.length = n := ⟨_, rfl⟩
  have G1 := Lib.hid (fun (X : World) (hb : Below w.heap.size w X) => gnames_any _ _ hr er log X (hs.below hb) (he.below hb) hT hl (Env.tab (hEnv.below hb)))
  have G2 := Lib.hid (fun (X : World) (hb : Below w.heap.size w X) => rnames_any _ _ hr er log X (hs.below hb) (he.below hb) hT)
  rw [names_same log (allE hr ++ er) (er ++ allE hr) allE_mem] at G1
  obtain ⟨U1, hU1⟩ : ∃ U, refN log (er ++ allE hr) = U := ⟨_, rfl⟩
  rw [hU1] at G1 G2
  rw [hnR] at G1 G2 ⊢
  rw [hnX] at G1 G2 ⊢
  clear hEnv hx hy hxl hyl hxr hyr hs he hT hl hnR hnX hU1 SR SX HT HL
  go_enter Tryd.func3, Tryd.ntmps3
  go_wp2_with fail
  refine C1.out.mono ?_
  rintro _ w1 ⟨v1, h, rfl, ho1, hhl, hok, hb1⟩
  obtain ⟨AH, cH, rfl, hcH1, hcH2⟩ := ho1.sl.form
  have OH1 := Lib.hid ho1
  have B1 := Lib.hid hb1
  clear ho1 hb1 C1
  go_wp2_with fail
  refine (HY.out w1 B1.out).mono ?_
  rintro _ w2 ⟨v2, extra, rfl, hel, hG, ho2, hb2⟩
  obtain ⟨AE, cE, rfl, hcE1, hcE2⟩ := (Sl.of_own ho2).form
  have OE2 := Lib.hid (Sl.of_own ho2)
  have OH2 := Lib.hid ((OH1.out.below hb2).sl)
  have B2 := Lib.hid (bst B1.out hb2)
  have hall := allE_len6 (h := h) (fun s hs => (hok s hs).1)
  clear hok hG ho2 hb2 HY
  go_wp2_with fail
  refine (awake32_any w2 (HEN.out.below B2.out)).mono ?_
  rintro _ w3 ⟨rfl, hb3⟩
  have B3 := Lib.hid (bst B2.out hb3)
  have H3 := Lib.hid (OH2.out.below hb3)
  have E3 := Lib.hid (OE2.out.below hb3)
  clear hb3
  go_wp2_with fail
  refine (G1.out w3 B3.out).mono ?_
  rintro _ w4 ⟨v4, rfl, ho4, hb4⟩
  obtain ⟨A4, c4, rfl, _, _⟩ := (Sl.of_own ho4).form
  have S4 := Lib.hid (Sl.of_own ho4)
  have B4 := Lib.hid (bst B3.out hb4)
  have H4 := Lib.hid (H3.out.below hb4)
  have E4 := Lib.hid (E3.out.below hb4)
  clear ho4 hb4 G1
  go_wp2_with fail
  refine (G2.out w4 B4.out).mono ?_
  rintro _ w5 ⟨v5, rfl, ho5, hb5⟩
  obtain ⟨A5, c5, rfl, _, _⟩ := (Sl.of_own ho5).form
  have C5 := Lib.hid (sameS_any (.slice A4 U1.length c4) (.slice A5 U1.length c5) (U1.map bsN) (U1.map bsN) w5 (by have := S4.out.below hb5; rw [List.length_map]; exact this) (by have := Sl.of_own ho5; rw [List.length_map]; exact this))
  rw [show sameS (U1.map bsN) (U1.map bsN) = true from (sameS_yes rfl).symm] at C5
  have B5 := Lib.hid (bst B4.out hb5)
  have H5 := Lib.hid (H4.out.below hb5)
  have E5 := Lib.hid (E4.out.below hb5)
  clear ho5 hb5 G2
  go_wp2_with fail
  refine C5.out.mono ?_
  rintro _ w6 ⟨rfl, m6, rfl⟩
  clear C5
  obtain ⟨q, hq⟩ : ∃ q, pick log 5 = q := ⟨_, rfl⟩
  have HPK := Lib.hid (fun X => pick_any log 5 X (by omega) (by omega))
  rw [hq] at HPK
  clear hq
  obtain ⟨w6, hw6⟩ : ∃ w6, w6 = w5.drewN m6 := ⟨_, rfl⟩
  have B6 := Lib.hid (show Below w.heap.size w w6 by rw [hw6]; exact below_drewN B5.out _)
  have H6 := Lib.hid (show SlSn w6 _ h by rw [hw6]; exact H5.out)
  have E6 := Lib.hid (show Sl w6 12 _ extra.length (ents extra) by rw [hw6]; exact E5.out)
  rw [← hw6]
  clear hw6
  have hT2 : extra.length + (allE h).length ≤ 10000000 := by omega
  have G3 := Lib.hid (fun (X : World) (hb : Below w6.heap.size w6 X) => gnames_any _ _ h extra q X (H6.out.below hb) (E6.out.below hb) hT2 (by omega) (Env.tab (HEN.out.below (bst B6.out hb))))
  have G4 := Lib.hid (fun (X : World) (hb : Below w6.heap.size w6 X) => rnames_any _ _ h extra q X (H6.out.below hb) (E6.out.below hb) hT2)
  rw [names_same q (allE h ++ extra) (extra ++ allE h) allE_mem] at G3
  obtain ⟨U2, hU2⟩ : ∃ U, refN q (extra ++ allE h) = U := ⟨_, rfl⟩
  rw [hU2] at G3 G4
  clear hU2
  go_wp2_with fail
  refine (HPK.out w6).mono ?_
  rintro _ _ ⟨rfl, rfl⟩
  go_wp2_with fail
  refine (G3.out w6 (Below.refl _ _)).mono ?_
  rintro _ w7 ⟨v7, rfl, ho7, hb7⟩
  obtain ⟨A7, c7, rfl, _, _⟩ := (Sl.of_own ho7).form
  have S7 := Lib.hid (Sl.of_own ho7)
  have Q7 := Lib.hid hb7
  clear ho7 hb7 G3
  go_wp2_with fail
  refine (HPK.out w7).mono ?_
  rintro _ _ ⟨rfl, rfl⟩
  go_wp2_with fail
  refine (G4.out w7 Q7.out).mono ?_
  rintro _ w8 ⟨v8, rfl, ho8, hb8⟩
  obtain ⟨A8, c8, rfl, _, _⟩ := (Sl.of_own ho8).form
  have C9 := Lib.hid (sameS_any (.slice A7 U2.length c7) (.slice A8 U2.length c8) (U2.map bsN) (U2.map bsN) w8 (by have := S7.out.below hb8; rw [List.length_map]; exact this) (by have := Sl.of_own ho8; rw [List.length_map]; exact this))
  rw [show sameS (U2.map bsN) (U2.map bsN) = true from (sameS_yes rfl).symm] at C9
  have B8 := Lib.hid (bst B6.out (bst Q7.out hb8))
  clear ho8 hb8 G4
  go_wp2_with fail
  refine C9.out.mono ?_
  rintro _ w9 ⟨rfl, m9, rfl⟩
  go_wp2
  go_ret
  exact ⟨rfl, below_drewN B8.out _⟩
end Go.Proofs.YtjfnpklknehiiaaDoor
