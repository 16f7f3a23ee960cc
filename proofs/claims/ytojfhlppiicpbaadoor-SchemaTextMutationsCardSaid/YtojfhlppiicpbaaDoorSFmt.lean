/-
  The contract of schema.Format.
-/
import Derived.Test.YtojfhlppiicpbaaDoorRSFmt
import Derived.Test.YtojfhlppiicpbaaDoorBuilder
import Derived.Test.YtojfhlppiicpbaaDoorInv2
namespace Go.Proofs.YtojfhlppiicpbaaDoor
open Go.RowKit Go.Sort
set_option linter.unusedVariables false
def RetTypes (w : World) (e : Ending) (w' : World) : Prop := ∃ g, e = .returned (.slice (some ⟨g, 0, none⟩) 5 5) ∧ w.heap.size ≤ g ∧ Blk w' g 9 #[.string { data := #[105, 110, 116] }, .string { data := #[98, 111, 111, 108] }, .string { data := #[98, 121, 116, 101, 115] }, .string { data := #[100, 97, 116, 101] }, .string { data := #[100, 101, 99, 105, 109, 97, 108] }] ∧ Below w.heap.size w w'
theorem types_any (w : World) : Calls Tryd.prog 29 #[] w (RetTypes w) := by
  go_enter Tryd.func29, Tryd.ntmps29
  go_wp2
  go_ret
  exact ⟨_, rfl, Nat.le_refl _, Blk.new _ _ _, below_new _ _⟩
theorem type_at {j : Nat} (h : j ≤ 4) : ∃ U : ByteArray, (#[.string { data := #[105, 110, 116] }, .string { data := #[98, 111, 111, 108] }, .string { data := #[98, 121, 116, 101, 115] }, .string { data := #[100, 97, 116, 101] }, .string { data := #[100, 101, 99, 105, 109, 97, 108] }] : Array Value)[j]? = some (.string U) ∧ U.data.toList = tyW ((j : Int) + 1) ∧ U.size ≤ 7 := by
  have : ∀ j : Fin 5, ∃ U : ByteArray, (#[.string { data := #[105, 110, 116] }, .string { data := #[98, 111, 111, 108] }, .string { data := #[98, 121, 116, 101, 115] }, .string { data := #[100, 97, 116, 101] }, .string { data := #[100, 101, 99, 105, 109, 97, 108] }] : Array Value)[j.val]? = some (.string U) ∧ U.data.toList = tyW ((j.val : Int) + 1) ∧ U.size ≤ 7 := by
    intro j
    match j with
    | 0 => exact ⟨_, rfl, rfl, by decide⟩
    | 1 => exact ⟨_, rfl, rfl, by decide⟩
    | 2 => exact ⟨_, rfl, rfl, by decide⟩
    | 3 => exact ⟨_, rfl, rfl, by decide⟩
    | 4 => exact ⟨_, rfl, rfl, by decide⟩
  exact this ⟨j, by omega⟩
theorem isB_below {B b : Nat} {bs : List Value} {w w' : World} (h : IsB B b bs w) (hb : Below w.heap.size w w') : IsB B b bs w' := by
  have g : ∀ p, Lib.BuilderAt 59 5 B b p bs w → Lib.BuilderAt 59 5 B b p bs w' := fun p hp => by
    have hlt := hp.lt
    obtain ⟨h1, v, h2, h3, h4⟩ := hp
    exact ⟨h1, v, (hb.block b hlt).trans h2, own_below h3 hb, h4⟩
  exact h.imp (g _) (g _)
theorem isB_len {B b : Nat} {bs : List Value} {w : World} (h : IsB B b bs w) : b < w.heap.size := by
  rcases h with h | h
  · exact h.lt
  · exact h.lt
theorem strCells_len (s : ByteArray) : (Lib.strCells s).length = s.size := by unfold Lib.strCells; rw [List.length_map, sizeD]
theorem byteCells_len (l : List UInt8) : (Lib.byteCells l).length = l.length := by unfold Lib.byteCells; rw [List.length_map]
theorem bytes_next {l : List UInt8} {s : ByteArray} {m : List UInt8} (h : l ++ s.data.toList = m) : Lib.byteCells l ++ Lib.strCells s = Lib.byteCells m := by
  rw [Lib.strCells_eq, ← Lib.byteCells_append, h]
/-- A write behind which the text is m. -/
def RetW (B b : Nat) (m : List UInt8) (s : ByteArray) (w : World) (e : Ending) (w' : World) : Prop := e = .returned (.tuple #[.int .i64 s.size, .nilIface]) ∧ IsB B b (Lib.byteCells m) w' ∧ Below B w w' ∧ KeepsB b w w' ∧ B ≤ w'.heap.size
theorem write_any {B b : Nat} {l m : List UInt8} (s : ByteArray) (w : World) (h : IsB B b (Lib.byteCells l) w) (hm : l ++ s.data.toList = m) (hlen : l.length + s.size ≤ 1000000) (hBw : B ≤ w.heap.size) :
    Calls Tryd.prog 28 #[.pointer (some ⟨b, 0, none⟩), .string s] w (RetW B b m s w) :=
  (writeString_any B b _ s w h (by rw [byteCells_len]; omega) hBw).mono fun _ _ ⟨h1, h2, h3, h4⟩ => ⟨h1, by rw [← bytes_next hm]; exact h2, h3, h4, Nat.le_trans hBw h3.size⟩
theorem below_drew0 (w : World) : Below w.heap.size w w.drew := (Below.refl _ _).drew
theorem GotRow.keepB {p : Bool} {N b : Nat} {u : Value} {n : Nat} {T : TypeId} {cs : Array Value} {w w' : World} (h : GotRow p N u n T cs w) (hk : KeepsB b w w') (hT : T ≠ 5) (hN : b < N) : GotRow p N u n T cs w' := fun hp => by
  obtain ⟨A, e, hA, hB⟩ := h hp
  exact ⟨A, e, hA, hk _ _ _ (by omega) hT hB⟩
theorem GotPtr.keepB {p : Bool} {N b : Nat} {u : Value} {k : Nat} {T : TypeId} {cs : Array Value} {w w' : World} (h : GotPtr p N u k T cs w) (hk : KeepsB b w w') (hT : T ≠ 5) (hN : b < N) : GotPtr p N u k T cs w' := fun hp => by
  obtain ⟨A, e, hA, hB⟩ := h hp
  exact ⟨A, e, hA, hk _ _ _ (by omega) hT hB⟩
set_option maxRecDepth 100000 in
set_option maxHeartbeats 1000000 in
theorem sfmt_any (v : Value) (l : List Col) (key : Int) (w : World) (ht : Tab w) (hs : Sl w 4 v l.length (cols l)) (hl : l.length ≤ 9223372036854775807) (hnm : ∀ c ∈ l, c.nm.size ≤ 9223372036854775807) :
    Calls Tryd.prog 14 #[.agg #[v, .int .i64 key]] w (RetDec w (sfmtV l key)) := by
  obtain ⟨A, c, rfl, hc1, hc2⟩ := hs.form
  have hb := below_new w (.cells #[.slice A l.length c, .int .i64 key] 34)
  have bs := Blk.new w 34 #[.slice A l.length c, .int .i64 key]
  obtain ⟨W0, hW0⟩ : ∃ W, W = w.alloc (.cells #[.slice A l.length c, .int .i64 key] 34) := ⟨_, rfl⟩
  rw [← hW0] at hb bs
  have hs0 := hs.below hb
  have i0 : W0.cell? ⟨w.heap.size, 0, none⟩ = some (.slice A l.length c) := bs.cell 0
  have i1 : W0.cell? ⟨w.heap.size, 1, none⟩ = some (.int .i64 key) := bs.cell 1
  have hwz := bs.lt
  have HB := Lib.hid hb
  have CC := Lib.hid (schk_any _ l key W0 hs0 hl hnm)
  clear hb bs
  by_cases hE : schkV l key = 0
  case neg =>
    have HF := Lib.hid (show sfmtV l key = ([], schkV l key) by unfold sfmtV; rw [if_pos hE])
    obtain ⟨E, hEE⟩ : ∃ E, schkV l key = E := ⟨_, rfl⟩
    have CC2 := Lib.hid (retN_to hEE CC.out)
    rw [hEE] at HF hE
    have q0 : (E != 0) = true := by simpa using hE
    clear hE hEE CC
    go_enter Tryd.func14, Tryd.ntmps14
    go_upto_region 1 with (fail)
    rw [← hW0]
    clear hW0
    go_wp2_with fail
    refine CC2.out.mono ?_
    rintro _ w1 ⟨rfl, hb1⟩
    go_wp2
    go_ret2
    exact RetDec.mk_ (by rw [HF.out]) (by rw [HF.out]) (bst HB.out hb1)
  case pos =>
  have HF := Lib.hid (show sfmtV l key = (linesC l ++ keyC l key, 0) by unfold sfmtV; rw [if_neg (by rw [hE]; simp)])
  have CC2 := Lib.hid (retN_to hE CC.out)
  obtain ⟨h1, h2, hval, k0, k1⟩ := schk_valid hE
  obtain ⟨K, rfl⟩ := Int.eq_ofNat_of_zero_le k0
  have hK : K < l.length := by omega
  have HV := Lib.hid hval
  clear hE CC hval
  go_enter Tryd.func14, Tryd.ntmps14
  go_upto_region 1 with (fail)
  rw [← hW0]
  clear hW0
  go_wp2_with fail
  refine CC2.out.mono ?_
  rintro _ w1 ⟨rfl, hb1⟩
  have j0 := (hb1.cell (p := ⟨w.heap.size, 0, none⟩) hwz).trans i0
  have j1 := (hb1.cell (p := ⟨w.heap.size, 1, none⟩) hwz).trans i1
  have hs1 := hs0.below hb1
  have hwz1 := Nat.lt_of_lt_of_le hwz hb1.size
  have HB1 := Lib.hid (bst HB.out hb1)
  clear hb1 i0 i1 CC2
  go_upto_region 5 with (fail)
  have hT1 := Lib.hid (ht.below HB1.out)
  have bb := Blk.new w1 59 #[.pointer none, .slice none 0 0]
  have hbn := below_new w1 (.cells #[.pointer none, .slice none 0 0] 59)
  obtain ⟨W2, hW2⟩ : ∃ W, W = w1.alloc (.cells #[.pointer none, .slice none 0 0] 59) := ⟨_, rfl⟩
  rw [← hW2] at bb hbn ⊢
  clear hW2
  obtain ⟨B, hBB⟩ : ∃ B, B = w1.heap.size := ⟨_, rfl⟩
  have hB0 : IsB B B (Lib.byteCells []) W2 := .inl ⟨Nat.le_refl _, _, by rw [hBB]; exact bb, World.ownsRow_nil _ _ _ _, by simp [Value.ownBlock]⟩
  rw [← hBB] at hbn hwz1 ⊢
  have hs2 := hs1.below (by rw [← hBB]; exact hbn)
  have k0 := (hbn.cell (p := ⟨w.heap.size, 0, none⟩) hwz1).trans j0
  have k1' := (hbn.cell (p := ⟨w.heap.size, 1, none⟩) hwz1).trans j1
  have HB2 := Lib.hid (HB1.out.trans (hbn.mono (by rw [hBB]; exact HB1.out.size)))
  have hT2 := Lib.hid (hT1.out.below (by rw [← hBB]; exact hbn))
  have hB2 : B < W2.heap.size := isB_len hB0
  have HS1 := Lib.hid hs1
  have HBB := Lib.hid hBB
  have HBN := Lib.hid hbn
  clear bb hbn hs2 hBB j0 j1 hs1
  have HWB := Lib.hid (show w.heap.size ≤ B by rw [HBB.out]; exact HB1.out.size)
  go_wp2_with fail
  go_loopw [16] (fun i wr => ∃ (k : Nat), k ≤ l.length ∧ i = .int .i64 k ∧ Below B W2 wr ∧ IsB B B (Lib.byteCells (linesC (l.take k))) wr) (fun i _ => l.length - (intOf i).toNat)
  case atStart => exact ⟨0, by omega, rfl, Below.refl _ _, hB0⟩
  case round =>
    obtain ⟨k, hk, rfl, hbel, hib⟩ := hrel
    have m0 := (hbel.cell (p := ⟨w.heap.size, 0, none⟩) hwz1).trans k0
    have m1 := (hbel.cell (p := ⟨w.heap.size, 1, none⟩) hwz1).trans k1'
    have hLb := lines_len2 (k := k) HV.out
    have hLb2 : (linesC (l.take k)).length ≤ 720 := by omega
    clear hLb
    have hsr : Sl wr 4 (.slice A l.length c) l.length (cols l) := HS1.out.keep (by have := HBN.out.size; have := hbel.size; have := HBB.out; omega) (fun q hq => (hbel.cell (by have := HBB.out; omega)).trans (HBN.out.cell (by have := HBB.out; omega)))
    by_cases hlt : k < l.length
    case neg =>
      obtain rfl : k = l.length := by omega
      obtain ⟨ad, e, p, rfl, he, hp, hE⟩ := hsr.col_load rfl hK
      obtain ⟨hplt, c0, c1, c2, c3⟩ := hE
      have hv := HV.out e (List.mem_of_getElem? he)
      have hsz := hv.nm
      have HX := Lib.hid (show keyC l K = keyL e.nm from col_at (by rw [Int.toNat_natCast]; exact he))
      rw [List.take_of_length_le (Nat.le_refl _)] at hib hLb2
      clear he hv
      have hn5 : ¬9223372036854775807 < 4 + e.nm.size := by omega
      have hn6 : ¬9223372036854775807 < 4 + e.nm.size + 1 := by omega
      have hX : B ≤ wr.heap.size := Nat.le_trans (Nat.le_of_lt hB2) hbel.size
      have HBL := Lib.hid hbel
      clear hbel
      go_wp2_with fail
      with_reducible refine (write_any (m := linesC l ++ keyL e.nm) _ wr hib (by simp [keyL, ByteArray.data_append]) (by rw [ByteArray.size_append, ByteArray.size_append]; rw [show ({ data := #[107, 101, 121, 32] } : ByteArray).size = 4 from rfl, show ({ data := #[10] } : ByteArray).size = 1 from rfl]; omega) hX).mono ?_
      rintro _ w5 ⟨rfl, hib5, hb5, hk5, hz5⟩
      have HB5 := Lib.hid (HBL.out.trans hb5)
      clear hb5 hk5
      go_wp2_with fail
      with_reducible refine (Tryd.Builder_String_any B B _ w5 hib5 hz5).mono ?_
      rintro _ w6 ⟨rfl, hb6⟩
      have HB6 := Lib.hid (HB2.out.trans ((HB5.out.trans hb6).mono HWB.out))
      clear hb6
      go_wp2
      go_ret2
      exact RetDec.mk_ (by rw [HF.out, HX.out]) (by rw [HF.out]) HB6.out
    case pos =>
    obtain ⟨ad, ⟨nm, ty, sc, nu⟩, p, rfl, he, hp, hE⟩ := hsr.col_load rfl hlt
    obtain ⟨hplt, c0, c1, c2, c3⟩ := hE
    dsimp only at c0 c1 c2 c3
    obtain ⟨v1, ⟨v2, v3⟩, v4, v5⟩ := HV.out _ (List.mem_of_getElem? he)
    dsimp only at v1 v2 v3 v4 v5
    have HN := Lib.hid (show linesC (l.take (k + 1)) = linesC (l.take k) ++ colLine ⟨nm, ty, sc, nu⟩ from linesC_snoc he)
    clear he
    obtain ⟨j, rfl⟩ : ∃ j : Nat, ty = (j : Int) + 1 := ⟨(ty - 1).toNat, by omega⟩
    have hj : j ≤ 4 := by omega
    obtain ⟨TY, hTY, hTY2, hTY3⟩ := type_at hj
    have bx := Blk.new wr 41 #[.string nm, .int .i64 ((j : Int) + 1), .int .i64 sc, .bool nu]
    have hbx := below_new wr (.cells #[.string nm, .int .i64 ((j : Int) + 1), .int .i64 sc, .bool nu] 41)
    go_upto_region 8 with (fail)
    obtain ⟨WX, hWX⟩ : ∃ W, W = wr.alloc (.cells #[.string nm, .int .i64 ((j : Int) + 1), .int .i64 sc, .bool nu] 41) := ⟨_, rfl⟩
    rw [← hWX] at bx hbx ⊢
    clear hWX c0 c1 c2 c3
    obtain ⟨G, hG⟩ : ∃ G, G = wr.heap.size := ⟨_, rfl⟩
    have hibX := isB_below hib hbx
    rw [← hG] at bx hbx ⊢
    have hGB : B < G := by rw [hG]; exact isB_len hib
    have HBX := Lib.hid (show Below B W2 WX from hbel.trans (hbx.mono (by omega)))
    have HBK := Lib.hid (show Below wr.heap.size wr WX by rw [← hG]; exact hbx)
    have hGX := bx.lt
    clear hib hbx hbel hG m0 m1 hsr
    have hGM : WX.heap.size ≤ WX.heap.size := Nat.le_refl _
    have hBX : B ≤ WX.heap.size := by omega
    have hjI : (j : Int) < 5 := by omega
    have hj1 : (j : Int) + 1 - 1 = j := by omega
    have hn1 : ¬9223372036854775807 < nm.size + 1 := by omega
    have hz2 : (nm ++ { data := #[32] } : ByteArray).size ≤ 17 := by rw [ByteArray.size_append, show ({ data := #[32] } : ByteArray).size = 1 from rfl]; omega
    have hn2 : ¬9223372036854775807 < nm.size + 1 + TY.size := by omega
    have hn3 : (nm ++ { data := #[32] } ++ TY : ByteArray).size ≤ 24 := by rw [ByteArray.size_append]; omega
    have HA := Lib.hid (show (nm ++ { data := #[32] } ++ TY : ByteArray).data.toList = colA ⟨nm, (j : Int) + 1, sc, nu⟩ by unfold colA; simp [ByteArray.data_append, hTY2])
    obtain ⟨N2, hN2⟩ : ∃ N2 : ByteArray, N2 = nm ++ { data := #[32] } ++ TY := ⟨_, rfl⟩
    rw [← hN2] at hn3 HA
    have HN2 := Lib.hid hN2
    have hwj : IntKind.i64.wrap (j : Int) = j := IntWalk.i64_in _ (by omega)
    clear hN2 hz2
    have HP := Lib.hid (fun X (h : IsB B B (Lib.byteCells (linesC (l.take k))) X) (hX : B ≤ X.heap.size) => write_any (m := linesC (l.take k) ++ colA ⟨nm, (j : Int) + 1, sc, nu⟩) N2 X h (by rw [HA.out]) (by omega) hX)
    refine wp_region_inv (by kernel_rfl) (by kernel_rfl) (fun L a w' => ∃ u20 u21 u22 u23 u24 u25 u26 u27 u28 u29 u30 : Value,
        a = ⟨#[.agg #[.slice (some ad) l.length c, .int .i64 ↑K], .pointer (some ⟨w.heap.size, 0, none⟩), .string { data := #[] }, .int .i64 0, .int .i64 0, .pointer (some ⟨B, 0, none⟩), undef, .pointer (some ⟨G, 0, none⟩), .agg #[.slice (some ad) l.length c, .int .i64 ↑K], .int .i64 0, .int .i64 0, .bool false, undef, .pointer (some ⟨w.heap.size, 0, none⟩), .slice (some ad) l.length c, .int .i64 ↑l.length, .int .i64 ↑k, .bool true, .pointer (some p), .agg #[.string nm, .int .i64 (↑j + 1), .int .i64 sc, .bool nu], u20, u21, u22, u23, u24, u25, u26, u27, u28, u29, u30, u31, u32, u33, u34, u35, u36, u37, u38, u39, u40, u41, u42, u43, undef, undef, undef, undef, undef, undef, undef, undef, undef, undef, undef], []⟩ ∧
        Below B WX w' ∧ Blk w' G 41 #[.string nm, .int .i64 ((j : Int) + 1), .int .i64 sc, .bool nu] ∧ (L 10 = false → IsB B B (Lib.byteCells (linesC (l.take k))) w') ∧ (L 10 = true → IsB B B (Lib.byteCells (linesC (l.take k) ++ colA ⟨nm, (j : Int) + 1, sc, nu⟩)) w') ∧
        Got (L 0) u20 (.pointer (some ⟨G, 0, none⟩)) ∧ Got (L 1) u21 (.string nm) ∧ Got (L 2) u22 (.string (nm ++ { data := #[32] })) ∧ GotRow (L 3) WX.heap.size u23 5 9 #[.string { data := #[105, 110, 116] }, .string { data := #[98, 111, 111, 108] }, .string { data := #[98, 121, 116, 101, 115] }, .string { data := #[100, 97, 116, 101] }, .string { data := #[100, 101, 99, 105, 109, 97, 108] }] w' ∧ Got (L 4) u24 (.pointer (some ⟨G, 1, none⟩)) ∧ Got (L 5) u25 (.int .i64 ((j : Int) + 1)) ∧ Got (L 6) u26 (.int .i64 (j : Int)) ∧ GotPtr (L 7) WX.heap.size u27 j 9 #[.string { data := #[105, 110, 116] }, .string { data := #[98, 111, 111, 108] }, .string { data := #[98, 121, 116, 101, 115] }, .string { data := #[100, 97, 116, 101] }, .string { data := #[100, 101, 99, 105, 109, 97, 108] }] w' ∧ Got (L 8) u28 (.string TY) ∧ Got (L 9) u29 (.string N2))
      ?_ ?_ ?_
    · exact ⟨u20, u21, u22, u23, u24, u25, u26, u27, u28, u29, u30, rfl, (Below.refl _ _).drew, bx, fun _ => isB_below hibX (below_drew0 _), nofun, nofun, nofun, nofun, nofun, nofun, nofun, nofun, nofun, nofun, nofun⟩
    · refine ⟨?_, ?_, ?_, ?_, ?_, ?_, ?_, ?_, ?_, ?_, ?_, trivial⟩
      · rintro L a w' ⟨u20, u21, u22, u23, u24, u25, u26, u27, u28, u29, u30, rfl, hb, hB, pre, post, g0, g1, g2, g3, g4, g5, g6, g7, g8, g9⟩ hl hd K0 hK
        dsimp only at hK ⊢
        go_simp
        exact hK _ _ ⟨_, _, _, _, _, _, _, _, _, _, _, rfl, hb, hB, pre, post, fun _ => rfl, g1, g2, g3, g4, g5, g6, g7, g8, g9⟩
      · rintro L a w' ⟨u20, u21, u22, u23, u24, u25, u26, u27, u28, u29, u30, rfl, hb, hB, pre, post, g0, g1, g2, g3, g4, g5, g6, g7, g8, g9⟩ hl hd K0 hK
        simp [Region.binds] at hd
        dsimp only at hK ⊢
        have e0 := g0 (by simp [hd])
        subst e0
        have c1 : w'.cell? ⟨G, 0, none⟩ = some (.string nm) := hB.cell 0
        go_simp
        exact hK _ _ ⟨_, _, _, _, _, _, _, _, _, _, _, rfl, hb, hB, pre, post, g0, fun _ => rfl, g2, g3, g4, g5, g6, g7, g8, g9⟩
      · rintro L a w' ⟨u20, u21, u22, u23, u24, u25, u26, u27, u28, u29, u30, rfl, hb, hB, pre, post, g0, g1, g2, g3, g4, g5, g6, g7, g8, g9⟩ hl hd K0 hK
        simp [Region.binds] at hd
        dsimp only at hK ⊢
        have e1 := g1 (by simp [hd])
        subst e1
        go_simp
        exact hK _ _ ⟨_, _, _, _, _, _, _, _, _, _, _, rfl, hb, hB, pre, post, g0, g1, fun _ => rfl, g3, g4, g5, g6, g7, g8, g9⟩
      · rintro L a w' ⟨u20, u21, u22, u23, u24, u25, u26, u27, u28, u29, u30, rfl, hb, hB, pre, post, g0, g1, g2, g3, g4, g5, g6, g7, g8, g9⟩ hl hd K0 hK
        dsimp only at hK ⊢
        have hb2 : B ≤ w'.heap.size := Nat.le_trans hBX hb.size
        go_wp2_with (go_at_call 29; (with_reducible refine (types_any _).mono ?_); rintro e w3 ⟨g, rfl, hg, hB3, hbk⟩)
        exact ⟨_, _, _, _, _, _, _, _, _, _, _, rfl, hb.trans (hbk.mono hb2), hB.below hbk hB.lt, fun h => isB_below (pre h) hbk, fun h => isB_below (post h) hbk, g0, g1, g2, fun _ => ⟨g, rfl, Nat.le_trans hb.size hg, hB3⟩, g4, g5, g6, g7.below hbk, g8, g9⟩
      · rintro L a w' ⟨u20, u21, u22, u23, u24, u25, u26, u27, u28, u29, u30, rfl, hb, hB, pre, post, g0, g1, g2, g3, g4, g5, g6, g7, g8, g9⟩ hl hd K0 hK
        dsimp only at hK ⊢
        go_simp
        exact hK _ _ ⟨_, _, _, _, _, _, _, _, _, _, _, rfl, hb, hB, pre, post, g0, g1, g2, g3, fun _ => rfl, g5, g6, g7, g8, g9⟩
      · rintro L a w' ⟨u20, u21, u22, u23, u24, u25, u26, u27, u28, u29, u30, rfl, hb, hB, pre, post, g0, g1, g2, g3, g4, g5, g6, g7, g8, g9⟩ hl hd K0 hK
        simp [Region.binds] at hd
        dsimp only at hK ⊢
        have e4 := g4 (by simp [hd])
        subst e4
        have c5 : w'.cell? ⟨G, 1, none⟩ = some (.int .i64 ((j : Int) + 1)) := hB.cell 1
        go_simp
        exact hK _ _ ⟨_, _, _, _, _, _, _, _, _, _, _, rfl, hb, hB, pre, post, g0, g1, g2, g3, g4, fun _ => rfl, g6, g7, g8, g9⟩
      · rintro L a w' ⟨u20, u21, u22, u23, u24, u25, u26, u27, u28, u29, u30, rfl, hb, hB, pre, post, g0, g1, g2, g3, g4, g5, g6, g7, g8, g9⟩ hl hd K0 hK
        simp [Region.binds] at hd
        dsimp only at hK ⊢
        have e5 := g5 (by simp [hd])
        subst e5
        go_simp
        exact hK _ _ ⟨_, _, _, _, _, _, _, _, _, _, _, rfl, hb, hB, pre, post, g0, g1, g2, g3, g4, g5, fun _ => rfl, g7, g8, g9⟩
      · rintro L a w' ⟨u20, u21, u22, u23, u24, u25, u26, u27, u28, u29, u30, rfl, hb, hB, pre, post, g0, g1, g2, g3, g4, g5, g6, g7, g8, g9⟩ hl hd K0 hK
        simp [Region.binds] at hd
        dsimp only at hK ⊢
        obtain ⟨A3, e3, hN3, hB3⟩ := g3 (by simp [hd])
        subst e3
        have e6 := g6 (by simp [hd])
        subst e6
        go_simp
        exact hK _ _ ⟨_, _, _, _, _, _, _, _, _, _, _, rfl, hb, hB, pre, post, g0, g1, g2, g3, g4, g5, g6, fun _ => ⟨_, rfl, hN3, hB3⟩, g8, g9⟩
      · rintro L a w' ⟨u20, u21, u22, u23, u24, u25, u26, u27, u28, u29, u30, rfl, hb, hB, pre, post, g0, g1, g2, g3, g4, g5, g6, g7, g8, g9⟩ hl hd K0 hK
        simp [Region.binds] at hd
        dsimp only at hK ⊢
        obtain ⟨A7, e7, hN7, hB7⟩ := g7 (by simp [hd])
        have c7 : w'.cell? ⟨A7, j, none⟩ = some (.string TY) := (hB7.cell j).trans hTY
        subst e7
        go_simp
        exact hK _ _ ⟨_, _, _, _, _, _, _, _, _, _, _, rfl, hb, hB, pre, post, g0, g1, g2, g3, g4, g5, g6, g7, fun _ => rfl, g9⟩
      · rintro L a w' ⟨u20, u21, u22, u23, u24, u25, u26, u27, u28, u29, u30, rfl, hb, hB, pre, post, g0, g1, g2, g3, g4, g5, g6, g7, g8, g9⟩ hl hd K0 hK
        simp [Region.binds] at hd
        dsimp only at hK ⊢
        have e2 := g2 (by simp [hd])
        subst e2
        have e8 := g8 (by simp [hd])
        subst e8
        go_simp
        exact hK _ _ ⟨_, _, _, _, _, _, _, _, _, _, _, rfl, hb, hB, pre, post, g0, g1, g2, g3, g4, g5, g6, g7, g8, fun _ => by rw [HN2.out]⟩
      · rintro L a w' ⟨u20, u21, u22, u23, u24, u25, u26, u27, u28, u29, u30, rfl, hb, hB, pre, post, g0, g1, g2, g3, g4, g5, g6, g7, g8, g9⟩ hl hd K0 hK
        simp [Region.binds] at hd
        dsimp only at hK ⊢
        have e9 := g9 (by simp [hd])
        subst e9
        have hb2 : B ≤ w'.heap.size := Nat.le_trans hBX hb.size
        go_wp2_with (go_at_call 28; (with_reducible refine (HP.out _ (pre hl) hb2).mono ?_); rintro e w3 ⟨rfl, hib3, hbk, hkb, hsz3⟩)
        exact ⟨_, _, _, _, _, _, _, _, _, _, _, rfl, hb.trans hbk, hkb _ _ _ (Nat.ne_of_gt hGB) (by decide) hB, fun h => by simp [upd] at h, fun _ => hib3, g0, g1, g2, g3.keepB hkb (by decide) (by omega), g4, g5, g6, g7.keepB hkb (by decide) (by omega), g8, g9⟩
    · rintro a w2 ⟨u20, u21, u22, u23, u24, u25, u26, u27, u28, u29, u30, rfl, hb2, bx2, -, post, g0, g1, g2, g3, g4, g5, g6, g7, g8, g9⟩
      have e := g0 rfl
      subst e
      clear g0
      have e := g1 rfl
      subst e
      clear g1
      have e := g2 rfl
      subst e
      clear g2
      obtain ⟨A3, e, -, -⟩ := g3 rfl
      subst e
      clear g3
      have e := g4 rfl
      subst e
      clear g4
      have e := g5 rfl
      subst e
      clear g5
      have e := g6 rfl
      subst e
      clear g6
      obtain ⟨A7, e, -, -⟩ := g7 rfl
      subst e
      clear g7
      have e := g8 rfl
      subst e
      clear g8
      have e := g9 rfl
      subst e
      clear g9
      have hib2 := post rfl
      clear post
      have HB2X := Lib.hid (HBX.out.trans hb2)
      have d1 : w2.cell? ⟨G, 1, none⟩ = some (.int .i64 ((j : Int) + 1)) := bx2.cell 1
      have d2 : w2.cell? ⟨G, 2, none⟩ = some (.int .i64 sc) := bx2.cell 2
      have d3 : w2.cell? ⟨G, 3, none⟩ = some (.bool nu) := bx2.cell 3
      have hw2B : B ≤ w2.heap.size := by have := bx2.lt; omega
      have hAL : (colA ⟨nm, (j : Int) + 1, sc, nu⟩).length ≤ 24 := by rw [← HA.out, sizeD]; exact hn3
      obtain ⟨P, hP⟩ : ∃ P, P = linesC (l.take k) := ⟨_, rfl⟩
      rw [← hP] at hib2 hLb2 HN
      obtain ⟨Q, hQ⟩ : ∃ Q, Q = colA ⟨nm, (j : Int) + 1, sc, nu⟩ := ⟨_, rfl⟩
      rw [← hQ] at hib2 hAL
      clear HP HA hP hn1 hn2 hn3 hTY hibX hGX hBX hGM HBX HBK
      by_cases h5 : j = 4
      case pos =>
        subst h5
        have hT2' := Lib.hid (hT1.out.below (by rw [← HBB.out]; exact HBN.out.trans HB2X.out))
        have CI := Lib.hid (Tryd.strconv_Itoa sc (by omega) (by omega) w2 hT2'.out)
        obtain ⟨D, hD⟩ : ∃ D : ByteArray, (⟨(Lib.itoa sc).toArray⟩ : ByteArray) = D := ⟨_, rfl⟩
        rw [hD] at CI
        have HD := Lib.hid (show D.data.toList = Lib.itoa sc by rw [← hD])
        have hDs : D.size ≤ 20 := by rw [← sizeD, HD.out]; exact itoa_small v4 v5
        clear hD
        have hn4 : ¬9223372036854775807 < 1 + D.size := by omega
        go_wp2_with fail
        refine CI.out.mono ?_
        rintro _ w3 ⟨rfl, dk, os, hw3⟩
        have hbg : Below w2.heap.size w2 w3 := by rw [hw3]; exact below_gd _ _ _
        clear hw3
        have hib3 := isB_below hib2 hbg
        have bx3 := bx2.below hbg bx2.lt
        have hbt3 := Lib.hid (HB2X.out.trans (hbg.mono hw2B))
        have hw3B : B ≤ w3.heap.size := Nat.le_trans hw2B hbg.size
        have hCB : colB ⟨nm, ((4 : Nat) : Int) + 1, sc, nu⟩ = 32 :: D.data.toList := by unfold colB; rw [HD.out]; rfl
        clear hbg d1 d2 d3
        go_wp2_with fail
        with_reducible refine (write_any (m := P ++ Q ++ (32 :: D.data.toList)) ({ data := #[32] } ++ D) w3 hib3 (by simp [ByteArray.data_append]) (by simp only [List.length_append, ByteArray.size_append, show ({ data := #[32] } : ByteArray).size = 1 from rfl]; omega) hw3B).mono ?_
        rintro _ w4 ⟨rfl, hib4, hb4, hk4, hwB⟩
        have bx4 := hk4 _ _ _ (Nat.ne_of_gt hGB) (by decide) bx3
        have d3 : w4.cell? ⟨G, 3, none⟩ = some (.bool nu) := bx4.cell 3
        have hbt4 := Lib.hid (hbt3.out.trans hb4)
        clear hb4 hk4 bx4 bx3
        have hML : (P ++ Q ++ (32 :: D.data.toList)).length ≤ 800 := by simp only [List.length_append, List.length_cons, sizeD]; omega
        obtain ⟨M, hM⟩ : ∃ M, M = P ++ Q ++ (32 :: D.data.toList) := ⟨_, rfl⟩
        rw [← hM] at hib4 hML
        cases nu
        case false =>
          have HCL := Lib.hid (show P ++ colLine ⟨nm, ((4 : Nat) : Int) + 1, sc, false⟩ = M ++ [10] by rw [hM]; unfold colLine; rw [hCB, ← hQ]; simp [colC])
          clear hM hCB hQ
          go_wp2_with fail
          with_reducible refine (write_any (m := M ++ [10]) _ w4 hib4 rfl (by simp [ByteArray.size]; omega) hwB).mono ?_
          rintro _ w6 ⟨rfl, hib6, hb6, hk6, hz6⟩
          have hbt6 := Lib.hid (hbt4.out.trans hb6)
          clear hb6 hk6
          go_wp2_with fail
          go_roundw
          case rel => exact ⟨k + 1, by omega, by go_num, hbt6.out, by rw [HN.out, HCL.out]; exact hib6⟩
          case measure => simp [intOf]; omega
        case true =>
          have HCL := Lib.hid (show P ++ colLine ⟨nm, ((4 : Nat) : Int) + 1, sc, true⟩ = M ++ [32, 110, 117, 108, 108] ++ [10] by rw [hM]; unfold colLine; rw [hCB, ← hQ]; simp [colC])
          clear hM hCB hQ
          go_wp2_with fail
          with_reducible refine (write_any (m := M ++ [32, 110, 117, 108, 108]) _ w4 hib4 rfl (by simp [ByteArray.size]; omega) hwB).mono ?_
          rintro _ w5 ⟨rfl, hib5, hb5, hk5, hz5⟩
          have hbt5 := Lib.hid (hbt4.out.trans hb5)
          clear hb5 hk5
          go_wp2_with fail
          with_reducible refine (write_any (m := (M ++ [32, 110, 117, 108, 108]) ++ [10]) _ w5 hib5 rfl (by simp [ByteArray.size]; omega) hz5).mono ?_
          rintro _ w6 ⟨rfl, hib6, hb6, hk6, hz6⟩
          have hbt6 := Lib.hid (hbt5.out.trans hb6)
          clear hb6 hk6
          go_wp2_with fail
          go_roundw
          case rel => exact ⟨k + 1, by omega, by go_num, hbt6.out, by rw [HN.out, HCL.out]; exact hib6⟩
          case measure => simp [intOf]; omega
      case neg =>
        have hq : ((j : Int) + 1 == 5) = false := beq_eq_false_iff_ne.2 (by omega)
        have hCB : colB ⟨nm, (j : Int) + 1, sc, nu⟩ = [] := by unfold colB; rw [if_neg (by dsimp only; omega)]
        have hwB := hw2B
        have hML : (P ++ Q).length ≤ 800 := by simp only [List.length_append]; omega
        obtain ⟨M, hM⟩ : ∃ M, M = P ++ Q := ⟨_, rfl⟩
        rw [← hM] at hib2 hML
        cases nu
        case false =>
          have HCL := Lib.hid (show P ++ colLine ⟨nm, (j : Int) + 1, sc, false⟩ = M ++ [10] by rw [hM]; unfold colLine; rw [hCB, ← hQ]; simp [colC])
          clear hM hCB hQ
          go_wp2_with fail
          with_reducible refine (write_any (m := M ++ [10]) _ w2 hib2 rfl (by simp [ByteArray.size]; omega) hwB).mono ?_
          rintro _ w6 ⟨rfl, hib6, hb6, hk6, hz6⟩
          have hbt6 := Lib.hid (HB2X.out.trans hb6)
          clear hb6 hk6
          go_wp2_with fail
          go_roundw
          case rel => exact ⟨k + 1, by omega, by go_num, hbt6.out, by rw [HN.out, HCL.out]; exact hib6⟩
          case measure => simp [intOf]; omega
        case true =>
          have HCL := Lib.hid (show P ++ colLine ⟨nm, (j : Int) + 1, sc, true⟩ = M ++ [32, 110, 117, 108, 108] ++ [10] by rw [hM]; unfold colLine; rw [hCB, ← hQ]; simp [colC])
          clear hM hCB hQ
          go_wp2_with fail
          with_reducible refine (write_any (m := M ++ [32, 110, 117, 108, 108]) _ w2 hib2 rfl (by simp [ByteArray.size]; omega) hwB).mono ?_
          rintro _ w5 ⟨rfl, hib5, hb5, hk5, hz5⟩
          have hbt5 := Lib.hid (HB2X.out.trans hb5)
          clear hb5 hk5
          go_wp2_with fail
          with_reducible refine (write_any (m := (M ++ [32, 110, 117, 108, 108]) ++ [10]) _ w5 hib5 rfl (by simp [ByteArray.size]; omega) hz5).mono ?_
          rintro _ w6 ⟨rfl, hib6, hb6, hk6, hz6⟩
          have hbt6 := Lib.hid (hbt5.out.trans hb6)
          clear hb6 hk6
          go_wp2_with fail
          go_roundw
          case rel => exact ⟨k + 1, by omega, by go_num, hbt6.out, by rw [HN.out, HCL.out]; exact hib6⟩
          case measure => simp [intOf]; omega
end Go.Proofs.YtojfhlppiicpbaaDoor
