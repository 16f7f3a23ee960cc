/-
  Words, plain laws and contracts on which the walks lean, in one text.
-/
import Derived.Test.YtjnamjkdjcndiaaGreatDoorM12
import Derived.Test.YtjnamjkdjcndiaaGreatDoorBuilder
import Derived.Test.YtjnamjkdjcndiaaGreatDoorM5
import Derived.Test.YtjnamjkdjcndiaaGreatDoorPLen
namespace Go.Proofs.YtjnamjkdjcndiaaGreatDoor
open Go.RowKit Go.Sort
set_option linter.unusedVariables false
theorem isB_below {B b : Nat} {bs : List Value} {w w' : World} (h : IsB B b bs w) (hb : Below w.heap.size w w') : IsB B b bs w' := by
  have g : ∀ p, Lib.BuilderAt 61 5 B b p bs w → Lib.BuilderAt 61 5 B b p bs w' := fun p hp => by
    have hlt := hp.lt
    obtain ⟨h1, v, h2, h3, h4⟩ := hp
    exact ⟨h1, v, (hb.block b hlt).trans h2, own_below h3 hb, h4⟩
  exact h.imp (g _) (g _)
theorem isB_len {B b : Nat} {bs : List Value} {w : World} (h : IsB B b bs w) : b < w.heap.size := by
  rcases h with h | h
  · exact h.lt
  · exact h.lt
theorem byteCells_len (l : List UInt8) : (Lib.byteCells l).length = l.length := by unfold Lib.byteCells; rw [List.length_map]
theorem bytes_next {l : List UInt8} {s : ByteArray} {m : List UInt8} (h : l ++ s.data.toList = m) : Lib.byteCells l ++ Lib.strCells s = Lib.byteCells m := by
  rw [Lib.strCells_eq, ← Lib.byteCells_append, h]
/-- A write behind which the text is m. -/
def RetW (B b : Nat) (m : List UInt8) (s : ByteArray) (w : World) (e : Ending) (w' : World) : Prop := e = .returned (.tuple #[.int .i64 s.size, .nilIface]) ∧ IsB B b (Lib.byteCells m) w' ∧ Below B w w' ∧ KeepsB b w w' ∧ B ≤ w'.heap.size
theorem write_any {B b : Nat} {l m : List UInt8} (s : ByteArray) (w : World) (h : IsB B b (Lib.byteCells l) w) (hm : l ++ s.data.toList = m) (hlen : l.length + s.size ≤ 1000000) (hBw : B ≤ w.heap.size) :
    Calls Tryz.prog 51 #[.pointer (some ⟨b, 0, none⟩), .string s] w (RetW B b m s w) :=
  (writeString_any B b _ s w h (by rw [byteCells_len]; omega) hBw).mono fun _ _ ⟨h1, h2, h3, h4⟩ => ⟨h1, by rw [← bytes_next hm]; exact h2, h3, h4, Nat.le_trans hBw h3.size⟩
theorem GotRow.keepB {p : Bool} {N b : Nat} {u : Value} {n : Nat} {T : TypeId} {cs : Array Value} {w w' : World} (h : GotRow p N u n T cs w) (hk : KeepsB b w w') (hT : T ≠ 5) (hN : b < N) : GotRow p N u n T cs w' := fun hp => by
  obtain ⟨A, e, hA, hB⟩ := h hp
  exact ⟨A, e, hA, hk _ _ _ (by omega) hT hB⟩
theorem GotPtr.keepB {p : Bool} {N b : Nat} {u : Value} {k : Nat} {T : TypeId} {cs : Array Value} {w w' : World} (h : GotPtr p N u k T cs w) (hk : KeepsB b w w') (hT : T ≠ 5) (hN : b < N) : GotPtr p N u k T cs w' := fun hp => by
  obtain ⟨A, e, hA, hB⟩ := h hp
  exact ⟨A, e, hA, hk _ _ _ (by omega) hT hB⟩
end Go.Proofs.YtjnamjkdjcndiaaGreatDoor
namespace Go.Proofs.YtjnamjkdjcndiaaGreatDoor
open Go.RowKit Go.Sort

theorem txt_leaf {cs : List Col} {p : List Nd} {i : Nat} {x : Nd} (hx : p[i]? = some x) (h9 : x.op < 9) : txtI cs p i = leafP cs x := by rw [txtI_eq hx]; unfold txtN; rw [if_pos h9]
theorem txt_not {cs : List Col} {p : List Nd} {i : Nat} {x : Nd} (hx : p[i]? = some x) (h : x.op = 11) (ha : x.a.toNat < i) : txtI cs p i = [40, 110, 111, 116, 32] ++ txtI cs p x.a.toNat ++ [41] := by
  rw [txtI_eq hx]; unfold txtN; rw [if_neg (by omega), if_pos h, txts_get cs p ha]
theorem txt_two {cs : List Col} {p : List Nd} {i : Nat} {x : Nd} (hx : p[i]? = some x) (h9 : ¬ x.op < 9) (h : x.op ≠ 11) (ha : x.a.toNat < i) (hb : x.b.toNat < i) : txtI cs p i = (40 :: wordP x.op ++ [32]) ++ txtI cs p x.a.toNat ++ [32] ++ txtI cs p x.b.toNat ++ [41] := by
  rw [txtI_eq hx]; unfold txtN; rw [if_neg h9, if_neg h, txts_get cs p ha, txts_get cs p hb]
theorem keepsB_below {b : Nat} {w w' : World} (h : Below w.heap.size w w') : KeepsB b w w' := fun _ _ _ _ _ hB => hB.below h hB.lt
/-- The builder b holds m; other things are as they were. -/
def RetX (B b : Nat) (m : List UInt8) (w : World) (e : Ending) (w' : World) : Prop := e = .returned (.tuple #[]) ∧ IsB B b (Lib.byteCells m) w' ∧ Below B w w' ∧ KeepsB b w w' ∧ B ≤ w'.heap.size
set_option maxRecDepth 100000 in
set_option maxHeartbeats 8000000 in
theorem ptext_any (v pv : Value) (key : Int) (cs : List Col) (p : List Nd) (w0 : World) (B b : Nat) (he : PEnv w0 v cs pv p) (hk : POk cs p) (h0B : w0.heap.size ≤ B) :
    ∀ (i : Nat), i < p.length → sizI cs p i ≤ 65536 → ∀ (L0 : List UInt8) (w : World), Below w0.heap.size w0 w → B ≤ w.heap.size → IsB B b (Lib.byteCells L0) w → L0.length + sizI cs p i ≤ 200000 →
    Calls Tryz.prog 27 #[.pointer (some ⟨b, 0, none⟩), .agg #[v, .int .i64 key], pv, .int .i64 (i : Int)] w (RetX B b (L0 ++ txtI cs p i) w) := by
  obtain ⟨A, cA, rfl, hc1, hc2⟩ := he.hs.form
  obtain ⟨AP, cP, rfl, hc3, hc4⟩ := he.hp.form
  have HE := Lib.hid he
  have HK := Lib.hid hk
  have H0B := Lib.hid h0B
  have hp64 : p.length ≤ 64 := hk.ok.len
  clear he hk h0B
  intro i
  induction i using Nat.strongRecOn with
  | _ i ih =>
    intro hi hsz L0 w hbw hBw hib hlen
    have IH := Lib.hid ih
    have HI := Lib.hid hi
    have qi : decide (i < p.length) = true := decide_eq_true hi
    have pi' : (i < p.length) = True := eq_true hi
    obtain ⟨N0, hN0⟩ : ∃ N, w.heap.size = N := ⟨_, rfl⟩
    obtain ⟨W, hW⟩ : ∃ W, W = w.alloc (.cells #[.slice A cs.length cA, .int .i64 key] 28) := ⟨_, rfl⟩
    have hwW : Below w.heap.size w W := by rw [hW]; exact (Below.refl _ _).alloc (Nat.le_refl _) _
    have bS : Blk W N0 28 #[.slice A cs.length cA, .int .i64 key] := by rw [hW, ← hN0]; exact Blk.new _ _ _
    obtain ⟨ad, x, u, px, rfl, hx, hpx, hE, hu⟩ := (HE.out.hp.below (hbw.trans (hwW.mono (hbw.size)))).nd_load rfl hi
    obtain ⟨AU, cU, rfl, _, _⟩ := hu.form
    obtain ⟨hplt, c0, c1, c2, c3, c4, c5, c6, c7⟩ := hE
    have HX := Lib.hid hx
    have hn := HK.out.ok.node i x hx
    obtain ⟨o1, o2⟩ := node_op hn
    have HSUB := Lib.hid (fun h => node_sub hn h)
    obtain ⟨hsT, hsub⟩ := siz_txt HK.out.ok i x hx hsz
    have HST := Lib.hid hsT
    have HSS := Lib.hid hsub
    obtain ⟨N1, hN1⟩ : ∃ N, W.heap.size = N := ⟨_, rfl⟩
    obtain ⟨V, hV⟩ : ∃ V, V = W.alloc (.cells #[.int .i64 x.op, .int .i64 x.col, .bool x.v.nu, .int .i64 x.v.n, .string x.v.s, .slice AU x.l.length cU, .int .i64 x.a, .int .i64 x.b] 66) := ⟨_, rfl⟩
    have hWV : Below W.heap.size W V := by rw [hV]; exact (Below.refl _ _).alloc (Nat.le_refl _) _
    have hwV : Below w.heap.size w V := bst hwW hWV
    have VN := Lib.hid (show Blk V N1 66 #[.int .i64 x.op, .int .i64 x.col, .bool x.v.nu, .int .i64 x.v.n, .string x.v.s, .slice AU x.l.length cU, .int .i64 x.a, .int .i64 x.b] by rw [hV, ← hN1]; exact Blk.new _ _ _)
    have VS := Lib.hid (bS.below hWV bS.lt)
    have VU := Lib.hid (hu.below hWV)
    have VI := Lib.hid (isB_below hib hwV)
    have VK := Lib.hid (keepsB_below (b := b) hwV)
    have VB := Lib.hid (show Below B w V from hwV.mono hBw)
    have V0 := Lib.hid (hbw.trans (hwV.mono hbw.size))
    have hBV : B ≤ V.heap.size := Nat.le_trans hBw hwV.size
    have hbN0 : b < N0 := by rw [← hN0]; exact isB_len hib
    have hN01 : N0 < N1 := by rw [← hN1]; exact bS.lt
    have hN1V : N1 < V.heap.size := VN.out.lt
    clear hx hn hsT hsub hwW bS hu hWV hwV hib hbw ih
    go_enter Tryz.func27, Tryz.ntmps27
    go_upto_region 1 with (fail)
    rw [← hW]
    try simp only [hN0]
    clear hW
    go_upto_region 2 with (fail)
    rw [← hV]
    try simp only [hN1]
    clear hV hN0 hN1 c0 c1 c2 c3 c4 c5 c6 c7 hpx hplt
    by_cases h9 : x.op < 9
    · have q9 : decide (x.op < 9) = true := decide_eq_true h9
      obtain ⟨hLF, hll⟩ := leaf_at (key := key) (w := V) HE.out HK.out HX.out h9 VU.out V0.out
      have HLF := Lib.hid hLF
      have HTX := Lib.hid (txt_leaf (cs := cs) HX.out h9)
      clear hLF h9
      have bb := VN.out
      have n0 := bb.cell 0
      have n1 := bb.cell 1
      have n2 := bb.cell 2
      have n3 := bb.cell 3
      have n4 := bb.cell 4
      have n5 := bb.cell 5
      have n6 := bb.cell 6
      have n7 := bb.cell 7
      simp only [List.getElem?_toArray, List.getElem?_cons_zero, List.getElem?_cons_succ] at n0 n1 n2 n3 n4 n5 n6 n7
      clear bb
      have bb := VS.out
      have s0 := bb.cell 0
      have s1 := bb.cell 1
      simp only [List.getElem?_toArray, List.getElem?_cons_zero, List.getElem?_cons_succ] at s0 s1
      clear bb
      go_wp2_with fail
      refine HLF.out.mono ?_
      rintro _ w3 ⟨S, rfl, hS, hb3⟩
      have hSs : S.size ≤ 4300 := by rw [size_of hS]; exact hll
      have I3 := Lib.hid (isB_below VI.out hb3)
      have B3 := Lib.hid (VB.out.trans (hb3.mono hBV))
      have K3 := Lib.hid (VK.out.trans (keepsB_below hb3))
      have Z3 := Lib.hid (V0.out.trans (hb3.mono V0.out.size))
      have hB3 : B ≤ w3.heap.size := Nat.le_trans hBV hb3.size
      have HS := Lib.hid hS
      clear hb3 HLF hS hll
      clear n0 n1 n2 n3 n4 n5 n6 n7
      clear s0 s1
      have HWR := Lib.hid (write_any (B := B) (b := b) (l := L0) (m := (L0 ++ txtI cs p i)) S w3 I3.out (by rw [HS.out, HTX.out]) (by omega) hB3)
      go_wp2_with fail
      refine HWR.out.mono ?_
      rintro _ w4 ⟨rfl, hI, hb, hkk, hB4⟩
      have I4 := Lib.hid hI
      have B4 := Lib.hid (B3.out.trans hb)
      have K4 := Lib.hid (K3.out.trans hkk)
      have Z4 := Lib.hid (Z3.out.trans (hb.mono H0B.out))
      clear hI hb hkk HWR
      go_wp2
      go_end0
      exact ⟨rfl, I4.out, B4.out, K4.out, hB4⟩
    · have q9 : decide (x.op < 9) = false := decide_eq_false h9
      obtain ⟨a0, a1, hb⟩ := HSUB.out (by omega)
      obtain ⟨ea, hea⟩ := Int.eq_ofNat_of_zero_le a0
      have hak : ea < i := by omega
      obtain ⟨hs6, hs2⟩ := HSS.out (by omega)
      have hta : x.a.toNat = ea := by omega
      rw [hta] at hs6 hs2
      obtain ⟨J, B0, hJ, hJ11, hBJ, hBW⟩ := word_at o1 o2
      have HBJ := Lib.hid hBJ
      have HBW := Lib.hid hBW
      have hwl : B0.size ≤ 4 := by rw [size_of hBW]; exact wordP_len x.op
      have wj : IntKind.i64.wrap (x.op - 1) = (J : Int) := by rw [hJ, show (J : Int) + 1 - 1 = (J : Int) by omega]; exact IntWalk.i64_in _ (by omega)
      have pj : ((J : Int) < 11) = True := eq_true (by omega)
      have qj : decide (J < 11) = true := decide_eq_true hJ11
      obtain ⟨M1, hM1⟩ : ∃ q, L0 ++ (40 :: wordP x.op ++ [32]) = q := ⟨_, rfl⟩
      have HM1 := Lib.hid hM1
      have hM1l : M1.length ≤ L0.length + 2 + (wordP x.op).length := by rw [← hM1]; simp only [List.length_append, List.length_cons, List.length_nil]; omega
      have hwl2 := wordP_len x.op
      have HEA := Lib.hid (show x.a = (ea : Int) from hea)
      have t1 : ¬9223372036854775807 < 1 + B0.size := by omega
      have t2 : ¬9223372036854775807 < 1 + B0.size + 1 := by omega
      clear hJ hBJ hBW hM1 hea
      have bb := VN.out
      have n0 := bb.cell 0
      have n1 := bb.cell 1
      have n2 := bb.cell 2
      have n3 := bb.cell 3
      have n4 := bb.cell 4
      have n5 := bb.cell 5
      have n6 := bb.cell 6
      have n7 := bb.cell 7
      simp only [List.getElem?_toArray, List.getElem?_cons_zero, List.getElem?_cons_succ] at n0 n1 n2 n3 n4 n5 n6 n7
      clear bb
      go_upto_region 4 with (fail)
      clear n0 n1 n2 n3 n4 n5 n6 n7
      refine wp_region_inv (by kernel_rfl) (by kernel_rfl) (fun L a w' => ∃ u21 u22 u23 u24 u25 u26 u27 u28 u29 u30 : Value, a = ⟨#[.pointer (some ⟨b, 0, none⟩), .agg #[.slice A cs.length cA, .int .i64 key], .slice (some ad) p.length cP, .int .i64 i, undef, .pointer (some ⟨N0, 0, none⟩), undef, undef, .pointer (some ⟨N1, 0, none⟩), .slice (some ad) p.length cP, .int .i64 i, .pointer (some px), .agg #[.int .i64 x.op, .int .i64 x.col, .bool x.v.nu, .int .i64 x.v.n, .string x.v.s, .slice AU x.l.length cU, .int .i64 x.a, .int .i64 x.b], .pointer (some ⟨N1, 0, none⟩), .int .i64 x.op, .bool false, undef, undef, undef, undef, undef, u21, u22, u23, u24, u25, u26, u27, u28, u29, u30, undef, undef, undef, undef, undef, undef, undef, undef, undef, undef, undef, undef, undef, undef, undef, undef, undef, undef, undef], []⟩ ∧
          Below B V w' ∧ Got (L 0) u21 (.pointer (some ⟨b, 0, none⟩)) ∧ GotRow (L 1) V.heap.size u22 11 9 #[.string { data := #[101, 113] }, .string { data := #[110, 101] }, .string { data := #[108, 116] }, .string { data := #[108, 101] }, .string { data := #[103, 116] }, .string { data := #[103, 101] }, .string { data := #[105, 110] }, .string { data := #[110, 117, 108, 108] }, .string { data := #[97, 110, 100] }, .string { data := #[111, 114] }, .string { data := #[110, 111, 116] }] w' ∧ Got (L 2) u23 (.pointer (some ⟨N1, 0, none⟩)) ∧ Got (L 3) u24 (.int .i64 x.op) ∧ Got (L 4) u25 (.int .i64 (J : Int)) ∧ GotPtr (L 5) V.heap.size u26 J 9 #[.string { data := #[101, 113] }, .string { data := #[110, 101] }, .string { data := #[108, 116] }, .string { data := #[108, 101] }, .string { data := #[103, 116] }, .string { data := #[103, 101] }, .string { data := #[105, 110] }, .string { data := #[110, 117, 108, 108] }, .string { data := #[97, 110, 100] }, .string { data := #[111, 114] }, .string { data := #[110, 111, 116] }] w' ∧ Got (L 6) u27 (.string B0) ∧ Got (L 7) u28 (.string ({ data := #[40] } ++ B0)) ∧ Got (L 8) u29 (.string ({ data := #[40] } ++ B0 ++ { data := #[32] })) ∧ IsB B b (Lib.byteCells (cond (L 9) M1 L0)) w' ∧ KeepsB b V w' ∧ V.heap.size ≤ w'.heap.size)
        ?_ ?_ ?_
      · exact ⟨_, _, _, _, _, _, _, _, _, _, rfl, (Below.refl _ _).drew, nofun, nofun, nofun, nofun, nofun, nofun, nofun, nofun, nofun, VI.out, KeepsB.refl _ _, Nat.le_refl _⟩
      · refine ⟨?_, ?_, ?_, ?_, ?_, ?_, ?_, ?_, ?_, ?_, trivial⟩
        · intro L a w' hI hl hd K hK
          refine hI.elim fun u21 hI => hI.elim fun u22 hI => hI.elim fun u23 hI => hI.elim fun u24 hI => hI.elim fun u25 hI => hI.elim fun u26 hI => hI.elim fun u27 hI => hI.elim fun u28 hI => hI.elim fun u29 hI => hI.elim fun u30 hI => ?_
          have ha := hI.1
          subst ha
          have hb := hI.2.1
          have g0 := hI.2.2.1
          have g1 := hI.2.2.2.1
          have g2 := hI.2.2.2.2.1
          have g3 := hI.2.2.2.2.2.1
          have g4 := hI.2.2.2.2.2.2.1
          have g5 := hI.2.2.2.2.2.2.2.1
          have g6 := hI.2.2.2.2.2.2.2.2.1
          have g7 := hI.2.2.2.2.2.2.2.2.2.1
          have g8 := hI.2.2.2.2.2.2.2.2.2.2.1
          have g9 := hI.2.2.2.2.2.2.2.2.2.2.2.1
          have g10 := hI.2.2.2.2.2.2.2.2.2.2.2.2.1
          have g11 := hI.2.2.2.2.2.2.2.2.2.2.2.2.2
          clear hI
          dsimp only at hK ⊢
          go_simp
          exact hK _ _ ⟨_, _, _, _, _, _, _, _, _, _, rfl, hb, fun _ => rfl, g1, g2, g3, g4, g5, g6, g7, g8, g9, g10, g11⟩
        · intro L a w' hI hl hd K hK
          refine hI.elim fun u21 hI => hI.elim fun u22 hI => hI.elim fun u23 hI => hI.elim fun u24 hI => hI.elim fun u25 hI => hI.elim fun u26 hI => hI.elim fun u27 hI => hI.elim fun u28 hI => hI.elim fun u29 hI => hI.elim fun u30 hI => ?_
          have ha := hI.1
          subst ha
          have hb := hI.2.1
          have g0 := hI.2.2.1
          have g1 := hI.2.2.2.1
          have g2 := hI.2.2.2.2.1
          have g3 := hI.2.2.2.2.2.1
          have g4 := hI.2.2.2.2.2.2.1
          have g5 := hI.2.2.2.2.2.2.2.1
          have g6 := hI.2.2.2.2.2.2.2.2.1
          have g7 := hI.2.2.2.2.2.2.2.2.2.1
          have g8 := hI.2.2.2.2.2.2.2.2.2.2.1
          have g9 := hI.2.2.2.2.2.2.2.2.2.2.2.1
          have g10 := hI.2.2.2.2.2.2.2.2.2.2.2.2.1
          have g11 := hI.2.2.2.2.2.2.2.2.2.2.2.2.2
          clear hI
          dsimp only at hK ⊢
          go_wp2_with fail
          refine (pwords_any w').mono ?_
          rintro _ w4 ⟨gq, rfl, hg, hB, hb4⟩
          exact hK _ _ ⟨_, _, _, _, _, _, _, _, _, _, rfl, hb.trans (hb4.mono (Nat.le_trans hBV g11)), g0, fun _ => ⟨gq, rfl, Nat.le_trans g11 hg, hB⟩, g2, g3, g4, g5.below hb4, g6, g7, g8, isB_below g9 hb4, g10.trans (keepsB_below hb4), Nat.le_trans g11 hb4.size⟩
        · intro L a w' hI hl hd K hK
          refine hI.elim fun u21 hI => hI.elim fun u22 hI => hI.elim fun u23 hI => hI.elim fun u24 hI => hI.elim fun u25 hI => hI.elim fun u26 hI => hI.elim fun u27 hI => hI.elim fun u28 hI => hI.elim fun u29 hI => hI.elim fun u30 hI => ?_
          have ha := hI.1
          subst ha
          have hb := hI.2.1
          have g0 := hI.2.2.1
          have g1 := hI.2.2.2.1
          have g2 := hI.2.2.2.2.1
          have g3 := hI.2.2.2.2.2.1
          have g4 := hI.2.2.2.2.2.2.1
          have g5 := hI.2.2.2.2.2.2.2.1
          have g6 := hI.2.2.2.2.2.2.2.2.1
          have g7 := hI.2.2.2.2.2.2.2.2.2.1
          have g8 := hI.2.2.2.2.2.2.2.2.2.2.1
          have g9 := hI.2.2.2.2.2.2.2.2.2.2.2.1
          have g10 := hI.2.2.2.2.2.2.2.2.2.2.2.2.1
          have g11 := hI.2.2.2.2.2.2.2.2.2.2.2.2.2
          clear hI
          dsimp only at hK ⊢
          go_simp
          exact hK _ _ ⟨_, _, _, _, _, _, _, _, _, _, rfl, hb, g0, g1, fun _ => rfl, g3, g4, g5, g6, g7, g8, g9, g10, g11⟩
        · intro L a w' hI hl hd K hK
          refine hI.elim fun u21 hI => hI.elim fun u22 hI => hI.elim fun u23 hI => hI.elim fun u24 hI => hI.elim fun u25 hI => hI.elim fun u26 hI => hI.elim fun u27 hI => hI.elim fun u28 hI => hI.elim fun u29 hI => hI.elim fun u30 hI => ?_
          have ha := hI.1
          subst ha
          have hb := hI.2.1
          have g0 := hI.2.2.1
          have g1 := hI.2.2.2.1
          have g2 := hI.2.2.2.2.1
          have g3 := hI.2.2.2.2.2.1
          have g4 := hI.2.2.2.2.2.2.1
          have g5 := hI.2.2.2.2.2.2.2.1
          have g6 := hI.2.2.2.2.2.2.2.2.1
          have g7 := hI.2.2.2.2.2.2.2.2.2.1
          have g8 := hI.2.2.2.2.2.2.2.2.2.2.1
          have g9 := hI.2.2.2.2.2.2.2.2.2.2.2.1
          have g10 := hI.2.2.2.2.2.2.2.2.2.2.2.2.1
          have g11 := hI.2.2.2.2.2.2.2.2.2.2.2.2.2
          clear hI
          simp [Region.binds] at hd
          dsimp only at hK ⊢
          have e2 := g2 (by simp [hd])
          subst e2
          have bb := (g10 _ _ _ (by omega) (by decide) VN.out)
          have c0 := bb.cell 0
          have c1 := bb.cell 1
          have c2 := bb.cell 2
          have c3 := bb.cell 3
          have c4 := bb.cell 4
          have c5 := bb.cell 5
          have c6 := bb.cell 6
          have c7 := bb.cell 7
          simp only [List.getElem?_toArray, List.getElem?_cons_zero, List.getElem?_cons_succ] at c0 c1 c2 c3 c4 c5 c6 c7
          clear bb
          go_simp
          exact hK _ _ ⟨_, _, _, _, _, _, _, _, _, _, rfl, hb, g0, g1, g2, fun _ => rfl, g4, g5, g6, g7, g8, g9, g10, g11⟩
        · intro L a w' hI hl hd K hK
          refine hI.elim fun u21 hI => hI.elim fun u22 hI => hI.elim fun u23 hI => hI.elim fun u24 hI => hI.elim fun u25 hI => hI.elim fun u26 hI => hI.elim fun u27 hI => hI.elim fun u28 hI => hI.elim fun u29 hI => hI.elim fun u30 hI => ?_
          have ha := hI.1
          subst ha
          have hb := hI.2.1
          have g0 := hI.2.2.1
          have g1 := hI.2.2.2.1
          have g2 := hI.2.2.2.2.1
          have g3 := hI.2.2.2.2.2.1
          have g4 := hI.2.2.2.2.2.2.1
          have g5 := hI.2.2.2.2.2.2.2.1
          have g6 := hI.2.2.2.2.2.2.2.2.1
          have g7 := hI.2.2.2.2.2.2.2.2.2.1
          have g8 := hI.2.2.2.2.2.2.2.2.2.2.1
          have g9 := hI.2.2.2.2.2.2.2.2.2.2.2.1
          have g10 := hI.2.2.2.2.2.2.2.2.2.2.2.2.1
          have g11 := hI.2.2.2.2.2.2.2.2.2.2.2.2.2
          clear hI
          simp [Region.binds] at hd
          dsimp only at hK ⊢
          have e3 := g3 (by simp [hd])
          subst e3
          go_simp
          exact hK _ _ ⟨_, _, _, _, _, _, _, _, _, _, rfl, hb, g0, g1, g2, g3, fun _ => rfl, g5, g6, g7, g8, g9, g10, g11⟩
        · intro L a w' hI hl hd K hK
          refine hI.elim fun u21 hI => hI.elim fun u22 hI => hI.elim fun u23 hI => hI.elim fun u24 hI => hI.elim fun u25 hI => hI.elim fun u26 hI => hI.elim fun u27 hI => hI.elim fun u28 hI => hI.elim fun u29 hI => hI.elim fun u30 hI => ?_
          have ha := hI.1
          subst ha
          have hb := hI.2.1
          have g0 := hI.2.2.1
          have g1 := hI.2.2.2.1
          have g2 := hI.2.2.2.2.1
          have g3 := hI.2.2.2.2.2.1
          have g4 := hI.2.2.2.2.2.2.1
          have g5 := hI.2.2.2.2.2.2.2.1
          have g6 := hI.2.2.2.2.2.2.2.2.1
          have g7 := hI.2.2.2.2.2.2.2.2.2.1
          have g8 := hI.2.2.2.2.2.2.2.2.2.2.1
          have g9 := hI.2.2.2.2.2.2.2.2.2.2.2.1
          have g10 := hI.2.2.2.2.2.2.2.2.2.2.2.2.1
          have g11 := hI.2.2.2.2.2.2.2.2.2.2.2.2.2
          clear hI
          simp [Region.binds] at hd
          dsimp only at hK ⊢
          have e4 := g4 (by simp [hd])
          subst e4
          obtain ⟨gq, hg0, hgN, hgB⟩ := g1 (by simp [hd])
          subst hg0
          go_simp
          exact hK _ _ ⟨_, _, _, _, _, _, _, _, _, _, rfl, hb, g0, fun _ => ⟨gq, rfl, hgN, hgB⟩, g2, g3, g4, fun _ => ⟨gq, rfl, hgN, hgB⟩, g6, g7, g8, g9, g10, g11⟩
        · intro L a w' hI hl hd K hK
          refine hI.elim fun u21 hI => hI.elim fun u22 hI => hI.elim fun u23 hI => hI.elim fun u24 hI => hI.elim fun u25 hI => hI.elim fun u26 hI => hI.elim fun u27 hI => hI.elim fun u28 hI => hI.elim fun u29 hI => hI.elim fun u30 hI => ?_
          have ha := hI.1
          subst ha
          have hb := hI.2.1
          have g0 := hI.2.2.1
          have g1 := hI.2.2.2.1
          have g2 := hI.2.2.2.2.1
          have g3 := hI.2.2.2.2.2.1
          have g4 := hI.2.2.2.2.2.2.1
          have g5 := hI.2.2.2.2.2.2.2.1
          have g6 := hI.2.2.2.2.2.2.2.2.1
          have g7 := hI.2.2.2.2.2.2.2.2.2.1
          have g8 := hI.2.2.2.2.2.2.2.2.2.2.1
          have g9 := hI.2.2.2.2.2.2.2.2.2.2.2.1
          have g10 := hI.2.2.2.2.2.2.2.2.2.2.2.2.1
          have g11 := hI.2.2.2.2.2.2.2.2.2.2.2.2.2
          clear hI
          simp [Region.binds] at hd
          dsimp only at hK ⊢
          obtain ⟨gq, hg0, hgN, hgB⟩ := g5 (by simp [hd])
          subst hg0
          have cc := (hgB.cell J).trans HBJ.out
          go_simp
          exact hK _ _ ⟨_, _, _, _, _, _, _, _, _, _, rfl, hb, g0, g1, g2, g3, g4, fun _ => ⟨gq, rfl, hgN, hgB⟩, fun _ => rfl, g7, g8, g9, g10, g11⟩
        · intro L a w' hI hl hd K hK
          refine hI.elim fun u21 hI => hI.elim fun u22 hI => hI.elim fun u23 hI => hI.elim fun u24 hI => hI.elim fun u25 hI => hI.elim fun u26 hI => hI.elim fun u27 hI => hI.elim fun u28 hI => hI.elim fun u29 hI => hI.elim fun u30 hI => ?_
          have ha := hI.1
          subst ha
          have hb := hI.2.1
          have g0 := hI.2.2.1
          have g1 := hI.2.2.2.1
          have g2 := hI.2.2.2.2.1
          have g3 := hI.2.2.2.2.2.1
          have g4 := hI.2.2.2.2.2.2.1
          have g5 := hI.2.2.2.2.2.2.2.1
          have g6 := hI.2.2.2.2.2.2.2.2.1
          have g7 := hI.2.2.2.2.2.2.2.2.2.1
          have g8 := hI.2.2.2.2.2.2.2.2.2.2.1
          have g9 := hI.2.2.2.2.2.2.2.2.2.2.2.1
          have g10 := hI.2.2.2.2.2.2.2.2.2.2.2.2.1
          have g11 := hI.2.2.2.2.2.2.2.2.2.2.2.2.2
          clear hI
          simp [Region.binds] at hd
          dsimp only at hK ⊢
          have e6 := g6 (by simp [hd])
          subst e6
          go_simp
          exact hK _ _ ⟨_, _, _, _, _, _, _, _, _, _, rfl, hb, g0, g1, g2, g3, g4, g5, g6, fun _ => rfl, g8, g9, g10, g11⟩
        · intro L a w' hI hl hd K hK
          refine hI.elim fun u21 hI => hI.elim fun u22 hI => hI.elim fun u23 hI => hI.elim fun u24 hI => hI.elim fun u25 hI => hI.elim fun u26 hI => hI.elim fun u27 hI => hI.elim fun u28 hI => hI.elim fun u29 hI => hI.elim fun u30 hI => ?_
          have ha := hI.1
          subst ha
          have hb := hI.2.1
          have g0 := hI.2.2.1
          have g1 := hI.2.2.2.1
          have g2 := hI.2.2.2.2.1
          have g3 := hI.2.2.2.2.2.1
          have g4 := hI.2.2.2.2.2.2.1
          have g5 := hI.2.2.2.2.2.2.2.1
          have g6 := hI.2.2.2.2.2.2.2.2.1
          have g7 := hI.2.2.2.2.2.2.2.2.2.1
          have g8 := hI.2.2.2.2.2.2.2.2.2.2.1
          have g9 := hI.2.2.2.2.2.2.2.2.2.2.2.1
          have g10 := hI.2.2.2.2.2.2.2.2.2.2.2.2.1
          have g11 := hI.2.2.2.2.2.2.2.2.2.2.2.2.2
          clear hI
          simp [Region.binds] at hd
          dsimp only at hK ⊢
          have e7 := g7 (by simp [hd])
          subst e7
          go_simp
          exact hK _ _ ⟨_, _, _, _, _, _, _, _, _, _, rfl, hb, g0, g1, g2, g3, g4, g5, g6, g7, fun _ => rfl, g9, g10, g11⟩
        · intro L a w' hI hl hd K hK
          refine hI.elim fun u21 hI => hI.elim fun u22 hI => hI.elim fun u23 hI => hI.elim fun u24 hI => hI.elim fun u25 hI => hI.elim fun u26 hI => hI.elim fun u27 hI => hI.elim fun u28 hI => hI.elim fun u29 hI => hI.elim fun u30 hI => ?_
          have ha := hI.1
          subst ha
          have hb := hI.2.1
          have g0 := hI.2.2.1
          have g1 := hI.2.2.2.1
          have g2 := hI.2.2.2.2.1
          have g3 := hI.2.2.2.2.2.1
          have g4 := hI.2.2.2.2.2.2.1
          have g5 := hI.2.2.2.2.2.2.2.1
          have g6 := hI.2.2.2.2.2.2.2.2.1
          have g7 := hI.2.2.2.2.2.2.2.2.2.1
          have g8 := hI.2.2.2.2.2.2.2.2.2.2.1
          have g9 := hI.2.2.2.2.2.2.2.2.2.2.2.1
          have g10 := hI.2.2.2.2.2.2.2.2.2.2.2.2.1
          have g11 := hI.2.2.2.2.2.2.2.2.2.2.2.2.2
          clear hI
          simp [Region.binds] at hd
          dsimp only at hK ⊢
          have e0 := g0 (by simp [hd])
          subst e0
          have e8 := g8 (by simp [hd])
          subst e8
          have hB9 := g9
          rw [hl] at hB9
          have HWR := Lib.hid (write_any (B := B) (b := b) (l := L0) (m := M1) ({ data := #[40] } ++ B0 ++ { data := #[32] }) w' hB9 (by rw [← HM1.out]; simp [ByteArray.data_append, HBW.out]) (by rw [ByteArray.size_append, ByteArray.size_append]; show L0.length + (1 + B0.size + 1) ≤ _; omega) (Nat.le_trans hBV g11))
          clear hB9
          go_wp2_with fail
          refine HWR.out.mono ?_
          rintro _ w4 ⟨rfl, hI4, hb4, hk4, hB4⟩
          exact hK _ _ ⟨_, _, _, _, _, _, _, _, _, _, rfl, hb.trans hb4, g0, g1.keepB hk4 (by decide) (by omega), g2, g3, g4, g5.keepB hk4 (by decide) (by omega), g6, g7, g8, hI4, g10.trans hk4, Nat.le_trans g11 hb4.size⟩
      intro a w4 hI
      refine hI.elim fun u21 hI => hI.elim fun u22 hI => hI.elim fun u23 hI => hI.elim fun u24 hI => hI.elim fun u25 hI => hI.elim fun u26 hI => hI.elim fun u27 hI => hI.elim fun u28 hI => hI.elim fun u29 hI => hI.elim fun u30 hI => ?_
      have ha := hI.1
      subst ha
      have hb := hI.2.1
      have g0 := hI.2.2.1
      have g1 := hI.2.2.2.1
      have g2 := hI.2.2.2.2.1
      have g3 := hI.2.2.2.2.2.1
      have g4 := hI.2.2.2.2.2.2.1
      have g5 := hI.2.2.2.2.2.2.2.1
      have g6 := hI.2.2.2.2.2.2.2.2.1
      have g7 := hI.2.2.2.2.2.2.2.2.2.1
      have g8 := hI.2.2.2.2.2.2.2.2.2.2.1
      have g9 := hI.2.2.2.2.2.2.2.2.2.2.2.1
      have g10 := hI.2.2.2.2.2.2.2.2.2.2.2.2.1
      have g11 := hI.2.2.2.2.2.2.2.2.2.2.2.2.2
      clear hI
      have I4 := Lib.hid (show IsB B b (Lib.byteCells M1) w4 from g9)
      have B4 := Lib.hid (VB.out.trans hb)
      have K4 := Lib.hid (VK.out.trans g10)
      have Z4 := Lib.hid (V0.out.trans (hb.mono H0B.out))
      have S4 := Lib.hid (g10 _ _ _ (by omega) (by decide) VS.out)
      have N4 := Lib.hid (g10 _ _ _ (by omega) (by decide) VN.out)
      have hB4 : B ≤ w4.heap.size := Nat.le_trans hBV g11
      clear g0 g1 g2 g3 g4 g5 g6 g7 g8 g9 g10 g11 hb
      have hxa := List.getElem?_eq_getElem (show ea < p.length by omega)
      have hLa := (siz_txt HK.out.ok ea _ hxa (by omega)).1
      obtain ⟨M2, hM2⟩ : ∃ q, M1 ++ txtI cs p ea = q := ⟨_, rfl⟩
      have HM2 := Lib.hid hM2
      have hM2l : M2.length = M1.length + sizI cs p ea := by rw [← hM2, List.length_append, hLa]
      clear hxa hLa
      have HN2 := Lib.hid hM2l
      have hM2b : M2.length ≤ L0.length + 2 + (wordP x.op).length + sizI cs p ea := by omega
      clear hM2l
      have HRC := Lib.hid (IH.out ea (by omega) (by omega) (by omega) M1 w4 Z4.out hB4 I4.out (by omega))
      rw [hM2] at HRC
      have bb := N4.out
      have n0 := bb.cell 0
      have n1 := bb.cell 1
      have n2 := bb.cell 2
      have n3 := bb.cell 3
      have n4 := bb.cell 4
      have n5 := bb.cell 5
      have n6 := bb.cell 6
      have n7 := bb.cell 7
      simp only [List.getElem?_toArray, List.getElem?_cons_zero, List.getElem?_cons_succ] at n0 n1 n2 n3 n4 n5 n6 n7
      clear bb
      have bb := S4.out
      have s0 := bb.cell 0
      have s1 := bb.cell 1
      simp only [List.getElem?_toArray, List.getElem?_cons_zero, List.getElem?_cons_succ] at s0 s1
      clear bb
      rw [HEA.out] at n6
      go_wp2_with fail
      refine HRC.out.mono ?_
      rintro _ w5 ⟨rfl, hI, hb, hkk, hB5⟩
      have I5 := Lib.hid hI
      have B5 := Lib.hid (B4.out.trans hb)
      have K5 := Lib.hid (K4.out.trans hkk)
      have Z5 := Lib.hid (Z4.out.trans (hb.mono H0B.out))
      have S5 := Lib.hid (hkk _ _ _ (by omega) (by decide) S4.out)
      have N5 := Lib.hid (hkk _ _ _ (by omega) (by decide) N4.out)
      clear hI hb hkk HRC
      clear n0 n1 n2 n3 n4 n5 n6 n7
      clear s0 s1
      clear hM2
      by_cases h11 : x.op = 11
      · have HTX := Lib.hid (show txtI cs p i = [40, 110, 111, 116, 32] ++ txtI cs p ea ++ [41] by have h := txt_not (cs := cs) HX.out h11 (by omega); rw [hta] at h; exact h)
        have HW11 := Lib.hid (show wordP x.op = [110, 111, 116] by rw [h11]; rfl)
        have q11 : (x.op != 11) = false := by simp [h11]
        clear h11 hta
        have bb := N5.out
        have n0 := bb.cell 0
        have n1 := bb.cell 1
        have n2 := bb.cell 2
        have n3 := bb.cell 3
        have n4 := bb.cell 4
        have n5 := bb.cell 5
        have n6 := bb.cell 6
        have n7 := bb.cell 7
        simp only [List.getElem?_toArray, List.getElem?_cons_zero, List.getElem?_cons_succ] at n0 n1 n2 n3 n4 n5 n6 n7
        clear bb
        go_upto_region 9 with (fail)
        clear n0 n1 n2 n3 n4 n5 n6 n7
        have HWR := Lib.hid (write_any (B := B) (b := b) (l := M2) (m := (L0 ++ txtI cs p i)) { data := #[41] } w5 I5.out (by rw [← HM2.out, ← HM1.out, HTX.out, HW11.out]; simp) (by show M2.length + 1 ≤ _; omega) hB5)
        go_wp2_with fail
        refine HWR.out.mono ?_
        rintro _ w6 ⟨rfl, hI, hb, hkk, hB6⟩
        have I6 := Lib.hid hI
        have B6 := Lib.hid (B5.out.trans hb)
        have K6 := Lib.hid (K5.out.trans hkk)
        have Z6 := Lib.hid (Z5.out.trans (hb.mono H0B.out))
        clear hI hb hkk HWR
        go_wp2
        go_end0
        exact ⟨rfl, I6.out, B6.out, K6.out, hB6⟩
      · obtain ⟨b0, b1⟩ := hb h11
        obtain ⟨eb, heb⟩ := Int.eq_ofNat_of_zero_le b0
        have hbk : eb < i := by omega
        have htb : x.b.toNat = eb := by omega
        have hs2 := hs2 h11
        rw [htb] at hs2
        have HTX := Lib.hid (show txtI cs p i = (40 :: wordP x.op ++ [32]) ++ txtI cs p ea ++ [32] ++ txtI cs p eb ++ [41] by have h := txt_two (cs := cs) HX.out (by omega) h11 (by omega) (by omega); rw [hta, htb] at h; exact h)
        have HEB := Lib.hid (show x.b = (eb : Int) from heb)
        have q11 : (x.op != 11) = true := by simpa using h11
        clear h11 hta htb heb b0 b1 hb h9
        have bb := N5.out
        have n0 := bb.cell 0
        have n1 := bb.cell 1
        have n2 := bb.cell 2
        have n3 := bb.cell 3
        have n4 := bb.cell 4
        have n5 := bb.cell 5
        have n6 := bb.cell 6
        have n7 := bb.cell 7
        simp only [List.getElem?_toArray, List.getElem?_cons_zero, List.getElem?_cons_succ] at n0 n1 n2 n3 n4 n5 n6 n7
        clear bb
        go_upto_region 7 with (fail)
        clear n0 n1 n2 n3 n4 n5 n6 n7
        obtain ⟨M3, hM3⟩ : ∃ q, M2 ++ [32] = q := ⟨_, rfl⟩
        have HM3 := Lib.hid hM3
        have hM3l : M3.length = M2.length + 1 := by rw [← hM3, List.length_append]; rfl
        have hM3b : M3.length ≤ L0.length + 3 + (wordP x.op).length + sizI cs p ea := by omega
        clear hM3 hM3l
        have HWR := Lib.hid (write_any (B := B) (b := b) (l := M2) (m := M3) { data := #[32] } w5 I5.out (by exact HM3.out) (by show M2.length + 1 ≤ _; omega) hB5)
        go_wp2_with fail
        refine HWR.out.mono ?_
        rintro _ w6 ⟨rfl, hI, hb, hkk, hB6⟩
        have I6 := Lib.hid hI
        have B6 := Lib.hid (B5.out.trans hb)
        have K6 := Lib.hid (K5.out.trans hkk)
        have Z6 := Lib.hid (Z5.out.trans (hb.mono H0B.out))
        have S6 := Lib.hid (hkk _ _ _ (by omega) (by decide) S5.out)
        have N6 := Lib.hid (hkk _ _ _ (by omega) (by decide) N5.out)
        clear hI hb hkk HWR
        have hxb := List.getElem?_eq_getElem (show eb < p.length by omega)
        have hLb := (siz_txt HK.out.ok eb _ hxb (by omega)).1
        obtain ⟨M4, hM4⟩ : ∃ q, M3 ++ txtI cs p eb = q := ⟨_, rfl⟩
        have HM4 := Lib.hid hM4
        have hM4l : M4.length = M3.length + sizI cs p eb := by rw [← hM4, List.length_append, hLb]
        have hM4b : M4.length ≤ L0.length + 3 + (wordP x.op).length + sizI cs p ea + sizI cs p eb := by omega
        clear hxb hLb hM4l
        have HRC := Lib.hid (IH.out eb (by omega) (by omega) (by omega) M3 w6 Z6.out hB6 I6.out (by omega))
        rw [hM4] at HRC
        have bb := N6.out
        have n0 := bb.cell 0
        have n1 := bb.cell 1
        have n2 := bb.cell 2
        have n3 := bb.cell 3
        have n4 := bb.cell 4
        have n5 := bb.cell 5
        have n6 := bb.cell 6
        have n7 := bb.cell 7
        simp only [List.getElem?_toArray, List.getElem?_cons_zero, List.getElem?_cons_succ] at n0 n1 n2 n3 n4 n5 n6 n7
        clear bb
        have bb := S6.out
        have s0 := bb.cell 0
        have s1 := bb.cell 1
        simp only [List.getElem?_toArray, List.getElem?_cons_zero, List.getElem?_cons_succ] at s0 s1
        clear bb
        rw [HEB.out] at n7
        go_wp2_with fail
        refine HRC.out.mono ?_
        rintro _ w7 ⟨rfl, hI, hb, hkk, hB7⟩
        have I7 := Lib.hid hI
        have B7 := Lib.hid (B6.out.trans hb)
        have K7 := Lib.hid (K6.out.trans hkk)
        have Z7 := Lib.hid (Z6.out.trans (hb.mono H0B.out))
        have S7 := Lib.hid (hkk _ _ _ (by omega) (by decide) S6.out)
        have N7 := Lib.hid (hkk _ _ _ (by omega) (by decide) N6.out)
        clear hI hb hkk HRC
        clear n0 n1 n2 n3 n4 n5 n6 n7
        clear s0 s1
        clear hM4
        have HWR := Lib.hid (write_any (B := B) (b := b) (l := M4) (m := (L0 ++ txtI cs p i)) { data := #[41] } w7 I7.out (by rw [← HM4.out, ← HM3.out, ← HM2.out, ← HM1.out, HTX.out]; simp) (by show M4.length + 1 ≤ _; omega) hB7)
        go_wp2_with fail
        refine HWR.out.mono ?_
        rintro _ w8 ⟨rfl, hI, hb, hkk, hB8⟩
        have I8 := Lib.hid hI
        have B8 := Lib.hid (B7.out.trans hb)
        have K8 := Lib.hid (K7.out.trans hkk)
        have Z8 := Lib.hid (Z7.out.trans (hb.mono H0B.out))
        clear hI hb hkk HWR
        go_wp2
        go_end0
        exact ⟨rfl, I8.out, B8.out, K8.out, hB8⟩
end Go.Proofs.YtjnamjkdjcndiaaGreatDoor
