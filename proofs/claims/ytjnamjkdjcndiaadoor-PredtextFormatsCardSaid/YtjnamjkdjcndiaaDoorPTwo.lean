/-
  law22.two, nodes, text, awake, formats.
-/
import Derived.Test.YtjnamjkdjcndiaaDoorRFmt
namespace Go.Proofs.YtjnamjkdjcndiaaDoor
open Go.RowKit Go.Sort
def cId : Col := ⟨{ data := #[105, 100] }, 1, 0, false⟩
def cPr : Col := ⟨{ data := #[112, 114, 105, 99, 101] }, 5, 2, true⟩
def twoC : List Col := [cId, cPr]
def vz : Vl := ⟨false, 0, { data := #[] }⟩
def nd22 (op col n a b : Int) : Nd := ⟨op, col, ⟨false, n, { data := #[] }⟩, [], a, b⟩
def nodesP : List Nd := [nd22 6 0 3 0 0, nd22 8 1 0 0 0, nd22 11 0 0 1 0, nd22 9 0 0 0 2]
def text22 : List UInt8 := [40, 97, 110, 100, 32, 40, 103, 101, 32, 105, 100, 32, 51, 41, 32, 40, 110, 111, 116, 32, 40, 110, 117, 108, 108, 32, 112, 114, 105, 99, 101, 41, 41, 41]
theorem two_chk : schkV twoC 0 = 0 := by decide +kernel
theorem nodes_chk : pchkV twoC 0 nodesP = 0 := by decide +kernel
theorem blk_slN {w : World} {g n sz : Nat} {t : TypeId} {cs : Array Value} (h : Blk w g t cs) (hn : cs.toList.length = n * sz) (hm : n ≤ maxLen) : Sl w sz (.slice (some ⟨g, 0, none⟩) n n) n cs.toList :=
  ⟨_, n, rfl, Nat.le_refl _, hm, hn, fun _ => ⟨_, rfl, h.lt, fun j u hj => by
    rw [Addr.add_lit, h.cell (0 + j), Nat.zero_add]; rw [← Array.getElem?_toList]; exact hj⟩⟩
def RetTwo (w : World) (e : Ending) (w' : World) : Prop := ∃ g, e = .returned (.agg #[.slice (some ⟨g, 0, none⟩) 2 2, .int .i64 0]) ∧ Sl w' 4 (.slice (some ⟨g, 0, none⟩) 2 2) 2 (cols twoC) ∧ Below w.heap.size w w'
set_option maxRecDepth 100000 in
set_option maxHeartbeats 8000000 in
theorem two_any (w : World) : Calls Tryd.prog 11 #[] w (RetTwo w) := by
  obtain ⟨W2, hW⟩ : ∃ W, W = (w.alloc (.cells #[.slice (some ⟨w.heap.size + 1, 0, none⟩) 2 2, .int .i64 0] 24)).alloc (.cells #[.string { data := #[105, 100] }, .int .i64 1, .int .i64 0, .bool false, .string { data := #[112, 114, 105, 99, 101] }, .int .i64 5, .int .i64 2, .bool true] 47) := ⟨_, rfl⟩
  have hb0 : Below w.heap.size w W2 := by rw [hW]; exact abelS _ _ _
  have BR := Lib.hid (show Blk W2 w.heap.size 24 #[.slice (some ⟨w.heap.size + 1, 0, none⟩) 2 2, .int .i64 0] by rw [hW]; exact (Blk.new _ _ _).alloc _)
  have BC := Lib.hid (show Blk W2 (w.heap.size + 1) 47 #[.string { data := #[105, 100] }, .int .i64 1, .int .i64 0, .bool false, .string { data := #[112, 114, 105, 99, 101] }, .int .i64 5, .int .i64 2, .bool true] by rw [hW]; have h := Blk.new (w.alloc (.cells #[.slice (some ⟨w.heap.size + 1, 0, none⟩) 2 2, .int .i64 0] 24)) 47 #[.string { data := #[105, 100] }, .int .i64 1, .int .i64 0, .bool false, .string { data := #[112, 114, 105, 99, 101] }, .int .i64 5, .int .i64 2, .bool true]; simpa using h)
  have HB0 := Lib.hid hb0
  have d0 := BR.out.cell 0
  have d1 := BR.out.cell 1
  simp only [List.getElem?_toArray, List.getElem?_cons_zero, List.getElem?_cons_succ] at d0 d1
  clear hb0
  go_enter Tryd.func11, Tryd.ntmps11
  go_wp2
  try rw [← hW]
  exact bodyPost_ret (v := .agg #[.slice (some ⟨w.heap.size + 1, 0, none⟩) 2 2, .int .i64 0]) (by simp [results, Tryd.results11, go_sem, d0, d1]) rfl ⟨_, rfl, blk_slN (cs := #[.string { data := #[105, 100] }, .int .i64 1, .int .i64 0, .bool false, .string { data := #[112, 114, 105, 99, 101] }, .int .i64 5, .int .i64 2, .bool true]) BC.out rfl (by decide), HB0.out⟩
theorem SlNd.of_blk {w : World} {g : Nat} {t : TypeId} {cs : Array Value} {l : List Nd} (h : Blk w g t cs) (hc : cs.toList = nds l (l.map fun _ => .slice none 0 0)) (hl : ∀ x ∈ l, x.l = []) (hm : l.length ≤ maxLen) : SlNd w (.slice (some ⟨g, 0, none⟩) l.length l.length) l := by
  refine ⟨l.map fun _ => .slice none 0 0, List.length_map .., ?_, fun k x u hk hu => ?_⟩
  · rw [← hc]
    exact blk_slN h (by rw [hc, nds_length (by simp)]) hm
  · rw [List.getElem?_map, hk] at hu
    injection hu with hu
    subst hu
    rw [hl x (List.mem_of_getElem? hk)]
    exact Sl.nil w 3
def RetNds (w : World) (l : List Nd) (e : Ending) (w' : World) : Prop := ∃ v, e = .returned v ∧ SlNd w' v l ∧ Below w.heap.size w w'
set_option maxRecDepth 100000 in
set_option maxHeartbeats 8000000 in
theorem nodes_any (w : World) : Calls Tryd.prog 14 #[] w (RetNds w nodesP) := by
  go_enter Tryd.func14, Tryd.ntmps14
  go_wp2
  go_ret
  exact ⟨_, rfl, SlNd.of_blk (l := nodesP) (Blk.new _ _ _) rfl (by intro x hx; simp [nodesP, nd22] at hx; rcases hx with rfl | rfl | rfl | rfl <;> rfl) (by decide), (Below.refl _ _).alloc (Nat.le_refl _) _⟩
theorem text_any (w : World) : Calls Tryd.prog 15 #[] w fun e w' => e = .returned (.string ⟨text22.toArray⟩) ∧ w = w' := by
  go_enter Tryd.func15, Tryd.ntmps15
  go_wp2
  go_ret
  exact ⟨rfl, rfl⟩
theorem two_bd {p : List Nd} (hl : p.length ≤ 1000) (hp : ∀ x ∈ p, VR x.v) (he : ∀ x ∈ p, x.l = []) : PBd twoC p :=
  ⟨by decide, by omega, fun c hc => by simp [twoC] at hc; rcases hc with rfl | rfl <;> decide, hp, fun x hx e h => by rw [he x hx] at h; simp at h⟩
theorem vr_small {n : Int} (h0 : 0 ≤ n) (h1 : n ≤ 1000) : VR ⟨false, n, { data := #[] }⟩ := ⟨by show -9223372036854775808 ≤ n; omega, by show n ≤ 9223372036854775807; omega, Nat.zero_le _⟩
theorem nodes_bd : PBd twoC nodesP := two_bd (by decide) (fun x hx => by simp [nodesP, nd22] at hx; rcases hx with rfl | rfl | rfl | rfl <;> exact vr_small (by decide) (by decide)) (fun x hx => by simp [nodesP, nd22] at hx; rcases hx with rfl | rfl | rfl | rfl <;> rfl)
theorem three_txt : vtxt cId ⟨false, 3, { data := #[] }⟩ = [51] := by
  have e : fmtV 1 0 true false 3 { data := #[] } = (Lib.itoa 3, 0) := by
    unfold fmtV
    rw [if_neg (by decide), show checkV 1 true false 3 { data := #[] } = 0 by decide +kernel, if_neg (by decide), if_neg (by decide), if_neg (by decide), if_neg (by decide), if_neg (by decide), if_neg (by decide)]
  show (fmtV 1 0 true false 3 { data := #[] }).1 = _
  rw [e]; decide +kernel
theorem n0_txt : txtI twoC nodesP 0 = [40, 103, 101, 32, 105, 100, 32, 51, 41] := by
  rw [txt_leaf (cs := twoC) (p := nodesP) (i := 0) (x := nd22 6 0 3 0 0) rfl (by decide)]
  show leafC cId (nd22 6 0 3 0 0) = _
  unfold leafC
  have : vtxts cId (valsP (nd22 6 0 3 0 0)) = [32, 51] := by
    show (32 :: vtxt cId ⟨false, 3, { data := #[] }⟩) ++ [] = _
    rw [three_txt]; rfl
  rw [this]; rfl
theorem n1_txt : txtI twoC nodesP 1 = [40, 110, 117, 108, 108, 32, 112, 114, 105, 99, 101, 41] := by
  rw [txt_leaf (cs := twoC) (p := nodesP) (i := 1) (x := nd22 8 1 0 0 0) rfl (by decide)]; rfl
theorem nodes_txt : txtI twoC nodesP 3 = text22 := by
  have h2 := txt_not (cs := twoC) (p := nodesP) (i := 2) (x := nd22 11 0 0 1 0) rfl rfl (by decide)
  rw [show (nd22 11 0 0 1 0).a.toNat = 1 from rfl, n1_txt] at h2
  rw [txt_two (x := nd22 9 0 0 0 2) rfl (by decide) (by decide) (by decide) (by decide), show (nd22 9 0 0 0 2).a.toNat = 0 from rfl, show (nd22 9 0 0 0 2).b.toNat = 2 from rfl, n0_txt, h2]
  rfl
theorem nodes_siz : sizI twoC nodesP 3 ≤ 65536 := by
  have hok := (pchk_ok nodes_chk).2
  have s0 : sizI twoC nodesP 0 = 9 := by rw [siz_leaf (x := nd22 6 0 3 0 0) rfl (by decide), ← txt_leaf (cs := twoC) (p := nodesP) (i := 0) (x := nd22 6 0 3 0 0) rfl (by decide), n0_txt]; rfl
  have s1 : sizI twoC nodesP 1 = 12 := by rw [siz_leaf (x := nd22 8 1 0 0 0) rfl (by decide), ← txt_leaf (cs := twoC) (p := nodesP) (i := 1) (x := nd22 8 1 0 0 0) rfl (by decide), n1_txt]; rfl
  have s2 := siz_not (cs := twoC) (p := nodesP) (i := 2) (x := nd22 11 0 0 1 0) rfl rfl (by decide)
  rw [show (nd22 11 0 0 1 0).a.toNat = 1 from rfl, s1] at s2
  rw [siz_two (x := nd22 9 0 0 0 2) rfl (by decide) (by decide) (by decide) (by decide), show (nd22 9 0 0 0 2).a.toNat = 0 from rfl, show (nd22 9 0 0 0 2).b.toNat = 2 from rfl, s0, s2]
  decide
theorem nodes_fmt : fmtP twoC 0 nodesP = (text22, 0) := by
  rw [fmtP_text (m := 3) nodes_chk rfl (by have := nodes_siz; omega), nodes_txt]
set_option maxRecDepth 100000 in
set_option maxHeartbeats 8000000 in
theorem awake22_any (w : World) (ht : Tab w) : Calls Tryd.prog 6 #[] w fun e w' => e = .returned (.bool true) ∧ Below w.heap.size w w' := by
  have HT := Lib.hid ht
  have HX := Lib.hid (text_any)
  obtain ⟨T, hT⟩ : ∃ T : ByteArray, (⟨text22.toArray⟩ : ByteArray) = T := ⟨_, rfl⟩
  rw [hT] at HX
  have q1 : (T.toList == T.toList) = true := by simp
  clear ht
  go_enter Tryd.func6, Tryd.ntmps6
  go_wp2_with fail
  refine (two_any w).mono ?_
  rintro _ w1 ⟨g, rfl, hS, hb1⟩
  have HS := Lib.hid hS
  have B1 := Lib.hid hb1
  clear hS hb1
  go_wp2_with fail
  refine (nodes_any w1).mono ?_
  rintro _ w2 ⟨v2, rfl, hN, hb2⟩
  have HF := Lib.hid (pfmt_any _ v2 0 twoC nodesP w2 ⟨HT.out.below (bst B1.out hb2), HS.out.below hb2, hN⟩ nodes_bd)
  rw [nodes_fmt] at HF
  unfold RetDec at HF
  simp only [hT] at HF
  have B2 := Lib.hid (bst B1.out hb2)
  obtain ⟨A2, c2, rfl, _, _⟩ := hN.form
  clear hN hb2 hT
  go_wp2_with fail
  refine HF.out.mono ?_
  rintro _ w3 ⟨rfl, hb3⟩
  have B3 := Lib.hid (bst B2.out hb3)
  clear hb3 HF
  go_wp2_with fail
  refine (HX.out w3).mono ?_
  rintro _ _ ⟨rfl, rfl⟩
  go_wp2
  go_ret
  exact ⟨rfl, B3.out⟩
set_option maxRecDepth 100000 in
set_option maxHeartbeats 8000000 in
theorem formats22_any (v pv : Value) (key : Int) (cs : List Col) (p : List Nd) (w : World) (he : PEnv w v cs pv p) (hd : PBd cs p) :
    Calls Tryd.prog 7 #[.agg #[v, .int .i64 key], pv] w fun e w' => e = .returned (.bool true) ∧ Below w.heap.size w w' := by
  obtain ⟨A, cA, rfl, hc1, hc2⟩ := he.hs.form
  obtain ⟨AP, cP, rfl, hc3, hc4⟩ := he.hp.form
  have HE := Lib.hid he
  have HD := Lib.hid hd
  obtain ⟨F, hF⟩ : ∃ F, fmtP cs key p = F := ⟨_, rfl⟩
  obtain ⟨T, hT⟩ : ∃ T : ByteArray, (⟨F.1.toArray⟩ : ByteArray) = T := ⟨_, rfl⟩
  obtain ⟨r, hr⟩ : ∃ r, F.2 = r := ⟨_, rfl⟩
  have q1 : (T.toList == T.toList) = true := by simp
  have q2 : (r == r) = true := by simp
  have HP := Lib.hid (fun X (hX : Below w.heap.size w X) => show Calls Tryd.prog 10 #[.agg #[.slice A cs.length cA, .int .i64 key], .slice AP p.length cP] X (fun e w' => e = .returned (.tuple #[.string T, .int .i64 r]) ∧ Below X.heap.size X w') by
    have h := pfmt_any _ _ key cs p X ⟨he.ht.below hX, he.hs.below hX, he.hp.below hX⟩ hd
    rw [hF] at h; unfold RetDec at h; rw [hT, hr] at h; exact h)
  have HR := Lib.hid (fun X (hX : Below w.heap.size w X) => show Calls Tryd.prog 16 #[.agg #[.slice A cs.length cA, .int .i64 key], .slice AP p.length cP] X (fun e w' => e = .returned (.tuple #[.string T, .int .i64 r]) ∧ Below X.heap.size X w') by
    have h := rfmt_any _ _ key cs p X ⟨he.ht.below hX, he.hs.below hX, he.hp.below hX⟩ hd
    rw [hF] at h; unfold RetDec at h; rw [hT, hr] at h; exact h)
  obtain ⟨N0, hN0⟩ : ∃ N, w.heap.size = N := ⟨_, rfl⟩
  obtain ⟨W, hW⟩ : ∃ W, W = w.alloc (.cells #[.slice A cs.length cA, .int .i64 key] 24) := ⟨_, rfl⟩
  have hb0 : Below w.heap.size w W := by rw [hW]; exact (Below.refl _ _).alloc (Nat.le_refl _) _
  have BS := Lib.hid (show Blk W N0 24 #[.slice A cs.length cA, .int .i64 key] by rw [hW, ← hN0]; exact Blk.new _ _ _)
  have HB0 := Lib.hid hb0
  clear he hd hF hT hr hb0
  go_enter Tryd.func7, Tryd.ntmps7
  go_upto_region 1 with (fail)
  rw [← hW]
  try simp only [hN0]
  clear hW
  have s0 := BS.out.cell 0
  have s1 := BS.out.cell 1
  simp only [List.getElem?_toArray, List.getElem?_cons_zero, List.getElem?_cons_succ] at s0 s1
  go_wp2_with fail
  refine (HP.out _ HB0.out).mono ?_
  rintro _ w1 ⟨rfl, hb1⟩
  have B1 := Lib.hid (bst HB0.out hb1)
  have BS1 := Lib.hid (BS.out.below hb1 BS.out.lt)
  clear hb1 s0 s1
  have s0 := BS1.out.cell 0
  have s1 := BS1.out.cell 1
  simp only [List.getElem?_toArray, List.getElem?_cons_zero, List.getElem?_cons_succ] at s0 s1
  go_wp2_with fail
  refine (HR.out _ B1.out).mono ?_
  rintro _ w2 ⟨rfl, hb2⟩
  have B2 := Lib.hid (bst B1.out hb2)
  clear hb2 s0 s1
  go_wp2
  go_ret
  exact ⟨rfl, B2.out⟩
end Go.Proofs.YtjnamjkdjcndiaaDoor
