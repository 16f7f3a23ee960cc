/-
  The contract of predtext.Format.
-/
import Derived.Test.YtjnamjkdjcndiaaDoorPText
import Derived.Test.YtjnamjkdjcndiaaDoorPChk
namespace Go.Proofs.YtjnamjkdjcndiaaDoor
open Go.RowKit Go.Sort

/-- Strings and numbers as large as a machine has them. -/
structure PBd (cs : List Col) (p : List Nd) : Prop where
  cl : cs.length ≤ 9223372036854775807
  pl : p.length ≤ 9223372036854775807
  nm : ∀ c ∈ cs, c.nm.size ≤ 9223372036854775807
  rv : ∀ x ∈ p, VR x.v
  rl : ∀ x ∈ p, ∀ e ∈ x.l, VR e
theorem PBd.pok {cs : List Col} {key : Int} {p : List Nd} (h : PBd cs p) (hc : pchkV cs key p = 0) : POk cs p := by
  obtain ⟨h1, h2⟩ := pchk_ok hc
  obtain ⟨_, v2, v3, _, _⟩ := schk_valid h1
  exact ⟨h2, v2, v3, h.rv, h.rl⟩
theorem fmtP_err {cs : List Col} {key : Int} {p : List Nd} (h : pchkV cs key p ≠ 0) : fmtP cs key p = ([], pchkV cs key p) := by unfold fmtP; rw [if_pos h]
theorem fmtP_nil {cs : List Col} {key : Int} {p : List Nd} (h : pchkV cs key p = 0) (h0 : p.length = 0) : fmtP cs key p = ([], 0) := by unfold fmtP; rw [if_neg (by simp [h]), if_pos h0]
theorem fmtP_full {cs : List Col} {key : Int} {p : List Nd} {m : Nat} (h : pchkV cs key p = 0) (h0 : p.length = m + 1) (hs : 65536 < sizI cs p m) : fmtP cs key p = ([], 7) := by
  unfold fmtP; rw [if_neg (by simp [h]), if_neg (by omega), h0, if_pos (by simpa using hs)]
theorem fmtP_text {cs : List Col} {key : Int} {p : List Nd} {m : Nat} (h : pchkV cs key p = 0) (h0 : p.length = m + 1) (hs : ¬ 65536 < sizI cs p m) : fmtP cs key p = (txtI cs p m, 0) := by
  unfold fmtP; rw [if_neg (by simp [h]), if_neg (by omega), h0, if_neg (by simpa using hs)]; rfl
theorem RetDec.of {w w' : World} {r : List UInt8 × Int} {l : List UInt8} {S : ByteArray} {x : Int} (h : r = (l, x)) (hS : S.data.toList = l) (hb : Below w.heap.size w w') : RetDec w r (.returned (.tuple #[.string S, .int .i64 x])) w' := RetDec.mk_ (by rw [h]; exact hS) (by rw [h]) hb
set_option maxRecDepth 100000 in
set_option maxHeartbeats 8000000 in
theorem pfmt_any (v pv : Value) (key : Int) (cs : List Col) (p : List Nd) (w : World) (he : PEnv w v cs pv p) (hd : PBd cs p) :
    Calls Tryd.prog 10 #[.agg #[v, .int .i64 key], pv] w (RetDec w (fmtP cs key p)) := by
  obtain ⟨A, cA, rfl, hc1, hc2⟩ := he.hs.form
  obtain ⟨AP, cP, rfl, hc3, hc4⟩ := he.hp.form
  have HE := Lib.hid he
  have HD := Lib.hid hd
  have hpl := hd.pl
  obtain ⟨N0, hN0⟩ : ∃ N, w.heap.size = N := ⟨_, rfl⟩
  obtain ⟨W, hW⟩ : ∃ W, W = w.alloc (.cells #[.slice A cs.length cA, .int .i64 key] 24) := ⟨_, rfl⟩
  have hb0 : Below w.heap.size w W := by rw [hW]; exact (Below.refl _ _).alloc (Nat.le_refl _) _
  have BS := Lib.hid (show Blk W N0 24 #[.slice A cs.length cA, .int .i64 key] by rw [hW, ← hN0]; exact Blk.new _ _ _)
  have HB0 := Lib.hid hb0
  have HC := Lib.hid (pchk_any (.slice A cs.length cA) (.slice AP p.length cP) key cs p W (he.hs.below hb0) (he.hp.below hb0) hd.cl hd.pl hd.nm (fun x hx => (hd.rv x hx).2.2) (fun x hx e he => (hd.rl x hx e he).2.2))
  have HF1 := Lib.hid (fmtP_err (cs := cs) (key := key) (p := p))
  have HF2 := Lib.hid (fmtP_nil (cs := cs) (key := key) (p := p))
  have HF3 := Lib.hid (fun m => fmtP_full (cs := cs) (key := key) (p := p) (m := m))
  have HF4 := Lib.hid (fun m => fmtP_text (cs := cs) (key := key) (p := p) (m := m))
  have HPK := Lib.hid (fun h => hd.pok (key := key) h)
  obtain ⟨E, hE⟩ : ∃ E, pchkV cs key p = E := ⟨_, rfl⟩
  rw [hE] at HC HF1 HF2 HF3 HF4 HPK
  clear he hd hb0 hE
  go_enter Tryd.func10, Tryd.ntmps10
  go_upto_region 1 with (fail)
  rw [← hW]
  try simp only [hN0]
  clear hW
  have bb := BS.out
  have s0 := bb.cell 0
  have s1 := bb.cell 1
  simp only [List.getElem?_toArray, List.getElem?_cons_zero, List.getElem?_cons_succ] at s0 s1
  clear bb
  go_wp2_with fail
  refine HC.out.mono ?_
  rintro _ w2 ⟨rfl, hb2⟩
  have HB2 := Lib.hid (bst HB0.out hb2)
  have BS2 := Lib.hid (BS.out.below hb2 BS.out.lt)
  clear hb2 HC
  clear s0 s1
  by_cases hE : E = 0
  case neg =>
    have q1 : (E != 0) = true := by simpa using hE
    have HF := Lib.hid (HF1.out hE)
    clear hE HF1 HF2 HF3 HF4 HPK
    go_wp2
    go_ret2
    exact RetDec.of HF.out rfl HB2.out
  case pos =>
  subst hE
  have HK := Lib.hid (HPK.out rfl)
  by_cases h0 : p.length = 0
  · have q2 : ((p.length : Int) == 0) = true := by simp [h0]
    have q2' : (p.length == 0) = true := by simp [h0]
    have HF := Lib.hid (HF2.out rfl h0)
    clear h0 HF1 HF2 HF3 HF4 HPK
    go_wp2
    go_ret2
    exact RetDec.of HF.out rfl HB2.out
  have q2 : ((p.length : Int) == 0) = false := by rw [beq_eq_false_iff_ne]; omega
  have q2' : (p.length == 0) = false := by simpa using h0
  obtain ⟨m, hm⟩ : ∃ m, p.length = m + 1 := ⟨p.length - 1, by omega⟩
  have hp64 : p.length ≤ 64 := HK.out.ok.len
  have HM := Lib.hid hm
  have wm : IntKind.i64.wrap ((p.length : Int) - 1) = (m : Int) := by rw [hm]; push_cast; rw [show (m : Int) + 1 - 1 = m by omega]; exact IntWalk.i64_in _ (by omega)
  have qm : decide (m < p.length) = true := decide_eq_true (by omega)
  have pm : (m < p.length) = True := eq_true (by omega)
  have hm63 : m ≤ 63 := by omega
  have HLN := Lib.hid (plen_any (.slice A cs.length cA) (.slice AP p.length cP) key cs p w2 ⟨HE.out.ht.below HB2.out, HE.out.hs.below HB2.out, HE.out.hp.below HB2.out⟩ HK.out)
  have hsz := sizI_le cs p m
  clear hm h0
  have bb := BS2.out
  have s0 := bb.cell 0
  have s1 := bb.cell 1
  simp only [List.getElem?_toArray, List.getElem?_cons_zero, List.getElem?_cons_succ] at s0 s1
  clear bb
  go_wp2_with fail
  refine HLN.out.mono ?_
  rintro _ w3 ⟨v3, rfl, hb3, ho3⟩
  obtain ⟨g, cap, hv3⟩ : ∃ g cap, v3 = .slice (some ⟨g, 0, none⟩) p.length cap := by
    rcases ho3.2 with ⟨_, h0⟩ | ⟨g, cap, cur, e0, _⟩
    · exact absurd h0 (by have := HM.out; omega)
    · exact ⟨g, cap, e0⟩
  subst hv3
  have hcell := own_cellI ho3 (szL_get (cs := cs) (p := p) (i := m) (by have := HM.out; omega))
  obtain ⟨sz, hse⟩ : ∃ q, sizI cs p m = q := ⟨_, rfl⟩
  rw [hse] at hcell hsz
  have HSE := Lib.hid hse
  have HB3 := Lib.hid (bst HB2.out hb3)
  have BS3 := Lib.hid (BS2.out.below hb3 BS2.out.lt)
  clear hb3 ho3 HLN hse
  clear s0 s1
  by_cases hfull : 65536 < sz
  · have q3 : decide (65536 < sz) = true := decide_eq_true hfull
    have q3' : decide ((65536 : Int) < (sz : Int)) = true := decide_eq_true (by omega)
    have HF := Lib.hid (HF3.out m (by first | rfl | trivial) HM.out (by rw [HSE.out]; exact hfull))
    clear hfull HF1 HF2 HF3 HF4 HPK
    go_wp2
    go_ret2
    exact RetDec.of HF.out rfl HB3.out
  have q3 : decide (65536 < sz) = false := decide_eq_false hfull
  have q3' : decide ((65536 : Int) < (sz : Int)) = false := decide_eq_false (by omega)
  have HF := Lib.hid (HF4.out m (by first | rfl | trivial) HM.out (by rw [HSE.out]; exact hfull))
  obtain ⟨B, hB⟩ : ∃ B, w3.heap.size = B := ⟨_, rfl⟩
  obtain ⟨X, hX⟩ : ∃ X, X = w3.alloc (.cells #[.pointer none, .slice none 0 0] 57) := ⟨_, rfl⟩
  have hb3X : Below w3.heap.size w3 X := by rw [hX]; exact (Below.refl _ _).alloc (Nat.le_refl _) _
  have bb := Blk.new w3 57 #[.pointer none, .slice none 0 0]
  rw [← hX, hB] at bb
  have XI := Lib.hid (show IsB B B (Lib.byteCells []) X from .inl ⟨Nat.le_refl _, _, bb, World.ownsRow_nil _ _ _ _, by simp [Value.ownBlock]⟩)
  have XB := Lib.hid (bst HB3.out hb3X)
  have XS := Lib.hid (BS3.out.below hb3X BS3.out.lt)
  have hwB : w.heap.size ≤ B := by rw [← hB]; exact HB3.out.size
  have hBX : B ≤ X.heap.size := by rw [← hB]; exact hb3X.size
  have HTX := Lib.hid (ptext_any (.slice A cs.length cA) (.slice AP p.length cP) key cs p w B B HE.out HK.out hwB m (by have := HM.out; omega) (by rw [HSE.out]; omega) [] X XB.out hBX XI.out (by rw [HSE.out]; simp; omega))
  rw [List.nil_append] at HTX
  clear hfull HF1 HF2 HF3 HF4 HPK hb3X bb
  go_upto_region 9 with (fail)
  rw [← hX]
  try simp only [hB]
  clear hX hB hcell
  have bb := XS.out
  have s0 := bb.cell 0
  have s1 := bb.cell 1
  simp only [List.getElem?_toArray, List.getElem?_cons_zero, List.getElem?_cons_succ] at s0 s1
  clear bb
  go_wp2_with fail
  refine HTX.out.mono ?_
  rintro _ w4 ⟨rfl, hI4, hb4, _, hB4⟩
  have B4 := Lib.hid (XB.out.trans (hb4.mono hwB))
  have HST := Lib.hid (Tryd.Builder_String_any B B (txtI cs p m) w4 hI4 hB4)
  clear hI4 HTX hb4
  clear s0 s1
  go_wp2_with fail
  refine HST.out.mono ?_
  rintro _ w5 ⟨rfl, hb5⟩
  have B5 := Lib.hid (B4.out.trans (hb5.mono hwB))
  clear hb5 HST
  go_wp2
  go_ret2
  exact RetDec.of HF.out (by simp) B5.out
end Go.Proofs.YtjnamjkdjcndiaaDoor
