/-
  The contract of schema.Parse.
-/
import Derived.Test.YtojfhlppiicpbaaDoorSCol
import Derived.Test.YtojfhlppiicpbaaDoorCollect
namespace Go.Proofs.YtojfhlppiicpbaaDoor
open Go.RowKit Go.Sort
set_option linter.unusedVariables false
/-- A schema, a line and an error. -/
def RetSp (w : World) (r : SRes) (e : Ending) (w' : World) : Prop := ∃ v : Value, e = .returned (.tuple #[.agg #[v, .int .i64 r.1.2], .int .i64 r.2.1, .int .i64 r.2.2]) ∧ Sl w' 4 v r.1.1.length (cols r.1.1) ∧ Below w.heap.size w w'
theorem RetSp.err {w w' : World} {r : SRes} {x y : Int} (h : r = (([], 0), x, y)) (hb : Below w.heap.size w w') : RetSp w r (.returned (.tuple #[.agg #[.slice none 0 0, .int .i64 0], .int .i64 x, .int .i64 y])) w' := by
  subst h; exact ⟨_, rfl, Sl.nil _ _, hb⟩
theorem RetSp.ok {w w' : World} {r : SRes} {v : Value} {l : List Col} {key : Int} (h : r = ((l, key), 0, 0)) (hs : Sl w' 4 v l.length (cols l)) (hb : Below w.heap.size w w') : RetSp w r (.returned (.tuple #[.agg #[v, .int .i64 key], .int .i64 0, .int .i64 0])) w' := by
  subst h; exact ⟨_, rfl, hs, hb⟩
theorem blk2S {w : World} {A : Nat} {T : TypeId} {x y : Value} (a b : Value) (h : Blk w A T #[x, y]) : Blk ((w.setCell ⟨A, 0, none⟩ a).setCell ⟨A, 1, none⟩ b) A T #[a, b] := (h.set_ 0 a).set_ 1 b
theorem blkS1 {w : World} {A : Nat} {T : TypeId} {x y : Value} (b : Value) (h : Blk w A T #[x, y]) : Blk (w.setCell ⟨A, 1, none⟩ b) A T #[x, b] := h.set_ 1 b
theorem blkS0 {w : World} {A : Nat} {T : TypeId} {x y : Value} (b : Value) (h : Blk w A T #[x, y]) : Blk (w.setCell ⟨A, 0, none⟩ b) A T #[b, y] := h.set_ 0 b
theorem below2S {w w' : World} {A B : Nat} (a b : Value) (h : Below B w w') (hB : B ≤ A) : Below B w ((w'.setCell ⟨A, 0, none⟩ a).setCell ⟨A, 1, none⟩ b) := (h.setCell (p := ⟨A, 0, none⟩) hB a).setCell (p := ⟨A, 1, none⟩) hB b
theorem sl_blk1 {w : World} {g : Nat} {T : TypeId} {us : List ByteArray} (h : Blk w g T (strV us).toArray) (hl : us.length ≤ maxLen) : Sl w 1 (.slice (some ⟨g, 0, none⟩) us.length us.length) us.length (strV us) :=
  ⟨some ⟨g, 0, none⟩, us.length, rfl, Nat.le_refl _, hl, by rw [strV_length, Nat.mul_one], fun _ => ⟨_, rfl, h.lt, fun j u hj => by
    have e1 : (⟨g, 0, none⟩ : Addr).add j = ⟨g, j, none⟩ := by unfold Addr.add; split <;> simp_all
    rw [e1, h.cell j]; simpa using hj⟩⟩
def strLenV : Value → Nat
  | .string x => x.size
  | _ => 0
theorem colV_nm {W : List (List UInt8)} {c : Col} (h : colV W = some c) : ∃ a ∈ W, c.nm = mkS a := by
  match W, h with
  | [], h => cases h
  | [a], h => cases h
  | a :: b :: r, h =>
    refine ⟨a, by simp, ?_⟩
    unfold colV at h
    by_cases h0 : tyN b = 0
    · simp only [if_pos h0] at h; cases h
    · simp only [if_neg h0] at h
      by_cases h5 : tyN b = 5
      · simp only [if_pos h5] at h
        match r, h with
        | [], h => cases h
        | k :: q, h =>
          cases hs : scaV k with
          | none => simp only [hs] at h; cases h
          | some n =>
            cases hu : nuV q with
            | none => simp only [hs, hu] at h; cases h
            | some u => simp only [hs, hu] at h; exact (Option.some.inj h) ▸ rfl
      · simp only [if_neg h5] at h
        cases hu : nuV r with
        | none => simp only [hu] at h; cases h
        | some u => simp only [hu] at h; exact (Option.some.inj h) ▸ rfl
theorem splitC_len (c : UInt8) : ∀ (l : List UInt8), ∀ x ∈ splitC c l, x.length ≤ l.length
  | [], x, h => by simp [splitC] at h; subst h; simp
  | y :: r, x, h => by
    unfold splitC at h
    split at h
    · rcases List.mem_cons.1 h with rfl | h
      · simp
      · have := splitC_len c r x h; simp; omega
    · split at h
      · simp at h; subst h; simp
      · rename_i hd tl heq
        rcases List.mem_cons.1 h with rfl | h
        · have := splitC_len c r hd (by rw [heq]; simp); simp; omega
        · have := splitC_len c r x (by rw [heq]; simp [h]); simp; omega
theorem splitC_cnt (c : UInt8) : ∀ (l : List UInt8), (splitC c l).length ≤ l.length + 1
  | [] => by simp [splitC]
  | y :: r => by
    have := splitC_cnt c r
    unfold splitC
    split
    · simp; omega
    · split
      · simp
      · rename_i hd tl heq; rw [heq] at this; simp at this ⊢; omega
theorem cont_nil {W : List (List UInt8)} : Lib.containsS (W.map mkS) { data := #[] } = true ↔ [] ∈ W := by
  rw [Lib.containsS_iff, List.mem_map]
  constructor
  · rintro ⟨x, hx, e⟩
    have : x = [] := by rw [← mkS_data x, e]
    rw [← this]; exact hx
  · intro h; exact ⟨[], h, rfl⟩
theorem isKey_two {W : List (List UInt8)} (h : isKey W = true) : ∃ b, W = [keyW, b] := by
  unfold isKey at h
  split at h
  · rename_i a b; rw [decide_eq_true_eq] at h; exact ⟨b, by rw [h]⟩
  · cases h
theorem isKey_no {W : List (List UInt8)} (h : isKey W = false) : W.length ≠ 2 ∨ ∃ a b, W = [a, b] ∧ a ≠ keyW := by
  by_cases h2 : W.length = 2
  · right
    match W, h2 with
    | [a, b], _ => exact ⟨a, b, rfl, by unfold isKey at h; rwa [decide_eq_false_iff_not] at h⟩
  · exact .inl h2
set_option maxRecDepth 100000 in
set_option maxHeartbeats 8000000 in
theorem spar_any (s : ByteArray) (w : World) (hE : Env w) (hs : s.size ≤ 140737488351232) :
    Calls Tryd.prog 13 #[.string s] w (RetSp w (sparV s.data.toList)) := by
  have hlenS := sizeD s
  obtain ⟨RES, hRES⟩ : ∃ r, r = sparV s.data.toList := ⟨_, rfl⟩
  rw [← hRES]
  have hbR0 := below_new w (.cells #[.slice none 0 0, .int .i64 0] 34)
  have bR0 := Blk.new w 34 #[.slice none 0 0, .int .i64 0]
  obtain ⟨W1, hW1⟩ : ∃ X, X = w.alloc (.cells #[.slice none 0 0, .int .i64 0] 34) := ⟨_, rfl⟩
  have hz1 : W1.heap.size = w.heap.size + 1 := by rw [hW1]; simp
  rw [← hW1] at hbR0 bR0
  obtain ⟨R, hR⟩ : ∃ R, R = w.heap.size := ⟨_, rfl⟩
  rw [← hR] at bR0
  have hRw : w.heap.size ≤ R := by omega
  by_cases hbig : 65536 < s.size
  · have HO := Lib.hid (show RES = (([], 0), 0, 7) by rw [hRES]; unfold sparV; rw [if_pos (by omega)])
    have HBR := Lib.hid bR0
    have HBL := Lib.hid hbR0
    have big : (65536 : Int) < s.size := by omega
    have R0 : W1.cell? ⟨R, 0, none⟩ = some (.slice none 0 0) := HBR.out.cell 0
    have R1 : W1.cell? ⟨R, 1, none⟩ = some (.int .i64 0) := HBR.out.cell 1
    have f0 := HBR.out.frozen 0
    have f1 := HBR.out.frozen 1
    clear hRES hbR0 bR0 hz1 hE
    go_enter Tryd.func13, Tryd.ntmps13
    go_upto_region 1 with (fail)
    rw [← hW1, ← hR]
    clear hW1 hR
    go_wp2
    have b2 := blk2S (.slice none 0 0) (.int .i64 0) HBR.out
    have q0 : _ = some (Value.slice none 0 0) := b2.cell 0
    have q1 : _ = some (Value.int .i64 0) := b2.cell 1
    exact bodyPost_ret (v := .tuple #[.agg #[.slice none 0 0, .int .i64 0], .int .i64 0, .int .i64 7]) (by simp [results, Tryd.results13, go_sem, q0, q1]) rfl (RetSp.err HO.out (below2S _ _ HBL.out hRw))
  have HR := Lib.hid (show goP (s.size + 1) s.data.toList 1 [] [] 0 = RES by rw [hRES]; unfold sparV; rw [if_neg (by omega), hlenS])
  have hbS0 := below_new W1 (.cells #[.slice none 0 0, .int .i64 0] 34)
  have bS0 := Blk.new W1 34 #[.slice none 0 0, .int .i64 0]
  obtain ⟨W2, hW2⟩ : ∃ X, X = W1.alloc (.cells #[.slice none 0 0, .int .i64 0] 34) := ⟨_, rfl⟩
  have hz2 : W2.heap.size = W1.heap.size + 1 := by rw [hW2]; simp
  rw [← hW2] at hbS0 bS0
  obtain ⟨S, hS⟩ : ∃ S, S = W1.heap.size := ⟨_, rfl⟩
  rw [← hS] at bS0
  obtain ⟨D, hD⟩ : ∃ D, D = W2.heap.size := ⟨_, rfl⟩
  have hSR : S ≠ R := by omega
  have hSD : S < D := by omega
  have hDS : D ≤ S + 1 := by omega
  have hRD : R < D := by omega
  have hwS : w.heap.size ≤ S := by omega
  have hwD : w.heap.size ≤ D := by omega
  have HBR2 := Lib.hid (bR0.below hbS0 bR0.lt)
  have HBS2 := Lib.hid bS0
  have HBL2 := Lib.hid (bst hbR0 hbS0)
  have HD2 := Lib.hid (show D ≤ W2.heap.size by omega)
  have HE := Lib.hid hE
  have nbig : (s.size : Int) ≤ 65536 := by omega
  clear hRES hbR0 bR0 hz1 hz2 hE hbS0 bS0 hD
  go_enter Tryd.func13, Tryd.ntmps13
  go_upto_region 1 with (fail)
  rw [← hW1, ← hR]
  have HW2 := Lib.hid hW2
  have HS := Lib.hid hS
  clear hR hW1 hW2 hS
  go_upto_region 4 with (fail)
  rw [← HW2.out, ← HS.out]
  go_wp2
  go_loopw [0, 6, 7, 8] (fun t0 t6 t7 t8 wr => ∃ (f : Nat) (src kw : ByteArray) (cs : List Col) (kl ln : Nat) (v : Value), t0 = .string src ∧ t6 = .string kw ∧ t7 = .int .i64 kl ∧ t8 = .int .i64 ln ∧ src.size < f ∧ cs.length + src.size ≤ 65536 ∧ 1 ≤ ln ∧ ln + src.size ≤ 65537 ∧ kl ≤ 65537 ∧ (∀ c ∈ cs, c.nm.size ≤ 65536) ∧ Blk wr R 34 #[.slice none 0 0, .int .i64 0] ∧ Blk wr S 34 #[v, .int .i64 0] ∧ wr.ownsRow D 41 4 v cs.length (cols cs) ∧ Below w.heap.size w wr ∧ D ≤ wr.heap.size ∧ Hid (goP f src.data.toList ln cs kw.data.toList kl = RES)) (fun t0 _ _ _ _ => strLenV t0)
  case atStart => exact ⟨s.size + 1, s, { data := #[] }, [], 0, 1, .slice none 0 0, rfl, rfl, rfl, rfl, by omega, by simp; omega, by omega, by omega, by omega, by simp, HBR2.out, HBS2.out, World.ownsRow_nil _ _ _ _, HBL2.out, HD2.out, HR⟩
  case round =>
    obtain ⟨f, src, kw, cs, kl, ln, v, rfl, rfl, rfl, rfl, hsf, hcs, hln, hln2, hkl, hnm, hbr, hbs, hown, hbel, hDw, hgo⟩ := hrel
    obtain ⟨f, rfl⟩ : ∃ f', f = f' + 1 := ⟨f - 1, by omega⟩
    obtain ⟨A, cp, rfl, hd1, hd2⟩ := (Sl.of_own hown).form
    unfold maxLen at hd2
    have HBR := Lib.hid hbr
    have HBS := Lib.hid hbs
    have HOW := Lib.hid hown
    have HBL := Lib.hid hbel
    have HDW := Lib.hid hDw
    have HNM := Lib.hid hnm
    clear hbr hbs hown hbel hDw hnm HBR2 HBS2 HBL2 HD2
    have hlen := sizeD src
    by_cases h0 : src.size = 0
    case pos =>
      have hnil : src.data.toList = [] := List.eq_nil_of_length_eq_zero (by omega)
      have e1 := toList_nil h0
      have HF := Lib.hid (show finP cs kw.data.toList kl = RES by rw [← hgo.out, hnil, goP_nil])
      clear hgo hlen hnil h0 hsf
      by_cases hk0 : kl = 0
      case pos =>
        have HO := Lib.hid (show RES = (([], 0), 0, 2) by rw [← HF.out]; unfold finP; rw [if_pos (by omega)]; rfl)
        have qk : ((kl : Int) == 0) = true := by subst hk0; rfl
        clear HF hk0
        have R0 : wr.cell? ⟨R, 0, none⟩ = some (.slice none 0 0) := HBR.out.cell 0
        have f0 := HBR.out.frozen 0
        have R1 : wr.cell? ⟨R, 1, none⟩ = some (.int .i64 0) := HBR.out.cell 1
        have f1 := HBR.out.frozen 1
        go_wp2
        have b2 := blk2S (.slice none 0 0) (.int .i64 0) HBR.out
        have q0 : _ = some (Value.slice none 0 0) := b2.cell 0
        have q1 : _ = some (Value.int .i64 0) := b2.cell 1
        exact bodyPost_ret (v := .tuple #[.agg #[.slice none 0 0, .int .i64 0], .int .i64 0, .int .i64 2]) (by simp [results, Tryd.results13, go_sem, q0, q1]) rfl (RetSp.err HO.out (below2S _ _ HBL.out hRw))
      case neg =>
        have qk : ((kl : Int) == 0) = false := by rw [beq_eq_false_iff_ne]; omega
        obtain ⟨F, hF⟩ : ∃ F, F = findC cs kw := ⟨_, rfl⟩
        have HF2 := Lib.hid (show (if F < 0 then (([], 0), (kl : Int), 3) else if schkV cs F ≠ 0 then (([], 0), 0, schkV cs F) else ((cs, F), 0, 0) : SRes) = RES by
          rw [← HF.out]; unfold finP; rw [mkS_of, ← hF, if_neg (show ¬((kl : Int) = 0) by omega)])
        have FC := Lib.hid (find_any _ cs 0 kw wr (Sl.of_own HOW.out) (by omega))
        rw [← hF] at FC
        have i0 : wr.cell? ⟨S, 0, none⟩ = some (.slice A cs.length cp) := HBS.out.cell 0
        have i1 : wr.cell? ⟨S, 1, none⟩ = some (.int .i64 0) := HBS.out.cell 1
        clear HF hF hk0
        go_wp2_with fail
        refine FC.out.mono ?_
        rintro _ X1 ⟨rfl, hb1⟩
        clear i0 i1 FC
        replace HBR := Lib.hid (HBR.out.below hb1 HBR.out.lt)
        replace HBS := Lib.hid (HBS.out.below hb1 HBS.out.lt)
        replace HOW := Lib.hid (own_below HOW.out hb1)
        replace HBL := Lib.hid (bst HBL.out hb1)
        replace HDW := Lib.hid (Nat.le_trans HDW.out hb1.size)
        clear hb1
        have i1 : X1.cell? ⟨S, 1, none⟩ = some (.int .i64 0) := HBS.out.cell 1
        have g1 := HBS.out.frozen 1
        go_upto_region 22 with (fail)
        clear i1 g1
        have bS3 := blkS1 (.int .i64 F) HBS.out
        have bR3 := farC 1 (.int .i64 F) (Ne.symm hSR) HBR.out
        have bO3 := own_row HOW.out (grownBy_set X1 ⟨S, 1, none⟩ (.int .i64 F)) (fun b hb e => own_blk_ne HOW.out HBS.out (by decide) (by rw [hb, e]))
        have bL3 := HBL.out.setCell (p := ⟨S, 1, none⟩) hwS (.int .i64 F)
        obtain ⟨X, hX⟩ : ∃ X, X = X1.setCell ⟨S, 1, none⟩ (.int .i64 F) := ⟨_, rfl⟩
        rw [← hX] at bS3 bR3 bO3 bL3 ⊢
        clear hX
        replace HBS := Lib.hid bS3
        replace HBR := Lib.hid bR3
        replace HOW := Lib.hid bO3
        replace HBL := Lib.hid bL3
        replace HDW := Lib.hid (show D ≤ X.heap.size by have := HBS.out.lt; omega)
        clear bS3 bR3 bO3 bL3
        have i0 : X.cell? ⟨S, 0, none⟩ = some (.slice A cs.length cp) := HBS.out.cell 0
        have i1 : X.cell? ⟨S, 1, none⟩ = some (.int .i64 F) := HBS.out.cell 1
        by_cases hF0 : F < 0
        case pos =>
          have HO := Lib.hid (show RES = (([], 0), (kl : Int), 3) by rw [← HF2.out, if_pos hF0])
          clear HF2
          have R0 : X.cell? ⟨R, 0, none⟩ = some (.slice none 0 0) := HBR.out.cell 0
          have f0 := HBR.out.frozen 0
          have R1 : X.cell? ⟨R, 1, none⟩ = some (.int .i64 0) := HBR.out.cell 1
          have f1 := HBR.out.frozen 1
          go_wp2
          have b2 := blk2S (.slice none 0 0) (.int .i64 0) HBR.out
          have q0 : _ = some (Value.slice none 0 0) := b2.cell 0
          have q1 : _ = some (Value.int .i64 0) := b2.cell 1
          exact bodyPost_ret (v := .tuple #[.agg #[.slice none 0 0, .int .i64 0], .int .i64 (kl : Int), .int .i64 3]) (by simp [results, Tryd.results13, go_sem, q0, q1]) rfl (RetSp.err HO.out (below2S _ _ HBL.out hRw))
        case neg =>
          have CK := Lib.hid (schk_any _ cs F X (Sl.of_own HOW.out) (by omega) (fun c hc => by have := HNM.out c hc; omega))
          obtain ⟨E, hE⟩ : ∃ E, E = schkV cs F := ⟨_, rfl⟩
          rw [← hE] at CK
          have HF3 := Lib.hid (show (if E ≠ 0 then (([], 0), 0, E) else ((cs, F), 0, 0) : SRes) = RES by rw [← HF2.out, if_neg hF0, hE])
          clear HF2 hE
          go_wp2_with fail
          refine CK.out.mono ?_
          rintro _ X2 ⟨rfl, hb2⟩
          clear i0 i1 CK
          replace HBR := Lib.hid (HBR.out.below hb2 HBR.out.lt)
          replace HBS := Lib.hid (HBS.out.below hb2 HBS.out.lt)
          replace HOW := Lib.hid (own_below HOW.out hb2)
          replace HBL := Lib.hid (bst HBL.out hb2)
          replace HDW := Lib.hid (Nat.le_trans HDW.out hb2.size)
          clear hb2
          by_cases hE0 : E = 0
          case neg =>
            have HO := Lib.hid (show RES = (([], 0), 0, E) by rw [← HF3.out, if_pos hE0])
            have qe : (E != 0) = true := by rw [bne_iff_ne]; exact hE0
            clear HF3 hE0
            have R0 : X2.cell? ⟨R, 0, none⟩ = some (.slice none 0 0) := HBR.out.cell 0
            have f0 := HBR.out.frozen 0
            have R1 : X2.cell? ⟨R, 1, none⟩ = some (.int .i64 0) := HBR.out.cell 1
            have f1 := HBR.out.frozen 1
            go_wp2
            have b2 := blk2S (.slice none 0 0) (.int .i64 0) HBR.out
            have q0 : _ = some (Value.slice none 0 0) := b2.cell 0
            have q1 : _ = some (Value.int .i64 0) := b2.cell 1
            exact bodyPost_ret (v := .tuple #[.agg #[.slice none 0 0, .int .i64 0], .int .i64 0, .int .i64 E]) (by simp [results, Tryd.results13, go_sem, q0, q1]) rfl (RetSp.err HO.out (below2S _ _ HBL.out hRw))
          case pos =>
            have HO := Lib.hid (show RES = ((cs, F), 0, 0) by rw [← HF3.out, if_neg (by simp [hE0])])
            have qe : (E != 0) = false := by rw [hE0]; rfl
            clear HF3 hE0
            have i0 : X2.cell? ⟨S, 0, none⟩ = some (.slice A cs.length cp) := HBS.out.cell 0
            have i1 : X2.cell? ⟨S, 1, none⟩ = some (.int .i64 F) := HBS.out.cell 1
            have R0 : X2.cell? ⟨R, 0, none⟩ = some (.slice none 0 0) := HBR.out.cell 0
            have f0 := HBR.out.frozen 0
            have R1 : X2.cell? ⟨R, 1, none⟩ = some (.int .i64 0) := HBR.out.cell 1
            have f1 := HBR.out.frozen 1
            go_wp2
            have b2 := blk2S (.slice A cs.length cp) (.int .i64 F) HBR.out
            have q0 : _ = some (Value.slice A cs.length cp) := b2.cell 0
            have q1 : _ = some (Value.int .i64 F) := b2.cell 1
            have o1 := own_row HOW.out (grownBy_set X2 ⟨R, 0, none⟩ (.slice A cs.length cp)) (fun b hb e => own_blk_ne HOW.out HBR.out (by decide) (by rw [hb, e]))
            have o2 := own_row o1 (grownBy_set _ ⟨R, 1, none⟩ (.int .i64 F)) (fun b hb e => own_blk_ne HOW.out HBR.out (by decide) (by rw [hb, e]))
            exact bodyPost_ret (v := .tuple #[.agg #[.slice A cs.length cp, .int .i64 F], .int .i64 0, .int .i64 0]) (by simp [results, Tryd.results13, go_sem, q0, q1]) rfl (RetSp.ok HO.out (Sl.of_own o2) (below2S _ _ HBL.out hRw))
    case neg =>
      have hne : src.data.toList ≠ [] := by intro h; rw [h] at hlen; exact h0 (by simpa using hlen.symm)
      have e1 := toList_ne (show 0 < src.size by omega)
      obtain ⟨TX, hTX⟩ : ∃ T, T = mkS (lineT src.data.toList) := ⟨_, rfl⟩
      obtain ⟨RX, hRX⟩ : ∃ T, T = mkS (lineR src.data.toList).tail := ⟨_, rfl⟩
      obtain ⟨W, hW⟩ : ∃ W, W = splitC 32 (lineT src.data.toList) := ⟨_, rfl⟩
      have hWT : wordsM TX.data.toList = W.map mkS := by rw [hTX, hW]; rfl
      have hTl : TX.size ≤ src.size := by
        rw [← sizeD TX, ← hlen, hTX, mkS_data]
        have := congrArg List.length (line_whole src.data.toList)
        rw [List.length_append] at this; omega
      have hWl : ∀ x ∈ W, x.length ≤ src.size := by
        intro x hx
        rw [hW] at hx
        have := splitC_len 32 _ x hx
        rw [← sizeD TX, hTX, mkS_data] at hTl; omega
      have hWn : W.length ≤ src.size + 1 := by
        have := splitC_cnt 32 (lineT src.data.toList)
        rw [← hW] at this
        rw [← sizeD TX, hTX, mkS_data] at hTl; omega
      have HWL := Lib.hid hWl
      by_cases hend : lineR src.data.toList = []
      case pos =>
        have CC := Lib.hid (cutl_any src TX RX false (by rw [hTX, mkS_data]) (by rw [hRX, mkS_data]) (by rw [hend]; simp) wr (by omega))
        have HO := Lib.hid (show RES = (([], 0), (ln : Int), 2) by rw [← hgo.out, goP_form hne (.inl hend)]; rfl)
        have CS := Lib.hid (fun X => split_any TX X (by omega))
        rw [hWT] at CS
        clear hgo hne hend hTX hRX hW hWT hWl hlen HWL
        go_wp2_with fail
        refine CC.out.mono ?_
        rintro _ X1 ⟨rfl, hx1⟩
        have hb1 : Below wr.heap.size wr X1 := by obtain ⟨n1, rfl⟩ := hx1; exact below_drewN (Below.refl _ _) n1
        clear hx1 CC
        replace HBR := Lib.hid (HBR.out.below hb1 HBR.out.lt)
        replace HBS := Lib.hid (HBS.out.below hb1 HBS.out.lt)
        replace HOW := Lib.hid (own_below HOW.out hb1)
        replace HBL := Lib.hid (bst HBL.out hb1)
        replace HDW := Lib.hid (Nat.le_trans HDW.out hb1.size)
        clear hb1
        go_wp2_with fail
        refine (CS.out X1).mono ?_
        rintro _ _ ⟨rfl, rfl⟩
        have hb2 := below_new X1 (.cells (strV (W.map mkS)).toArray 9)
        have bW := Blk.new X1 9 (strV (W.map mkS)).toArray
        obtain ⟨X2, hX2⟩ : ∃ X, X = X1.alloc (.cells (strV (W.map mkS)).toArray 9) := ⟨_, rfl⟩
        rw [← hX2] at hb2 bW ⊢
        obtain ⟨g, hg⟩ : ∃ g, g = X1.heap.size := ⟨_, rfl⟩
        rw [← hg] at bW ⊢
        have HWB := Lib.hid bW
        replace HBR := Lib.hid (HBR.out.below hb2 HBR.out.lt)
        replace HBS := Lib.hid (HBS.out.below hb2 HBS.out.lt)
        replace HOW := Lib.hid (own_below HOW.out hb2)
        replace HBL := Lib.hid (bst HBL.out hb2)
        replace HDW := Lib.hid (Nat.le_trans HDW.out hb2.size)
        clear hb2 bW hX2 hg CS
        have R0 : X2.cell? ⟨R, 0, none⟩ = some (.slice none 0 0) := HBR.out.cell 0
        have f0 := HBR.out.frozen 0
        have R1 : X2.cell? ⟨R, 1, none⟩ = some (.int .i64 0) := HBR.out.cell 1
        have f1 := HBR.out.frozen 1
        go_wp2
        have b2 := blk2S (.slice none 0 0) (.int .i64 0) HBR.out
        have q0 : _ = some (Value.slice none 0 0) := b2.cell 0
        have q1 : _ = some (Value.int .i64 0) := b2.cell 1
        exact bodyPost_ret (v := .tuple #[.agg #[.slice none 0 0, .int .i64 0], .int .i64 (ln : Int), .int .i64 2]) (by simp [results, Tryd.results13, go_sem, q0, q1]) rfl (RetSp.err HO.out (below2S _ _ HBL.out hRw))
      case neg =>
        have CC := Lib.hid (cutl_any src TX RX true (by rw [hTX, mkS_data]) (by rw [hRX, mkS_data]) (by simp [hend]) wr (by omega))
        have CS := Lib.hid (fun X => split_any TX X (by omega))
        rw [hWT] at CS
        by_cases hk0 : 0 < kl
        case pos =>
          have HO := Lib.hid (show RES = (([], 0), (ln : Int), 2) by rw [← hgo.out, goP_form hne (.inr (.inl (by omega)))]; rfl)
          have qk : (0 : Int) < kl := by omega
          clear hgo hne hend hTX hRX hW hWT hWl hlen HWL
          go_wp2_with fail
          refine CC.out.mono ?_
          rintro _ X1 ⟨rfl, hx1⟩
          have hb1 : Below wr.heap.size wr X1 := by obtain ⟨n1, rfl⟩ := hx1; exact below_drewN (Below.refl _ _) n1
          clear hx1 CC
          replace HBR := Lib.hid (HBR.out.below hb1 HBR.out.lt)
          replace HBS := Lib.hid (HBS.out.below hb1 HBS.out.lt)
          replace HOW := Lib.hid (own_below HOW.out hb1)
          replace HBL := Lib.hid (bst HBL.out hb1)
          replace HDW := Lib.hid (Nat.le_trans HDW.out hb1.size)
          clear hb1
          go_wp2_with fail
          refine (CS.out X1).mono ?_
          rintro _ _ ⟨rfl, rfl⟩
          have hb2 := below_new X1 (.cells (strV (W.map mkS)).toArray 9)
          have bW := Blk.new X1 9 (strV (W.map mkS)).toArray
          obtain ⟨X2, hX2⟩ : ∃ X, X = X1.alloc (.cells (strV (W.map mkS)).toArray 9) := ⟨_, rfl⟩
          rw [← hX2] at hb2 bW ⊢
          obtain ⟨g, hg⟩ : ∃ g, g = X1.heap.size := ⟨_, rfl⟩
          rw [← hg] at bW ⊢
          have HWB := Lib.hid bW
          replace HBR := Lib.hid (HBR.out.below hb2 HBR.out.lt)
          replace HBS := Lib.hid (HBS.out.below hb2 HBS.out.lt)
          replace HOW := Lib.hid (own_below HOW.out hb2)
          replace HBL := Lib.hid (bst HBL.out hb2)
          replace HDW := Lib.hid (Nat.le_trans HDW.out hb2.size)
          clear hb2 bW hX2 hg CS
          have R0 : X2.cell? ⟨R, 0, none⟩ = some (.slice none 0 0) := HBR.out.cell 0
          have f0 := HBR.out.frozen 0
          have R1 : X2.cell? ⟨R, 1, none⟩ = some (.int .i64 0) := HBR.out.cell 1
          have f1 := HBR.out.frozen 1
          go_wp2
          have b2 := blk2S (.slice none 0 0) (.int .i64 0) HBR.out
          have q0 : _ = some (Value.slice none 0 0) := b2.cell 0
          have q1 : _ = some (Value.int .i64 0) := b2.cell 1
          exact bodyPost_ret (v := .tuple #[.agg #[.slice none 0 0, .int .i64 0], .int .i64 (ln : Int), .int .i64 2]) (by simp [results, Tryd.results13, go_sem, q0, q1]) rfl (RetSp.err HO.out (below2S _ _ HBL.out hRw))
        case neg =>
          obtain rfl : kl = 0 := by omega
          cases hem : Lib.containsS (W.map mkS) { data := #[] } with
          | true =>
            have HO := Lib.hid (show RES = (([], 0), (ln : Int), 2) by rw [← hgo.out, goP_form hne (.inr (.inr (by rw [← hW]; exact cont_nil.1 hem)))]; rfl)
            have CT := Lib.hid (fun u X (h : Sl X 1 u (W.map mkS).length (strV (W.map mkS))) => contS_any u (W.map mkS) { data := #[] } X h)
            rw [hem] at CT
            clear hgo hne hend hTX hRX hW hWT hWl hlen HWL hem
            go_wp2_with fail
            refine CC.out.mono ?_
            rintro _ X1 ⟨rfl, hx1⟩
            have hb1 : Below wr.heap.size wr X1 := by obtain ⟨n1, rfl⟩ := hx1; exact below_drewN (Below.refl _ _) n1
            clear hx1 CC
            replace HBR := Lib.hid (HBR.out.below hb1 HBR.out.lt)
            replace HBS := Lib.hid (HBS.out.below hb1 HBS.out.lt)
            replace HOW := Lib.hid (own_below HOW.out hb1)
            replace HBL := Lib.hid (bst HBL.out hb1)
            replace HDW := Lib.hid (Nat.le_trans HDW.out hb1.size)
            clear hb1
            go_wp2_with fail
            refine (CS.out X1).mono ?_
            rintro _ _ ⟨rfl, rfl⟩
            have hb2 := below_new X1 (.cells (strV (W.map mkS)).toArray 9)
            have bW := Blk.new X1 9 (strV (W.map mkS)).toArray
            obtain ⟨X2, hX2⟩ : ∃ X, X = X1.alloc (.cells (strV (W.map mkS)).toArray 9) := ⟨_, rfl⟩
            rw [← hX2] at hb2 bW ⊢
            obtain ⟨g, hg⟩ : ∃ g, g = X1.heap.size := ⟨_, rfl⟩
            rw [← hg] at bW ⊢
            have HWB := Lib.hid bW
            replace HBR := Lib.hid (HBR.out.below hb2 HBR.out.lt)
            replace HBS := Lib.hid (HBS.out.below hb2 HBS.out.lt)
            replace HOW := Lib.hid (own_below HOW.out hb2)
            replace HBL := Lib.hid (bst HBL.out hb2)
            replace HDW := Lib.hid (Nat.le_trans HDW.out hb2.size)
            clear hb2 bW hX2 hg CS
            go_wp2_with fail
            have hslW : Sl X2 1 (.slice (some ⟨g, 0, none⟩) W.length W.length) (W.map mkS).length (strV (W.map mkS)) := by
              have := sl_blk1 HWB.out (by rw [List.length_map]; unfold maxLen; omega)
              simp only [List.length_map] at this ⊢
              exact this
            refine (CT.out _ _ hslW).mono ?_
            rintro _ _ ⟨rfl, rfl⟩
            clear hslW CT
            have R0 : X2.cell? ⟨R, 0, none⟩ = some (.slice none 0 0) := HBR.out.cell 0
            have f0 := HBR.out.frozen 0
            have R1 : X2.cell? ⟨R, 1, none⟩ = some (.int .i64 0) := HBR.out.cell 1
            have f1 := HBR.out.frozen 1
            go_wp2
            have b2 := blk2S (.slice none 0 0) (.int .i64 0) HBR.out
            have q0 : _ = some (Value.slice none 0 0) := b2.cell 0
            have q1 : _ = some (Value.int .i64 0) := b2.cell 1
            exact bodyPost_ret (v := .tuple #[.agg #[.slice none 0 0, .int .i64 0], .int .i64 (ln : Int), .int .i64 2]) (by simp [results, Tryd.results13, go_sem, q0, q1]) rfl (RetSp.err HO.out (below2S _ _ HBL.out hRw))
          | false =>
            have CT := Lib.hid (fun u X (h : Sl X 1 u (W.map mkS).length (strV (W.map mkS))) => contS_any u (W.map mkS) { data := #[] } X h)
            rw [hem] at CT
            have HGO := Lib.hid (show ¬(lineR src.data.toList = [] ∨ (0 : Int) < ((0 : Nat) : Int) ∨ [] ∈ splitC 32 (lineT src.data.toList)) by
              rintro (h | h | h)
              · exact hend h
              · omega
              · rw [← hW] at h; rw [cont_nil.2 h] at hem; cases hem)
            have hRs : RX.size < src.size := by
              have := lineR_lt hend
              rw [← sizeD RX, hRX, mkS_data]; omega
            have HRX := Lib.hid (show RX.data.toList = (lineR src.data.toList).tail by rw [hRX, mkS_data])
            have HNE := Lib.hid hne
            have HW := Lib.hid hW
            clear hne hend hTX hRX hW hWT hWl hlen hem
            cases hkey : isKey W with
            | true =>
              obtain ⟨b, hWk⟩ := isKey_two hkey
              have HN := Lib.hid (show goP f RX.data.toList ((ln + 1 : Nat) : Int) cs (mkS b).data.toList (ln : Int) = RES by rw [show ((ln + 1 : Nat) : Int) = (ln : Int) + 1 by omega, ← hgo.out, goP_key HNE.out HGO.out (by rw [← HW.out]; exact hkey), HRX.out, ← HW.out, hWk]; rfl)
              have HWK := Lib.hid hWk
              clear hkey hgo HNE HGO HRX HW hWk
              go_wp2_with fail
              refine CC.out.mono ?_
              rintro _ X1 ⟨rfl, hx1⟩
              have hb1 : Below wr.heap.size wr X1 := by obtain ⟨n1, rfl⟩ := hx1; exact below_drewN (Below.refl _ _) n1
              clear hx1 CC
              replace HBR := Lib.hid (HBR.out.below hb1 HBR.out.lt)
              replace HBS := Lib.hid (HBS.out.below hb1 HBS.out.lt)
              replace HOW := Lib.hid (own_below HOW.out hb1)
              replace HBL := Lib.hid (bst HBL.out hb1)
              replace HDW := Lib.hid (Nat.le_trans HDW.out hb1.size)
              clear hb1
              go_wp2_with fail
              refine (CS.out X1).mono ?_
              rintro _ _ ⟨rfl, rfl⟩
              have hb2 := below_new X1 (.cells (strV (W.map mkS)).toArray 9)
              have bW := Blk.new X1 9 (strV (W.map mkS)).toArray
              obtain ⟨X2, hX2⟩ : ∃ X, X = X1.alloc (.cells (strV (W.map mkS)).toArray 9) := ⟨_, rfl⟩
              rw [← hX2] at hb2 bW ⊢
              obtain ⟨g, hg⟩ : ∃ g, g = X1.heap.size := ⟨_, rfl⟩
              rw [← hg] at bW ⊢
              have HWB := Lib.hid bW
              replace HBR := Lib.hid (HBR.out.below hb2 HBR.out.lt)
              replace HBS := Lib.hid (HBS.out.below hb2 HBS.out.lt)
              replace HOW := Lib.hid (own_below HOW.out hb2)
              replace HBL := Lib.hid (bst HBL.out hb2)
              replace HDW := Lib.hid (Nat.le_trans HDW.out hb2.size)
              clear hb2 bW hX2 hg CS
              go_wp2_with fail
              have hslW : Sl X2 1 (.slice (some ⟨g, 0, none⟩) W.length W.length) (W.map mkS).length (strV (W.map mkS)) := by
                have := sl_blk1 HWB.out (by rw [List.length_map]; unfold maxLen; omega)
                simp only [List.length_map] at this ⊢
                exact this
              refine (CT.out _ _ hslW).mono ?_
              rintro _ _ ⟨rfl, rfl⟩
              clear hslW CT
              have k0 : X2.cell? ⟨g, 0, none⟩ = some (.string (mkS keyW)) := (HWB.out.cell 0).trans (by rw [HWK.out]; rfl)
              have k1 : X2.cell? ⟨g, 1, none⟩ = some (.string (mkS b)) := (HWB.out.cell 1).trans (by rw [HWK.out]; rfl)
              have k2 : ((mkS keyW).toList == [107, 101, 121]) = true := by rw [Go.ByteArray.toList_eq]; rfl
              have q2 : ((W.length : Int) == 2) = true := by rw [HWK.out]; rfl
              have l2 : W.length = 2 := by rw [HWK.out]; rfl
              have l0 : 0 < W.length := by omega
              have l1 : (1 : Int) < W.length := by omega
              clear l2
              go_wp2
              go_roundw
              case rel => exact ⟨f, RX, mkS b, cs, ln, ln + 1, _, rfl, rfl, rfl, by go_num, by omega, by omega, by omega, by omega, by omega, HNM.out, HBR.out, HBS.out, HOW.out, HBL.out, HDW.out, HN⟩
              case measure => exact hRs
            | false =>
              have HKN := Lib.hid (isKey_no hkey)
              have HGC := Lib.hid (fun c (hc : colV W = some c) => (show goP f RX.data.toList ((ln + 1 : Nat) : Int) (cs ++ [c]) kw.data.toList ((0 : Nat) : Int) = RES by rw [show ((ln + 1 : Nat) : Int) = (ln : Int) + 1 by omega, ← hgo.out, goP_col HNE.out HGO.out (by rw [← HW.out]; exact hkey) (by rw [← HW.out]; exact hc), HRX.out]))
              have HGB := Lib.hid (fun (hc : colV W = none) => (show RES = (([], 0), (ln : Int), 2) by rw [← hgo.out, goP_bad HNE.out HGO.out (by rw [← HW.out]; exact hkey) (by rw [← HW.out]; exact hc)]; rfl))
              clear hkey hgo HNE HGO HRX HW
              go_wp2_with fail
              refine CC.out.mono ?_
              rintro _ X1 ⟨rfl, hx1⟩
              have hb1 : Below wr.heap.size wr X1 := by obtain ⟨n1, rfl⟩ := hx1; exact below_drewN (Below.refl _ _) n1
              clear hx1 CC
              replace HBR := Lib.hid (HBR.out.below hb1 HBR.out.lt)
              replace HBS := Lib.hid (HBS.out.below hb1 HBS.out.lt)
              replace HOW := Lib.hid (own_below HOW.out hb1)
              replace HBL := Lib.hid (bst HBL.out hb1)
              replace HDW := Lib.hid (Nat.le_trans HDW.out hb1.size)
              clear hb1
              go_wp2_with fail
              refine (CS.out X1).mono ?_
              rintro _ _ ⟨rfl, rfl⟩
              have hb2 := below_new X1 (.cells (strV (W.map mkS)).toArray 9)
              have bW := Blk.new X1 9 (strV (W.map mkS)).toArray
              obtain ⟨X2, hX2⟩ : ∃ X, X = X1.alloc (.cells (strV (W.map mkS)).toArray 9) := ⟨_, rfl⟩
              rw [← hX2] at hb2 bW ⊢
              obtain ⟨g, hg⟩ : ∃ g, g = X1.heap.size := ⟨_, rfl⟩
              rw [← hg] at bW ⊢
              have HWB := Lib.hid bW
              replace HBR := Lib.hid (HBR.out.below hb2 HBR.out.lt)
              replace HBS := Lib.hid (HBS.out.below hb2 HBS.out.lt)
              replace HOW := Lib.hid (own_below HOW.out hb2)
              replace HBL := Lib.hid (bst HBL.out hb2)
              replace HDW := Lib.hid (Nat.le_trans HDW.out hb2.size)
              clear hb2 bW hX2 hg CS
              go_wp2_with fail
              have hslW : Sl X2 1 (.slice (some ⟨g, 0, none⟩) W.length W.length) (W.map mkS).length (strV (W.map mkS)) := by
                have := sl_blk1 HWB.out (by rw [List.length_map]; unfold maxLen; omega)
                simp only [List.length_map] at this ⊢
                exact this
              refine (CT.out _ _ hslW).mono ?_
              rintro _ _ ⟨rfl, rfl⟩
              clear hslW CT
              have SC := Lib.hid (scol_any g W X2 (HE.out.below HBL.out) HWB.out (fun x hx => by have := HWL.out x hx; omega) (by omega))
              rcases HKN.out with hk2 | ⟨a, b, hab, hak⟩
              · have q2 : ((W.length : Int) == 2) = false := by rw [beq_eq_false_iff_ne]; omega
                clear hk2 HKN
                go_wp2_with fail
                refine SC.out.mono ?_
                rintro _ X3 ⟨c, ok, rfl, hy, hn, hb3⟩
                clear SC
                replace HBR := Lib.hid (HBR.out.below hb3 HBR.out.lt)
                replace HBS := Lib.hid (HBS.out.below hb3 HBS.out.lt)
                replace HOW := Lib.hid (own_below HOW.out hb3)
                replace HBL := Lib.hid (bst HBL.out hb3)
                replace HDW := Lib.hid (Nat.le_trans HDW.out hb3.size)
                clear hb3 HWB
                go_upto_region 16 with (fail)
                have hb4 := below_new X3 (.cells #[.string c.nm, .int .i64 c.ty, .int .i64 c.sc, .bool c.nu] 41)
                have bB := Blk.new X3 41 #[.string c.nm, .int .i64 c.ty, .int .i64 c.sc, .bool c.nu]
                obtain ⟨X4, hX4⟩ : ∃ X, X = X3.alloc (.cells #[.string c.nm, .int .i64 c.ty, .int .i64 c.sc, .bool c.nu] 41) := ⟨_, rfl⟩
                rw [← hX4] at hb4 bB ⊢
                obtain ⟨Bk, hBk⟩ : ∃ g, g = X3.heap.size := ⟨_, rfl⟩
                rw [← hBk] at bB ⊢
                have HBB := Lib.hid bB
                replace HBR := Lib.hid (HBR.out.below hb4 HBR.out.lt)
                replace HBS := Lib.hid (HBS.out.below hb4 HBS.out.lt)
                replace HOW := Lib.hid (own_below HOW.out hb4)
                replace HBL := Lib.hid (bst HBL.out hb4)
                replace HDW := Lib.hid (Nat.le_trans HDW.out hb4.size)
                clear hb4 bB hX4 hBk
                cases ok with
                | false =>
                  have HO := Lib.hid (HGB.out (hn rfl))
                  clear hy hn HGB HGC
                  have R0 : X4.cell? ⟨R, 0, none⟩ = some (.slice none 0 0) := HBR.out.cell 0
                  have f0 := HBR.out.frozen 0
                  have R1 : X4.cell? ⟨R, 1, none⟩ = some (.int .i64 0) := HBR.out.cell 1
                  have f1 := HBR.out.frozen 1
                  go_wp2
                  have b2 := blk2S (.slice none 0 0) (.int .i64 0) HBR.out
                  have q0 : _ = some (Value.slice none 0 0) := b2.cell 0
                  have q1 : _ = some (Value.int .i64 0) := b2.cell 1
                  exact bodyPost_ret (v := .tuple #[.agg #[.slice none 0 0, .int .i64 0], .int .i64 (ln : Int), .int .i64 2]) (by simp [results, Tryd.results13, go_sem, q0, q1]) rfl (RetSp.err HO.out (below2S _ _ HBL.out hRw))
                | true =>
                  have HN := Lib.hid (HGC.out c (hy rfl))
                  have hcn : c.nm.size ≤ 65536 := by
                    obtain ⟨a, ha, e⟩ := colV_nm (hy rfl)
                    have := HWL.out a ha
                    rw [e, ← sizeD, mkS_data]; omega
                  have HNN := Lib.hid (show ∀ d ∈ cs ++ [c], d.nm.size ≤ 65536 from fun d hd => by
                    rcases List.mem_append.1 hd with h | h
                    · exact HNM.out d h
                    · rw [List.mem_singleton.1 h]; exact hcn)
                  clear hy hn HGB HGC hcn HNM HWL
                  obtain ⟨cnm, cty, csc, cnu⟩ := c
                  simp only at HBB HN HNN ⊢
                  have n0 : X4.cell? ⟨Bk, 0, none⟩ = some (.string cnm) := HBB.out.cell 0
                  have n1 : X4.cell? ⟨Bk, 1, none⟩ = some (.int .i64 cty) := HBB.out.cell 1
                  have n2 : X4.cell? ⟨Bk, 2, none⟩ = some (.int .i64 csc) := HBB.out.cell 2
                  have n3 : X4.cell? ⟨Bk, 3, none⟩ = some (.bool cnu) := HBB.out.cell 3
                  have m0 : X4.cell? ⟨S, 0, none⟩ = some (.slice A cs.length cp) := HBS.out.cell 0
                  go_wp2_with (at_builtin; go_must (refine app1 _ _ HOW.out HBL.out hwD HDW.out under_col info_col rfl (by decide) rfl (oneCol _ _ _ _) (by omega) (by omega) rfl rfl rfl rfl ?_))
                  intro g' cap' w9 hown9 hbel9 hgr9 _
                  have bo9 := HBS.out.grown hgr9 (own_blk_ne HOW.out HBS.out (by decide))
                  have br9 := HBR.out.grown hgr9 (own_blk_ne HOW.out HBR.out (by decide))
                  have p0 : w9.cell? ⟨S, 0, none⟩ = some (.slice A cs.length cp) := bo9.cell 0
                  have p1 := bo9.frozen 0
                  have hown10 := own_colsS hown9
                  have kg := grownBy_set w9 ⟨S, 0, none⟩ (.slice (some ⟨g', 0, none⟩) (cs.length + 1) cap')
                  have HOy := Lib.hid (own_row hown10 kg (fun b hb e => own_blk_ne hown10 bo9 (by decide) (by rw [hb, e])))
                  have HBy := Lib.hid (below_row hbel9 kg (by show w.heap.size ≤ S; omega) hbel9.size)
                  have HRy := Lib.hid (br9.row (A := S) kg (Ne.symm hSR))
                  have HPy := Lib.hid (blkS0 (.slice (some ⟨g', 0, none⟩) (cs.length + 1) cap') bo9)
                  have HDy := Lib.hid (show D ≤ (w9.setCell ⟨S, 0, none⟩ (.slice (some ⟨g', 0, none⟩) (cs.length + 1) cap')).heap.size by have := HPy.out.lt; omega)
                  clear hown9 hbel9 hgr9 bo9 br9 hown10 kg n0 n1 n2 n3 m0
                  go_wp2
                  go_roundw
                  case rel => exact ⟨f, RX, kw, cs ++ [⟨cnm, cty, csc, cnu⟩], 0, ln + 1, _, rfl, rfl, rfl, by go_num, by omega, by rw [List.length_append, List.length_singleton]; omega, by omega, by omega, by omega, HNN.out, HRy.out, HPy.out, HOy.out, HBy.out, HDy.out, HN⟩
                  case measure => exact hRs
              · have k0 : X2.cell? ⟨g, 0, none⟩ = some (.string (mkS a)) := (HWB.out.cell 0).trans (by rw [hab]; rfl)
                have k2 : ((mkS a).toList == [107, 101, 121]) = false := by rw [Go.ByteArray.toList_eq]; exact beq_false_of_ne hak
                have q2 : ((W.length : Int) == 2) = true := by rw [hab]; rfl
                have l2 : W.length = 2 := by rw [hab]; rfl
                have l0 : 0 < W.length := by omega
                clear l2 hab hak HKN
                go_wp2_with fail
                refine SC.out.mono ?_
                rintro _ X3 ⟨c, ok, rfl, hy, hn, hb3⟩
                clear SC
                replace HBR := Lib.hid (HBR.out.below hb3 HBR.out.lt)
                replace HBS := Lib.hid (HBS.out.below hb3 HBS.out.lt)
                replace HOW := Lib.hid (own_below HOW.out hb3)
                replace HBL := Lib.hid (bst HBL.out hb3)
                replace HDW := Lib.hid (Nat.le_trans HDW.out hb3.size)
                clear hb3 HWB
                go_upto_region 16 with (fail)
                have hb4 := below_new X3 (.cells #[.string c.nm, .int .i64 c.ty, .int .i64 c.sc, .bool c.nu] 41)
                have bB := Blk.new X3 41 #[.string c.nm, .int .i64 c.ty, .int .i64 c.sc, .bool c.nu]
                obtain ⟨X4, hX4⟩ : ∃ X, X = X3.alloc (.cells #[.string c.nm, .int .i64 c.ty, .int .i64 c.sc, .bool c.nu] 41) := ⟨_, rfl⟩
                rw [← hX4] at hb4 bB ⊢
                obtain ⟨Bk, hBk⟩ : ∃ g, g = X3.heap.size := ⟨_, rfl⟩
                rw [← hBk] at bB ⊢
                have HBB := Lib.hid bB
                replace HBR := Lib.hid (HBR.out.below hb4 HBR.out.lt)
                replace HBS := Lib.hid (HBS.out.below hb4 HBS.out.lt)
                replace HOW := Lib.hid (own_below HOW.out hb4)
                replace HBL := Lib.hid (bst HBL.out hb4)
                replace HDW := Lib.hid (Nat.le_trans HDW.out hb4.size)
                clear hb4 bB hX4 hBk
                cases ok with
                | false =>
                  have HO := Lib.hid (HGB.out (hn rfl))
                  clear hy hn HGB HGC
                  have R0 : X4.cell? ⟨R, 0, none⟩ = some (.slice none 0 0) := HBR.out.cell 0
                  have f0 := HBR.out.frozen 0
                  have R1 : X4.cell? ⟨R, 1, none⟩ = some (.int .i64 0) := HBR.out.cell 1
                  have f1 := HBR.out.frozen 1
                  go_wp2
                  have b2 := blk2S (.slice none 0 0) (.int .i64 0) HBR.out
                  have q0 : _ = some (Value.slice none 0 0) := b2.cell 0
                  have q1 : _ = some (Value.int .i64 0) := b2.cell 1
                  exact bodyPost_ret (v := .tuple #[.agg #[.slice none 0 0, .int .i64 0], .int .i64 (ln : Int), .int .i64 2]) (by simp [results, Tryd.results13, go_sem, q0, q1]) rfl (RetSp.err HO.out (below2S _ _ HBL.out hRw))
                | true =>
                  have HN := Lib.hid (HGC.out c (hy rfl))
                  have hcn : c.nm.size ≤ 65536 := by
                    obtain ⟨a, ha, e⟩ := colV_nm (hy rfl)
                    have := HWL.out a ha
                    rw [e, ← sizeD, mkS_data]; omega
                  have HNN := Lib.hid (show ∀ d ∈ cs ++ [c], d.nm.size ≤ 65536 from fun d hd => by
                    rcases List.mem_append.1 hd with h | h
                    · exact HNM.out d h
                    · rw [List.mem_singleton.1 h]; exact hcn)
                  clear hy hn HGB HGC hcn HNM HWL
                  obtain ⟨cnm, cty, csc, cnu⟩ := c
                  simp only at HBB HN HNN ⊢
                  have n0 : X4.cell? ⟨Bk, 0, none⟩ = some (.string cnm) := HBB.out.cell 0
                  have n1 : X4.cell? ⟨Bk, 1, none⟩ = some (.int .i64 cty) := HBB.out.cell 1
                  have n2 : X4.cell? ⟨Bk, 2, none⟩ = some (.int .i64 csc) := HBB.out.cell 2
                  have n3 : X4.cell? ⟨Bk, 3, none⟩ = some (.bool cnu) := HBB.out.cell 3
                  have m0 : X4.cell? ⟨S, 0, none⟩ = some (.slice A cs.length cp) := HBS.out.cell 0
                  go_wp2_with (at_builtin; go_must (refine app1 _ _ HOW.out HBL.out hwD HDW.out under_col info_col rfl (by decide) rfl (oneCol _ _ _ _) (by omega) (by omega) rfl rfl rfl rfl ?_))
                  intro g' cap' w9 hown9 hbel9 hgr9 _
                  have bo9 := HBS.out.grown hgr9 (own_blk_ne HOW.out HBS.out (by decide))
                  have br9 := HBR.out.grown hgr9 (own_blk_ne HOW.out HBR.out (by decide))
                  have p0 : w9.cell? ⟨S, 0, none⟩ = some (.slice A cs.length cp) := bo9.cell 0
                  have p1 := bo9.frozen 0
                  have hown10 := own_colsS hown9
                  have kg := grownBy_set w9 ⟨S, 0, none⟩ (.slice (some ⟨g', 0, none⟩) (cs.length + 1) cap')
                  have HOy := Lib.hid (own_row hown10 kg (fun b hb e => own_blk_ne hown10 bo9 (by decide) (by rw [hb, e])))
                  have HBy := Lib.hid (below_row hbel9 kg (by show w.heap.size ≤ S; omega) hbel9.size)
                  have HRy := Lib.hid (br9.row (A := S) kg (Ne.symm hSR))
                  have HPy := Lib.hid (blkS0 (.slice (some ⟨g', 0, none⟩) (cs.length + 1) cap') bo9)
                  have HDy := Lib.hid (show D ≤ (w9.setCell ⟨S, 0, none⟩ (.slice (some ⟨g', 0, none⟩) (cs.length + 1) cap')).heap.size by have := HPy.out.lt; omega)
                  clear hown9 hbel9 hgr9 bo9 br9 hown10 kg n0 n1 n2 n3 m0
                  go_wp2
                  go_roundw
                  case rel => exact ⟨f, RX, kw, cs ++ [⟨cnm, cty, csc, cnu⟩], 0, ln + 1, _, rfl, rfl, rfl, by go_num, by omega, by rw [List.length_append, List.length_singleton]; omega, by omega, by omega, by omega, HNN.out, HRy.out, HPy.out, HOy.out, HBy.out, HDy.out, HN⟩
                  case measure => exact hRs
end Go.Proofs.YtojfhlppiicpbaaDoor
