/-
  The contract of ref18.Insert.
-/
import Derived.Test.YtoikgjhekemjdaaEntOps
import Derived.Test.YtoikgjhekemjdaaBase
import Derived.Deep.QuietTactic
import Derived.BigQuiet
import Derived.Deep.DeepCutAuto
import Derived.Deep.CutBlock
namespace Go.Proofs.Ytoikgjhekemjdaa
open Go.RowKit Go.Sort
theorem insE_at {l : List Ent} {e : Ent} {k : Nat} (hk : k ≤ l.length) (h1 : ∀ (j : Nat) (d : Ent), l[j]? = some d → j < k → d.id < e.id) (h2 : ∀ d, l[k]? = some d → ¬d.id < e.id) : insE l e = l.take k ++ [e] ++ l.drop k := by
  induction l generalizing k with
  | nil => simp at hk; subst hk; rfl
  | cons x r ih =>
    cases k with
    | zero =>
      have := h2 x rfl
      unfold insE
      rw [List.takeWhile_cons, List.dropWhile_cons]
      simp [this]
    | succ k =>
      have hx := h1 x.id.toNat x
      have hx : x.id < e.id := h1 0 x rfl (by omega)
      have hr := ih (k := k) (by simpa using hk) (fun j d hd hj => h1 (j + 1) d (by simpa using hd) (by omega)) (fun d hd => h2 d (by simpa using hd))
      unfold insE at hr ⊢
      rw [List.takeWhile_cons, List.dropWhile_cons]
      simp only [hx, decide_true, if_true, List.cons_append, List.take_succ_cons, List.drop_succ_cons]
      rw [hr]
theorem Sl.take12 {w : World} {A : Option Addr} {n c k : Nat} {l : List Ent} (h : Sl w 12 (.slice A n c) n (ents l)) (hn : n = l.length) (hk : k ≤ n) : Sl w 12 (.slice A k c) k (ents (l.take k)) := by
  obtain ⟨A', c', e, h1, h2, h3, h4⟩ := h
  injection e with e1 _ e3
  subst e1 e3
  refine ⟨A, c, rfl, by omega, h2, by rw [ents_length, List.length_take]; omega, fun hp => ?_⟩
  obtain ⟨ad, e, hb, hc⟩ := h4 (by omega)
  refine ⟨ad, e, hb, fun j u hu => hc j u ?_⟩
  rw [← ents_take, List.getElem?_take] at hu
  split at hu
  · exact hu
  · cases hu
theorem own_drop {w : World} {base : Nat} {t : TypeId} {g n c k : Nat} {l : List Ent} (h : w.ownsRow base t 12 (.slice (some ⟨g, 0, none⟩) n c) n (ents l)) (hn : n = l.length) (hk : k ≤ n) :
    Sl w 12 (.slice (if c = k then some ⟨g, 0, none⟩ else some ⟨g, k * 12, none⟩) (n - k) (c - k)) (n - k) (ents (l.drop k)) := by
  obtain ⟨A', c', e, h1, h2, h3, h4⟩ := Sl.of_own h
  injection e with e1 _ e3
  subst e1 e3
  refine ⟨_, _, rfl, by omega, by unfold maxLen at h2 ⊢; omega, by rw [ents_length, List.length_drop]; omega, fun hp => ?_⟩
  rw [if_neg (by omega)]
  refine ⟨_, rfl, (h.lt g rfl).2, fun j u hu => ?_⟩
  rw [← ents_drop, List.getElem?_drop] at hu
  have := World.ownsRow.cells h (g := g) rfl _ u hu
  rw [Addr.add_lit] at this ⊢
  rw [Nat.zero_add] at this
  exact this
set_option maxRecDepth 100000 in
set_option maxHeartbeats 4000000 in
theorem rinsert_any (v : Value) (base : Nat) (l : List Ent) (i1 ro1 li1 b1 d1 b2 d2 de1 : Int) (a1 a2 : Bool) (s1 s2 : ByteArray) (w : World) (hown : w.ownsRow base 34 12 v l.length (ents l)) (hl : l.length ≤ 1000000) :
    Calls Try.prog 50 #[v, .agg #[.int .i64 i1, .int .i64 ro1, .int .i64 li1, .bool a1, .int .i64 b1, .string s1, .int .i64 d1, .bool a2, .int .i64 b2, .string s2, .int .i64 d2, .int .i64 de1]] w (RetEnts0 w (insE l ⟨i1, ro1, li1, ⟨a1, b1, s1, d1⟩, ⟨a2, b2, s2, d2⟩, de1⟩)) := by
  obtain ⟨e, he⟩ : ∃ e : Ent, e = ⟨i1, ro1, li1, ⟨a1, b1, s1, d1⟩, ⟨a2, b2, s2, d2⟩, de1⟩ := ⟨_, rfl⟩
  rw [← he]
  have heid : e.id = i1 := by rw [he]
  have HEI := Lib.hid heid
  have HEC := Lib.hid (show (#[Value.int .i64 i1, .int .i64 ro1, .int .i64 li1, .bool a1, .int .i64 b1, .string s1, .int .i64 d1, .bool a2, .int .i64 b2, .string s2, .int .i64 d2, .int .i64 de1] : Array Value).toList = e.cells by rw [he]; rfl)
  clear heid he
  obtain ⟨W, hW⟩ : ∃ W, W = w.alloc (.cells #[.int .i64 i1, .int .i64 ro1, .int .i64 li1, .bool a1, .int .i64 b1, .string s1, .int .i64 d1, .bool a2, .int .i64 b2, .string s2, .int .i64 d2, .int .i64 de1] 34) := ⟨_, rfl⟩
  have bE : Blk W w.heap.size 34 #[.int .i64 i1, .int .i64 ro1, .int .i64 li1, .bool a1, .int .i64 b1, .string s1, .int .i64 d1, .bool a2, .int .i64 b2, .string s2, .int .i64 d2, .int .i64 de1] := by rw [hW]; exact Blk.new _ _ _
  have hB : Below w.heap.size w W := by rw [hW]; exact abel _ _
  have hoW := own_below hown hB
  have hfin : ∀ k, k ≤ l.length → (∀ (j : Nat) (d : Ent), l[j]? = some d → j < k → d.id < i1) → (∀ d, l[k]? = some d → i1 ≤ d.id) → insE l e = l.take k ++ [e] ++ l.drop k := fun k h1 h2 h3 => insE_at h1 (by rw [HEI.out]; exact h2) (by rw [HEI.out]; exact fun d hd => Int.not_lt.2 (h3 d hd))
  have HFIN := Lib.hid hfin
  clear hfin
  rcases hown.2 with ⟨rfl, h0⟩ | ⟨g, cap, cur, rfl, _⟩
  · have hl0 := List.eq_nil_of_length_eq_zero h0
    subst hl0
    have HF := Lib.hid (show insE [] e = [e] from rfl)
    go_enter Try.func50, Try.ntmps50
    go_upto_region 1 with (fail)
    rw [← hW]
    clear hW hoW hown
    go_wp2
    go_loopw [5] (fun i wr => i = .int .i64 0 ∧ wr = W) (fun _ _ => 0)
    case atStart => exact ⟨rfl, rfl⟩
    case round =>
      obtain ⟨rfl, rfl⟩ := hrel
      go_wp2
      go_quiet (fail)
      generalize hX : World.drewN wr _ = X
      have bEX : Blk X w.heap.size 34 #[.int .i64 i1, .int .i64 ro1, .int .i64 li1, .bool a1, .int .i64 b1, .string s1, .int .i64 d1, .bool a2, .int .i64 b2, .string s2, .int .i64 d2, .int .i64 de1] := by rw [← hX]; exact bE
      have hBX : Below w.heap.size w X := by rw [← hX]; exact below_drewN hB _
      clear hX
      have hwX := hBX.size
      go_wp2_with (at_builtin; go_must (refine appN _ _ (World.ownsRow_nil X X.heap.size 34 12) (Sl.nil X 12) (Nat.le_refl _) under_entry info_entry rfl (by decide) (by simp) (by omega) (by omega) rfl rfl rfl rfl ?_))
      intro v1 w1 ho1 hg1 _
      have hb1 : Below X.heap.size X w1 := ⟨hg1.os, hg1.tape, hg1.output, hg1.size, fun i hi => hg1.block i hi (by simp [Value.ownBlock])⟩
      have bE1 := bEX.below hb1 bEX.lt
      have hB1 := bst hBX hb1
      have hs1 := hb1.size
      have c0 := bE1.cell 0
      have c1 := bE1.cell 1
      have c2 := bE1.cell 2
      have c3 := bE1.cell 3
      have c4 := bE1.cell 4
      have c5 := bE1.cell 5
      have c6 := bE1.cell 6
      have c7 := bE1.cell 7
      have c8 := bE1.cell 8
      have c9 := bE1.cell 9
      have c10 := bE1.cell 10
      have c11 := bE1.cell 11
      simp only [List.getElem?_toArray, List.getElem?_cons_zero, List.getElem?_cons_succ] at c0 c1 c2 c3 c4 c5 c6 c7 c8 c9 c10 c11
      have HB1 := Lib.hid hB1
      clear bEX hBX hg1 hb1 hB1
      go_wp2_with (at_builtin; go_must (refine app1 _ _ ho1 (Below.refl X.heap.size w1) (Nat.le_refl _) hs1 under_entry info_entry rfl (by decide) rfl (one12 _ _ _ _ _ _ _ _ _ _ _ _) (by omega) (by omega) rfl rfl rfl rfl ?_))
      intro g2 cap2 w2 ho2 hb2 hg2 _
      have hB2 := HB1.out.trans (hb2.mono (by omega))
      have hs2 := hb2.size
      have HB2 := Lib.hid hB2
      clear c0 c1 c2 c3 c4 c5 c6 c7 c8 c9 c10 c11 bE1 ho1 hg2 hb2 hB2
      have ho2' : w2.ownsRow X.heap.size 34 12 (.slice (some ⟨g2, 0, none⟩) 1 cap2) 1 e.cells := by have := ho2; rw [HEC.out] at this; simpa using this
      clear ho2
      go_wp2_with (at_builtin; go_must (refine appN _ _ ho2' (Sl.nil w2 12) (by omega) under_entry info_entry rfl (by decide) (by simp) (by omega) (by omega) rfl rfl rfl rfl ?_))
      intro v3 w3 ho3 hg3 hor3
      have hB3 := HB2.out.grown hg3 HB2.out.size (fun b hb' => by have := (ho2'.lt b hb').1; omega)
      have HR := Lib.hid (show RetEnts0 w (insE [] e) (.returned v3) w3 from by rw [HF.out]; exact ⟨v3, rfl, by simpa [ents] using own_mono ho3 hwX, hB3⟩)
      clear ho3 hg3 hor3 hB3 ho2'
      go_wp2
      go_ret
      exact HR.out
  · obtain ⟨A', c', e0, hc1, hc2⟩ := (Sl.of_own hown).form
    injection e0 with e1 _ e3
    subst e1 e3
    unfold maxLen at hc2
    have HO := Lib.hid hoW
    have hgs := (hoW.lt g rfl).2
    go_enter Try.func50, Try.ntmps50
    go_upto_region 1 with (fail)
    rw [← hW]
    clear hW hoW hown
    go_wp2
    go_loopw [5] (fun i wr => ∃ k : Nat, k ≤ l.length ∧ i = .int .i64 k ∧ (∃ m, wr = W.drewN m) ∧ Hid (∀ (j : Nat) (d : Ent), l[j]? = some d → j < k → d.id < i1)) (fun i _ => l.length - (intOf i).toNat)
    case atStart => exact ⟨0, by omega, rfl, ⟨0, rfl⟩, Lib.hid fun j d _ hj => absurd hj (Nat.not_lt_zero _)⟩
    case round =>
      obtain ⟨k, hk, rfl, ⟨m, rfl⟩, hno⟩ := hrel
      have e0 : W.cell? ⟨w.heap.size, 0, none⟩ = some (.int .i64 i1) := bE.cell 0
      by_cases hlt : k < l.length
      · obtain ⟨ad, d, p, hA, hd, hp, hE⟩ := (Sl.of_own HO.out).ent_load rfl hlt
        cases hA
        have hp' : p = ⟨g, k * 12, none⟩ := by rw [← hp]; exact Addr.add_lit _ _ _ |>.trans (by rw [Nat.zero_add])
        subst hp'
        have c0 := hE.c0
        have HD := Lib.hid hd
        clear hd hE hp
        by_cases hq : d.id < i1
        · have q1 : decide (d.id < i1) = true := decide_eq_true hq
          have HN := Lib.hid (show ∀ (j : Nat) (x : Ent), l[j]? = some x → j < k + 1 → x.id < i1 from fun j x hx hj => by
            by_cases ej : j = k
            · subst ej; rw [HD.out] at hx; injection hx with hx; rw [← hx]; exact hq
            · exact hno.out j x hx (by omega))
          clear hq
          go_wp2
          go_quiet (fail)
          go_wp2
          go_roundw
          case rel => exact ⟨k + 1, by omega, by go_num, ⟨_, rfl⟩, HN⟩
          case measure => simp [intOf]; omega
        · have q1 : decide (d.id < i1) = false := decide_eq_false hq
          have HF := Lib.hid (HFIN.out k hk hno.out (fun x hx => by rw [HD.out] at hx; injection hx with hx; rw [← hx]; exact Int.not_lt.1 hq))
          clear hq
          go_wp2
          go_quiet (fail)
          generalize hX : World.drewN (W.drewN m) _ = X
          have hoX : X.ownsRow base 34 12 (.slice (some ⟨g, 0, none⟩) l.length cap) l.length (ents l) := by rw [← hX]; exact HO.out
          have bEX : Blk X w.heap.size 34 #[.int .i64 i1, .int .i64 ro1, .int .i64 li1, .bool a1, .int .i64 b1, .string s1, .int .i64 d1, .bool a2, .int .i64 b2, .string s2, .int .i64 d2, .int .i64 de1] := by rw [← hX]; exact bE
          have hBX : Below w.heap.size w X := by rw [← hX]; exact below_drewN (below_drewN hB _) _
          have hwX := hBX.size
          have hXs : W.heap.size ≤ X.heap.size := by rw [← hX]; exact Nat.le_refl _
          clear hX e0
          have hslX := (Sl.of_own hoX).take12 (k := k) rfl hk
          have hgX : g < X.heap.size := by omega
          have hkc : k ≤ cap := by omega
          go_wp2_with (at_builtin; go_must (refine appN _ _ (World.ownsRow_nil X X.heap.size 34 12) hslX (Nat.le_refl _) under_entry info_entry rfl (by decide) (one_ents' _) (by omega) (by omega) rfl rfl rfl rfl ?_))
          intro v1 w1 ho1 hg1 _
          have hb1 : Below X.heap.size X w1 := ⟨hg1.os, hg1.tape, hg1.output, hg1.size, fun i hi => hg1.block i hi (by simp [Value.ownBlock])⟩
          have bE1 := bEX.below hb1 bEX.lt
          have hol1 := own_below hoX hb1
          have hB1 := bst hBX hb1
          have hs1 := hb1.size
          have c0 := bE1.cell 0
          have c1 := bE1.cell 1
          have c2 := bE1.cell 2
          have c3 := bE1.cell 3
          have c4 := bE1.cell 4
          have c5 := bE1.cell 5
          have c6 := bE1.cell 6
          have c7 := bE1.cell 7
          have c8 := bE1.cell 8
          have c9 := bE1.cell 9
          have c10 := bE1.cell 10
          have c11 := bE1.cell 11
          simp only [List.getElem?_toArray, List.getElem?_cons_zero, List.getElem?_cons_succ] at c0 c1 c2 c3 c4 c5 c6 c7 c8 c9 c10 c11
          have HOL := Lib.hid hol1
          have HB1 := Lib.hid hB1
          clear hoX bEX hBX hslX hg1 hb1 hol1 hB1
          go_wp2_with (at_builtin; go_must (refine app1 _ _ ho1 (Below.refl X.heap.size w1) (Nat.le_refl _) hs1 under_entry info_entry rfl (by decide) rfl (one12 _ _ _ _ _ _ _ _ _ _ _ _) (by omega) (by omega) rfl rfl rfl rfl ?_))
          intro g2 cap2 w2 ho2 hb2 hg2 _
          have hol2 := own_grown HOL.out hg2 (fun b hb' e => by
            have h1 := (ho1.lt b e).1
            have hb3 : some g = some b := hb'
            injection hb3 with hb3
            omega)
          have hB2 := HB1.out.trans (hb2.mono (by omega))
          have hsl2 := own_drop hol2 (k := k) rfl hk
          rw [if_neg (show ¬cap = k by omega)] at hsl2
          have hs2 := hb2.size
          have HB2 := Lib.hid hB2
          clear c0 c1 c2 c3 c4 c5 c6 c7 c8 c9 c10 c11 bE1 ho1 hg2 hb2 hB2 hol2
          have hlen2 : (ents (l.take k) ++ e.cells).length = (k + 1) * 12 := by rw [List.length_append, ents_length, List.length_take, Ent.cells_length]; omega
          have ho2' : w2.ownsRow X.heap.size 34 12 (.slice (some ⟨g2, 0, none⟩) (k + 1) cap2) (k + 1) (ents (l.take k) ++ e.cells) := by have := ho2; rw [HEC.out] at this; simpa using this
          clear ho2 hlen2
          go_wp2_with (at_builtin; go_must (refine appN _ _ ho2' hsl2 (by omega) under_entry info_entry rfl (by decide) (one_ents' _) (by omega) (by omega) rfl rfl rfl rfl ?_))
          intro v3 w3 ho3 hg3 hor3
          have hB3 := HB2.out.grown hg3 HB2.out.size (fun b hb' => by have := (ho2'.lt b hb').1; have := HB1.out.size; omega)
          have hfl : (l.take k ++ [e] ++ l.drop k).length = k + 1 + (l.length - k) := by simp; omega
          have hfe : ents (l.take k ++ [e] ++ l.drop k) = ents (l.take k) ++ e.cells ++ ents (l.drop k) := by rw [ents_append, ents_snoc]
          have HR := Lib.hid (show RetEnts0 w (insE l e) (.returned v3) w3 from by rw [HF.out]; exact ⟨v3, rfl, by rw [hfl, hfe, List.append_assoc]; exact own_mono ho3 hwX, hB3⟩)
          clear ho3 hg3 hor3 hB3 hfl hfe ho2' hsl2
          go_wp2
          go_ret
          exact HR.out
      · have HF := Lib.hid (HFIN.out k hk hno.out (fun x hx => absurd (List.getElem?_eq_some_iff.1 hx).1 (by omega)))
        go_wp2
        go_quiet (fail)
        generalize hX : World.drewN (W.drewN m) _ = X
        have hoX : X.ownsRow base 34 12 (.slice (some ⟨g, 0, none⟩) l.length cap) l.length (ents l) := by rw [← hX]; exact HO.out
        have bEX : Blk X w.heap.size 34 #[.int .i64 i1, .int .i64 ro1, .int .i64 li1, .bool a1, .int .i64 b1, .string s1, .int .i64 d1, .bool a2, .int .i64 b2, .string s2, .int .i64 d2, .int .i64 de1] := by rw [← hX]; exact bE
        have hBX : Below w.heap.size w X := by rw [← hX]; exact below_drewN (below_drewN hB _) _
        have hwX := hBX.size
        have hXs : W.heap.size ≤ X.heap.size := by rw [← hX]; exact Nat.le_refl _
        clear hX e0
        have hslX := (Sl.of_own hoX).take12 (k := k) rfl hk
        have hgX : g < X.heap.size := by omega
        have hkc : k ≤ cap := by omega
        go_wp2_with (at_builtin; go_must (refine appN _ _ (World.ownsRow_nil X X.heap.size 34 12) hslX (Nat.le_refl _) under_entry info_entry rfl (by decide) (one_ents' _) (by omega) (by omega) rfl rfl rfl rfl ?_))
        intro v1 w1 ho1 hg1 _
        have hb1 : Below X.heap.size X w1 := ⟨hg1.os, hg1.tape, hg1.output, hg1.size, fun i hi => hg1.block i hi (by simp [Value.ownBlock])⟩
        have bE1 := bEX.below hb1 bEX.lt
        have hol1 := own_below hoX hb1
        have hB1 := bst hBX hb1
        have hs1 := hb1.size
        have c0 := bE1.cell 0
        have c1 := bE1.cell 1
        have c2 := bE1.cell 2
        have c3 := bE1.cell 3
        have c4 := bE1.cell 4
        have c5 := bE1.cell 5
        have c6 := bE1.cell 6
        have c7 := bE1.cell 7
        have c8 := bE1.cell 8
        have c9 := bE1.cell 9
        have c10 := bE1.cell 10
        have c11 := bE1.cell 11
        simp only [List.getElem?_toArray, List.getElem?_cons_zero, List.getElem?_cons_succ] at c0 c1 c2 c3 c4 c5 c6 c7 c8 c9 c10 c11
        have HOL := Lib.hid hol1
        have HB1 := Lib.hid hB1
        clear hoX bEX hBX hslX hg1 hb1 hol1 hB1
        go_wp2_with (at_builtin; go_must (refine app1 _ _ ho1 (Below.refl X.heap.size w1) (Nat.le_refl _) hs1 under_entry info_entry rfl (by decide) rfl (one12 _ _ _ _ _ _ _ _ _ _ _ _) (by omega) (by omega) rfl rfl rfl rfl ?_))
        intro g2 cap2 w2 ho2 hb2 hg2 _
        have hol2 := own_grown HOL.out hg2 (fun b hb' e => by
          have h1 := (ho1.lt b e).1
          have hb3 : some g = some b := hb'
          injection hb3 with hb3
          omega)
        have hB2 := HB1.out.trans (hb2.mono (by omega))
        have hsl2 := own_drop hol2 (k := k) rfl hk
        have hs2 := hb2.size
        have HB2 := Lib.hid hB2
        clear c0 c1 c2 c3 c4 c5 c6 c7 c8 c9 c10 c11 bE1 ho1 hg2 hb2 hB2 hol2
        have hlen2 : (ents (l.take k) ++ e.cells).length = (k + 1) * 12 := by rw [List.length_append, ents_length, List.length_take, Ent.cells_length]; omega
        have ho2' : w2.ownsRow X.heap.size 34 12 (.slice (some ⟨g2, 0, none⟩) (k + 1) cap2) (k + 1) (ents (l.take k) ++ e.cells) := by have := ho2; rw [HEC.out] at this; simpa using this
        clear ho2 hlen2
        go_wp2_with (at_builtin; go_must (refine appN _ _ ho2' hsl2 (by omega) under_entry info_entry rfl (by decide) (one_ents' _) (by omega) (by omega) rfl rfl rfl rfl ?_))
        all_goals
          intro v3 w3 ho3 hg3 hor3
          have hB3 := HB2.out.grown hg3 HB2.out.size (fun b hb' => by have := (ho2'.lt b hb').1; have := HB1.out.size; omega)
          have hfl : (l.take k ++ [e] ++ l.drop k).length = k + 1 + (l.length - k) := by simp; omega
          have hfe : ents (l.take k ++ [e] ++ l.drop k) = ents (l.take k) ++ e.cells ++ ents (l.drop k) := by rw [ents_append, ents_snoc]
          have HR := Lib.hid (show RetEnts0 w (insE l e) (.returned v3) w3 from by rw [HF.out]; exact ⟨v3, rfl, by rw [hfl, hfe, List.append_assoc]; exact own_mono ho3 hwX, hB3⟩)
          clear ho3 hg3 hor3 hB3 hfl hfe ho2' hsl2
          go_wp2
          go_ret
          exact HR.out
end Go.Proofs.Ytoikgjhekemjdaa
