/-
  The contracts of slices.Clone at versions and of garbage.Names.
-/
import Derived.Test.YtjfnpklknehiiaaDoorRGNames
import Derived.Test.YtjfnpklknehiiaaDoorSortN
import Derived.Test.YtjfnpklknehiiaaDoorInv2
namespace Go.Proofs.YtjfnpklknehiiaaDoor
open Go.RowKit
theorem one_snps (h : List Snp) (us : List Value) (hu : ∀ u ∈ us, u.oneCell' = true) : ∀ y ∈ snps h us, y.oneCell' = true := by
  induction h generalizing us with
  | nil => intro y hy; simp [snps] at hy
  | cons s h ih =>
    cases us with
    | nil => intro y hy; simp [snps] at hy
    | cons u us =>
      intro y hy
      simp only [snps, List.mem_append, snCells, List.mem_cons, List.not_mem_nil, or_false] at hy
      rcases hy with (rfl | rfl | rfl | rfl) | hy
      · rfl
      · rfl
      · rfl
      · exact hu _ (by simp)
      · exact ih us (fun u hu' => hu u (by simp [hu'])) y hy
/-- A row of versions made since the world w0, in which their entries lie. -/
def OutS (w0 w : World) (v : Value) (h : List Snp) : Prop :=
  ∃ us : List Value, us.length = h.length ∧ w.ownsRow w0.heap.size 34 4 v h.length (snps h us) ∧ (∀ (k : Nat) (s : Snp) (u : Value), h[k]? = some s → us[k]? = some u → Sl w0 12 u s.l.length (ents s.l)) ∧ Below w0.heap.size w0 w
theorem OutS.sl {w0 w : World} {v : Value} {h : List Snp} (ho : OutS w0 w v h) : SlSn w v h := by
  obtain ⟨us, h1, h2, h3, h4⟩ := ho
  exact ⟨us, h1, Sl.of_own h2, fun k s u hk hu => (h3 k s u hk hu).below h4⟩
theorem OutS.load {w0 w : World} {A : Option Addr} {c n k : Nat} {h : List Snp} (ho : OutS w0 w (.slice A n c) h) (hn : n = h.length) (hk : k < n) :
    ∃ ad s u p, A = some ad ∧ h[k]? = some s ∧ ad.add (k * 4) = p ∧ SnAt w p s u ∧ Sl w0 12 u s.l.length (ents s.l) := by
  obtain ⟨us, h1, h2, h3, h4⟩ := ho
  subst hn
  obtain ⟨A', c', e0, _, _, hlen, h5⟩ := Sl.of_own h2
  injection e0 with e1 e2 e3
  subst e1
  obtain ⟨ad, e, hb, hc⟩ := h5 (by omega)
  have hs := List.getElem?_eq_getElem hk
  have hu := List.getElem?_eq_getElem (show k < us.length by omega)
  have hj : ∀ j v, j < 4 → (snCells h[k] us[k])[j]? = some v → w.cell? (ad.add (k * 4 + j)) = some v := fun j v h5 h6 => hc _ v ((snps_get hs hu h5).trans h6)
  have h0 := hj 0 _ (by omega) rfl
  rw [Nat.add_zero] at h0
  have hj' : ∀ j v, 0 < j → j < 4 → (snCells h[k] us[k])[j]? = some v → w.cell? { block := (ad.add (k * 4)).block, off := (ad.add (k * 4)).off + j } = some v := fun j v h5 h6 h7 => by rw [← add_off _ _ _ h5]; exact hj j v h6 h7
  exact ⟨ad, _, _, _, e, hs, rfl, ⟨World.block_lt_of_cell? w _ h0, h0, hj' 1 _ (by omega) (by omega) rfl, hj' 2 _ (by omega) (by omega) rfl, hj' 3 _ (by omega) (by omega) rfl⟩, h3 k _ _ hs hu⟩
theorem OutS.grown {w0 w w' : World} {v : Value} {h : List Snp} {row : Option Nat} (ho : OutS w0 w v h) (hg : w.grownBy w' row) (hne : ∀ g, v.ownBlock = some g → row ≠ some g) (hr : ∀ k, row = some k → w0.heap.size ≤ k) : OutS w0 w' v h := by
  obtain ⟨us, h1, h2, h3, h4⟩ := ho
  exact ⟨us, h1, own_grown h2 hg hne, h3, h4.grown hg h4.size hr⟩
theorem OutS.below {w0 w w' : World} {v : Value} {h : List Snp} (ho : OutS w0 w v h) (hb : Below w.heap.size w w') : OutS w0 w' v h := by
  obtain ⟨us, h1, h2, h3, h4⟩ := ho
  exact ⟨us, h1, own_below h2 hb, h3, bst h4 hb⟩
theorem OutS.drewN {w0 w : World} {v : Value} {h : List Snp} (ho : OutS w0 w v h) (m : Nat) : OutS w0 (w.drewN m) v h := by obtain ⟨us, h1, h2, h3, h4⟩ := ho; exact ⟨us, h1, h2, h3, below_drewN h4 m⟩
theorem sl_lit2 {w : World} {N : Nat} {a b : Nm} (hb : Blk w N 9 #[.string (bsN a), .string (bsN b)]) : Sl w 1 (.slice (some ⟨N, 0, none⟩) 2 2) 2 (strN [a, b]) :=
  Sl.of_own (base := 0) (e := 9) ⟨rfl, .inr ⟨N, 2, _, rfl, Nat.zero_le _, hb, Nat.le_refl _, by simp [maxLen], rfl, rfl⟩⟩
theorem OutS.ne {w0 w : World} {v u : Value} {h : List Snp} {base n : Nat} {xs : List Value} (ho : OutS w0 w v h) (hn : w.ownsRow base 9 1 u n xs) : ∀ g, v.ownBlock = some g → u.ownBlock ≠ some g := by
  obtain ⟨us, h1, h2, h3, h4⟩ := ho
  exact fun g hg e => own_ne h2 hn (by decide) g hg e
theorem own_lit1 {w : World} {g base : Nat} {x : Nm} (hb : Blk w g 9 #[.string (bsN x)]) (hg : base ≤ g) : w.ownsRow base 9 1 (.slice (some ⟨g, 0, none⟩) 1 1) 1 (strN [x]) :=
  ⟨rfl, .inr ⟨g, 1, _, rfl, hg, hb, Nat.le_refl _, by simp [maxLen], rfl, rfl⟩⟩
def gE (e : Ent) : List Nm := [nameL 80 e.id, nameL 68 e.del]
def gS (log : Int) (es : List Ent) : List Nm := nameL 77 log :: es.flatMap gE
theorem gS_next {log : Int} {es : List Ent} {k : Nat} {e : Ent} (hk : es[k]? = some e) (pre : List Ent) : gS log (pre ++ es.take (k + 1)) = gS log (pre ++ es.take k) ++ [nameL 80 e.id, nameL 68 e.del] := by
  unfold gS
  rw [List.take_add_one, hk]
  simp [gE]
theorem gS_len (log : Int) (es : List Ent) : (gS log es).length = 2 * es.length + 1 := by
  unfold gS
  induction es with
  | nil => rfl
  | cons e r ih => simp only [List.flatMap_cons, List.length_cons, List.length_append, gE] at ih ⊢; simp at ih ⊢; omega
/-- Both lists of names are one. -/
theorem names_same (log : Int) (es es' : List Ent) (hm : ∀ e, e ∈ es ↔ e ∈ es') : namesV (gS log es) = refN log es' := by
  refine ascS_unique (namesV_is _).1 (putAll_is _).1 fun x => ?_
  show _ ↔ x ∈ (refS log es').foldl insN []
  rw [(namesV_is _).2, (putAll_is _).2]
  have key : x ≠ [] → (x ∈ gS log es ↔ x ∈ refS log es') := fun hx => by
    unfold gS refS
    rw [List.mem_cons, List.mem_cons, List.mem_flatMap, List.mem_flatMap]
    refine or_congr Iff.rfl ?_
    constructor
    · rintro ⟨e, he, h⟩
      refine ⟨e, (hm e).1 he, ?_⟩
      simp only [gE, List.mem_cons, List.not_mem_nil, or_false] at h
      unfold refE
      rcases h with h | h
      · exact List.mem_cons.2 (.inl h)
      · refine List.mem_cons.2 (.inr ?_)
        by_cases hd : e.del = 0
        · rw [hd] at h
          exact absurd (h.trans (nameL_bad 68 (by omega))) hx
        · rw [if_neg hd]; simp [h]
    · rintro ⟨e, he, h⟩
      refine ⟨e, (hm e).2 he, ?_⟩
      unfold refE at h
      simp only [gE, List.mem_cons, List.not_mem_nil, or_false]
      rcases List.mem_cons.1 h with h | h
      · exact .inl h
      · split at h
        · simp at h
        · simp at h; exact .inr h
  constructor
  · rintro ⟨h1, h2⟩; exact ⟨(key h2).1 h1, h2⟩
  · rintro ⟨h1, h2⟩; exact ⟨(key h2).2 h1, h2⟩
set_option maxRecDepth 100000 in
set_option maxHeartbeats 4000000 in
theorem cloneSn_any (v : Value) (h : List Snp) (us : List Value) (w : World) (u1 : us.length = h.length) (u2 : Sl w 4 v h.length (snps h us)) (hone : ∀ y ∈ snps h us, y.oneCell' = true) (hl : h.length ≤ 10000000) :
    Calls Tryd.prog 25 #[v] w fun e w' => ∃ v', e = .returned v' ∧ w'.ownsRow w.heap.size 34 4 v' h.length (snps h us) ∧ Below w.heap.size w w' := by
  obtain ⟨A, c, rfl, hc1, hc2⟩ := u2.form
  have HON := Lib.hid hone
  have q22 : ∀ (w : World) (a : Option Addr) (n c n' c' : Nat), (binOp .eql 22 (.slice a n c) (.slice none n' c')).run Tryd.prog w = .ok (.bool a.isNone) w := fun w a n c n' c' => Lib.run_eql_slice_nil w _ _ a n c n' c' under_snap
  rcases A with _ | ad
  · have hl0 : h.length = 0 := by
      rcases Nat.eq_zero_or_pos h.length with h0 | h0
      · exact h0
      · obtain ⟨A', c', e, _, _, _, h4⟩ := u2
        injection e with e1
        obtain ⟨ad, e2, _⟩ := h4 h0
        rw [← e1] at e2; cases e2
    have hl1 := List.eq_nil_of_length_eq_zero hl0
    subst hl1
    go_enter Tryd.func25, Tryd.ntmps25
    go_wp2
    go_ret
    exact ⟨_, rfl, World.ownsRow_nil _ _ _ _, Below.refl _ _⟩
  · have hb0 : Below w.heap.size w (w.alloc (.cells #[] 34)) := abel _ _
    have hsW : Sl (w.alloc (.cells #[] 34)) 4 (.slice (some ad) h.length c) h.length (snps h us) := u2.below hb0
    have hown : (w.alloc (.cells #[] 34)).ownsRow w.heap.size 34 4 (.slice (some ⟨w.heap.size, 0, none⟩) 0 0) 0 [] := ⟨by simp, .inr ⟨w.heap.size, 0, #[], rfl, Nat.le_refl _, heap_alloc_new w _, Nat.le_refl _, by simp [maxLen], by simp, by simp⟩⟩
    clear u2
    go_enter Tryd.func25, Tryd.ntmps25
    go_wp2_with (at_builtin; go_must (refine appN _ _ hown hsW hb0.size under_snap info_snap rfl (by decide) HON.out (by omega) (by omega) rfl rfl rfl rfl ?_))
    intro v1 w1 ho1 hg1 hor1
    have hb1 : Below w.heap.size w w1 := hb0.grown hg1 hb0.size (fun b hb => (hown.lt b hb).1)
    have HR := Lib.hid (show w1.ownsRow w.heap.size 34 4 v1 h.length (snps h us) by simpa using ho1)
    have HB := Lib.hid hb1
    clear ho1 hg1 hor1 hb1
    go_wp2
    go_ret
    exact ⟨_, rfl, HR.out, HB.out⟩
theorem allE_snoc (h : List Snp) (s : Snp) : allE (h ++ [s]) = allE h ++ s.l := by unfold allE; simp
set_option maxRecDepth 100000 in
set_option maxHeartbeats 8000000 in
theorem gnames_any (vh ve : Value) (h : List Snp) (extra : List Ent) (log : Int) (w : World) (hs : SlSn w vh h) (he : Sl w 12 ve extra.length (ents extra)) (hT : extra.length + (allE h).length ≤ 10000000) (hl : h.length ≤ 10000000) (hE : Tab w) :
    Calls Tryd.prog 9 #[vh, .int .i64 log, ve] w (RetNs w w.heap.size (namesV (gS log (allE h ++ extra)))) := by
  obtain ⟨A, c, rfl, hc1, hc2⟩ := hs.form
  obtain ⟨Ae, ce, rfl, _, _⟩ := he.form
  obtain ⟨us, hu1, hu2, hu3⟩ := hs
  have HON := Lib.hid (one_snps h us (fun u hu => by
    obtain ⟨j, hj, e⟩ := List.mem_iff_getElem.1 hu
    obtain ⟨A, c, e2, _⟩ := (hu3 j _ u (List.getElem?_eq_getElem (show j < h.length by omega)) (by rw [List.getElem?_eq_getElem hj, e])).form
    rw [e2]; rfl))
  have U3 := Lib.hid hu3
  clear hu3
  unfold maxLen at hc2
  have HE := Lib.hid (fun (X : World) (hb : Below w.heap.size w X) => hE.below hb)
  have HL0 := Lib.hid (log_any log w hE)
  clear hE
  go_enter Tryd.func9, Tryd.ntmps9
  go_wp2_with fail
  refine HL0.out.mono ?_
  rintro _ w1 ⟨rfl, hb1⟩
  clear HL0
  go_upto_region 2 with (fail)
  obtain ⟨w2, hw2⟩ : ∃ w2, w2 = w1.alloc (.cells #[.string ⟨(nameL 77 log).toArray⟩] 9) := ⟨_, rfl⟩
  obtain ⟨G, hG⟩ : ∃ G, w1.heap.size = G := ⟨_, rfl⟩
  have HGB := Lib.hid (show w.heap.size ≤ G by rw [← hG]; exact hb1.size)
  have NM2 := Lib.hid (show w2.ownsRow w.heap.size 9 1 (.slice (some ⟨G, 0, none⟩) 1 1) 1 (strN [nameL 77 log]) from own_lit1 (by rw [hw2, ← hG]; exact Blk.new _ _ _) HGB.out)
  have B2 := Lib.hid (show Below w.heap.size w w2 by rw [hw2]; exact bst hb1 (abel _ _))
  rw [← hw2]
  simp only [hG]
  clear hw2 hG hb1
  have HCL := Lib.hid (cloneSn_any (.slice A h.length c) h us w2 hu1 (hu2.below B2.out) HON.out hl)
  go_wp2_with fail
  refine HCL.out.mono ?_
  rintro _ w3 ⟨v3, rfl, ho3, hb3⟩
  have NM3 := Lib.hid (own_below NM2.out hb3)
  have B3 := Lib.hid (bst B2.out hb3)
  have ho3b := own_mono ho3 B2.out.size
  obtain ⟨n, hn⟩ : ∃ n, h.length = n := ⟨_, rfl⟩
  rw [hn] at ho3b hl hc1 ⊢
  have HN := Lib.hid hn
  have hsz3 := B3.out.size
  clear hb3 hn HCL ho3 hu2
  go_wp2_with (at_builtin; go_must (refine app1 _ _ ho3b (Below.refl w.heap.size w3) (Nat.le_refl _) hsz3 under_snap info_snap rfl (by decide) rfl (one4 _ _ _ _ _ _) (by omega) (by omega) rfl rfl rfl rfl ?_))
  intro g4 c4 w4 ho4 hb4 hg4 hor4
  have OS4 := Lib.hid (show OutS w w4 (.slice (some ⟨g4, 0, none⟩) (n + 1) c4) (h ++ [⟨0, 0, 0, extra⟩]) from ⟨us ++ [.slice Ae extra.length ce], by simp [hu1], by rw [List.length_append, HN.out, snps_snoc hu1]; exact ho4, fun k s u hk hu => by
    by_cases hlt : k < h.length
    · rw [List.getElem?_append_left hlt] at hk
      rw [List.getElem?_append_left (by omega)] at hu
      exact U3.out k s u hk hu
    · rw [List.getElem?_append_right (by omega)] at hk
      rw [List.getElem?_append_right (by omega), hu1] at hu
      rcases hkk : k - h.length with _ | j
      · rw [hkk] at hk hu; simp at hk hu; subst hk hu; exact he
      · rw [hkk] at hk; simp at hk, B3.out.grown hg4 B3.out.size (fun b hb => (ho3b.lt b hb).1)⟩)
  have NM4 := Lib.hid (own_grown NM3.out hg4 (fun b hb e => own_ne NM3.out ho3b (by decide) b hb e))
  have B4 := Lib.hid (B3.out.grown hg4 B3.out.size (fun b hb => (ho3b.lt b hb).1))
  have HNL := Lib.hid (show (h ++ [(⟨0, 0, 0, extra⟩ : Snp)]).length = n + 1 by rw [List.length_append, HN.out]; rfl)
  have HAL := Lib.hid (show allE (h ++ [⟨0, 0, 0, extra⟩]) = allE h ++ extra from allE_snoc _ _)
  have HTT := Lib.hid (show (allE (h ++ [⟨0, 0, 0, extra⟩])).length ≤ 10000000 by rw [allE_snoc, List.length_append]; simp only; omega)
  obtain ⟨hh, hhh⟩ : ∃ hh : List Snp, h ++ [⟨0, 0, 0, extra⟩] = hh := ⟨_, rfl⟩
  rw [hhh] at OS4 HNL HAL HTT
  have HW2 := Lib.hid B2.out.size
  clear ho4 hb4 hg4 hor4 ho3b hsz3 hhh
  go_wp2
  go_loopw [7, 22] (fun v7 i wr => ∃ k : Nat, i = .int .i64 k ∧ k ≤ n + 1 ∧ wr.ownsRow w.heap.size 9 1 v7 (gS log (allE (hh.take k))).length (strN (gS log (allE (hh.take k)))) ∧ OutS w wr (.slice (some ⟨g4, 0, none⟩) (n + 1) c4) hh ∧ Below w.heap.size w wr) (fun _ i _ => n + 1 - (intOf i).toNat)
  case atStart => exact ⟨0, rfl, by omega, NM4.out, OS4.out, B4.out⟩
  case round =>
    obtain ⟨k, rfl, hk, hnm, hos, hbel⟩ := hrel
    by_cases hlt : k < n + 1
    · obtain ⟨ad, s, u, p, hA0, hse, hp, hSA, hSl⟩ := hos.load (k := k) HNL.out.symm (by omega)
      cases hA0
      rw [Addr.add_lit, Nat.zero_add] at hp
      subst hp
      obtain ⟨hplt, c0, c1, c2, c3⟩ := hSA
      have hkd : decide ((k : Int) < (n : Int) + 1) = true := by simp; omega
      obtain ⟨AL, cL, rfl, hL1, hL2⟩ := hSl.form
      unfold maxLen at hL2
      dsimp only at c0 c1 c2 c3 hplt
      have HSE := Lib.hid hse
      have HLT := Lib.hid hlt
      have HNX := Lib.hid (allE_next hse)
      have hle : (allE (hh.take k)).length + s.l.length ≤ 10000000 := by
        have h1 := allE_le hh (k + 1)
        rw [allE_next hse, List.length_append] at h1
        have := HTT.out; omega
      have HLE := Lib.hid hle
      obtain ⟨Z, hZ⟩ : ∃ Z, s.l.length = Z := ⟨_, rfl⟩
      rw [hZ] at hle hSl c3 hL1
      have HZ := Lib.hid hZ
      clear hse hZ
      go_upto_region 5 with (fail)
      obtain ⟨w5, hw5⟩ : ∃ w5, w5 = wr.alloc (.cells #[.int .i64 s.ver, .int .i64 s.seq, .int .i64 s.nid, .slice AL Z cL] 34) := ⟨_, rfl⟩
      obtain ⟨B, hB⟩ : ∃ B, wr.heap.size = B := ⟨_, rfl⟩
      have BS := Lib.hid (show Blk w5 B 34 #[.int .i64 s.ver, .int .i64 s.seq, .int .i64 s.nid, .slice AL Z cL] by rw [hw5, ← hB]; exact Blk.new _ _ _)
      have hb5 : Below wr.heap.size wr w5 := by rw [hw5]; exact abel _ _
      have N5 := Lib.hid (own_below hnm hb5)
      have OS5 := Lib.hid (hos.below hb5)
      have B5 := Lib.hid (bst hbel hb5)
      have SL5 := Lib.hid hSl
      rw [← hw5]
      simp only [hB]
      clear hw5 hnm hos hbel hSl hb5 hB c0 c1 c2 c3 hplt
      have bb := BS.out
      have n0 := bb.cell 0
      have n1 := bb.cell 1
      have n2 := bb.cell 2
      have n3 := bb.cell 3
      simp only [List.getElem?_toArray, List.getElem?_cons_zero, List.getElem?_cons_succ] at n0 n1 n2 n3
      clear bb
      go_wp2
      go_loopw [7, 29] (fun v7 i wr => ∃ m : Nat, i = .int .i64 m ∧ m ≤ Z ∧ wr.ownsRow w.heap.size 9 1 v7 (gS log (allE (hh.take k) ++ s.l.take m)).length (strN (gS log (allE (hh.take k) ++ s.l.take m))) ∧ OutS w wr (.slice (some ⟨g4, 0, none⟩) (n + 1) c4) hh ∧ Below w.heap.size w wr ) (fun _ i _ => Z - (intOf i).toNat)
      case atStart => exact ⟨0, rfl, by omega, by rw [List.take_zero, List.append_nil]; exact N5.out, OS5.out, B5.out⟩
      case round =>
        obtain ⟨m, rfl, hm, hnm, hos, hbel⟩ := hrel
        by_cases hlm : m < Z
        · obtain ⟨ade, e, pe, hAe, hee, hpe, hEc⟩ := (SL5.out.below hbel).ent_load HZ.out.symm hlm
          cases hAe
          obtain ⟨hplt, c0, c1, c2, c3, c4', c5, c6, c7, c8, c9, c10, c11⟩ := hEc
          have HLM := Lib.hid hlm
          have HGX := Lib.hid (gS_next (log := log) hee (allE (hh.take k)))
          have HLN := Lib.hid (show (gS log (allE (hh.take k) ++ s.l.take m)).length ≤ 20000003 by rw [gS_len, List.length_append, List.length_take]; have := HLE.out; omega)
          obtain ⟨cur, hcur⟩ : ∃ cur, (gS log (allE (hh.take k) ++ s.l.take m)) = cur := ⟨_, rfl⟩
          rw [hcur] at hnm HGX HLN
          obtain ⟨Q, hQ⟩ : ∃ Q, cur.length = Q := ⟨_, rfl⟩
          rw [hQ] at hnm HLN
          have HQ := Lib.hid hQ
          clear hcur hQ hee
          go_upto_region 8 with (fail)
          obtain ⟨w6, hw6⟩ : ∃ w6, w6 = wr.alloc (.cells #[.int .i64 e.id, .int .i64 e.rows, .int .i64 e.live, .bool e.lo.null, .int .i64 e.lo.n, .string e.lo.s, .int .i64 e.lo.seq, .bool e.hi.null, .int .i64 e.hi.n, .string e.hi.s, .int .i64 e.hi.seq, .int .i64 e.del] 40) := ⟨_, rfl⟩
          obtain ⟨NE, hNE⟩ : ∃ NE, wr.heap.size = NE := ⟨_, rfl⟩
          have BE := Lib.hid (show Blk w6 NE 40 #[.int .i64 e.id, .int .i64 e.rows, .int .i64 e.live, .bool e.lo.null, .int .i64 e.lo.n, .string e.lo.s, .int .i64 e.lo.seq, .bool e.hi.null, .int .i64 e.hi.n, .string e.hi.s, .int .i64 e.hi.seq, .int .i64 e.del] by rw [hw6, ← hNE]; exact Blk.new _ _ _)
          have hb6 : Below wr.heap.size wr w6 := by rw [hw6]; exact abel _ _
          have N6 := Lib.hid (own_below hnm hb6)
          have OS6 := Lib.hid (hos.below hb6)
          have B6 := Lib.hid (bst hbel hb6)
          rw [← hw6]
          simp only [hNE]
          clear hw6 hNE hb6 hnm hos hbel c0 c1 c2 c3 c4' c5 c6 c7 c8 c9 c10 c11 hplt
          have hq2 := HLN.out
          refine wp_region_inv (by kernel_rfl) (by kernel_rfl) (fun L a w' => ∃ v33 v34 v35 v36 v37 v38 v39 v40 v41 v7 : Value, a = ⟨#[.slice A n c, .int .i64 log, .slice Ae extra.length ce, undef, undef, undef, .slice none 0 0, v7, undef, .pointer (some ⟨B, 0, none⟩), undef, .pointer (some ⟨NE, 0, none⟩), .int .i64 log, .string { data := (nameL 77 log).toArray }, .slice (some ⟨G, 0, none⟩) 1 1, .slice A n c, v3, .slice Ae extra.length ce, .agg #[.int .i64 0, .int .i64 0, .int .i64 0, .slice Ae extra.length ce], .slice (some ⟨w3.heap.size, 0, none⟩) 1 1, .slice (some ⟨g4, 0, none⟩) (n + 1) c4, .int .i64 (n + 1), .int .i64 k, .bool true, .pointer (some ⟨g4, k * 4, none⟩), .agg #[.int .i64 s.ver, .int .i64 s.seq, .int .i64 s.nid, .slice (some ade) Z cL], .pointer (some ⟨B, 3, none⟩), .slice (some ade) Z cL, .int .i64 Z, .int .i64 m, .bool true, .pointer (some pe), .agg #[.int .i64 e.id, .int .i64 e.rows, .int .i64 e.live, .bool e.lo.null, .int .i64 e.lo.n, .string e.lo.s, .int .i64 e.lo.seq, .bool e.hi.null, .int .i64 e.hi.n, .string e.hi.s, .int .i64 e.hi.seq, .int .i64 e.del], v33, v34, v35, v36, v37, v38, v39, v40, v41, u42, u43, undef, undef, undef, undef, undef], []⟩ ∧
              Below w.heap.size w w' ∧ Got (L 0) v33 u7 ∧ Got (L 1) v34 (.pointer (some ⟨NE, 0, none⟩)) ∧ Got (L 2) v35 (.int .i64 e.id) ∧ Got (L 3) v36 (.string ⟨(nameL 80 e.id).toArray⟩) ∧ Got (L 4) v37 (.pointer (some ⟨NE, 11, none⟩)) ∧ Got (L 5) v38 (.int .i64 e.del) ∧ Got (L 6) v39 (.string ⟨(nameL 68 e.del).toArray⟩) ∧ (L 7 = true → L 8 = false → ∃ N, v40 = .slice (some ⟨N, 0, none⟩) 2 2 ∧ Blk w' N 9 #[(.string ⟨(nameL 80 e.id).toArray⟩), (.string ⟨(nameL 68 e.del).toArray⟩)]) ∧ (L 8 = true → w'.ownsRow w.heap.size 9 1 v41 (Q + 2) (strN (cur ++ [nameL 80 e.id, nameL 68 e.del]))) ∧ Got (L 9) v7 v41 ∧ (L 9 = false → v7 = u7) ∧ (L 8 = false → w'.ownsRow w.heap.size 9 1 u7 Q (strN cur)) ∧ OutS w w' (.slice (some ⟨g4, 0, none⟩) (n + 1) c4) hh ∧ Blk w' NE 40 #[.int .i64 e.id, .int .i64 e.rows, .int .i64 e.live, .bool e.lo.null, .int .i64 e.lo.n, .string e.lo.s, .int .i64 e.lo.seq, .bool e.hi.null, .int .i64 e.hi.n, .string e.hi.s, .int .i64 e.hi.seq, .int .i64 e.del] ∧ (L 9 = true → L 0 = true ∧ L 8 = true))
            ?_ ?_ ?_
          · exact ⟨_, _, _, _, _, _, _, _, _, u7, rfl, (below_drewN B6.out 1), nofun, nofun, nofun, nofun, nofun, nofun, nofun, nofun, nofun, nofun, fun _ => rfl, fun _ => N6.out, OS6.out.drewN 1, BE.out, nofun⟩
          · refine ⟨?_, ?_, ?_, ?_, ?_, ?_, ?_, ?_, ?_, ?_, trivial⟩
            · rintro L a w' ⟨v33, v34, v35, v36, v37, v38, v39, v40, v41, v7, rfl, hb, g0, g1, g2, g3, g4, g5, g6, g7, g8, g9, g10, g11, g12, g13, g14⟩ hl hd K hK
              dsimp only at hK ⊢
              have h9 : L 9 = false := by
                cases h : L 9 with
                | false => rfl
                | true => have := (g14 h).1; rw [hl] at this; cases this
              have e9 := g10 h9
              subst e9
              go_simp
              exact hK _ _ ⟨_, _, _, _, _, _, _, _, _, _, rfl, hb, fun _ => rfl, g1, g2, g3, g4, g5, g6, g7, g8, g9, g10, g11, g12, g13, fun h => ⟨rfl, (g14 h).2⟩⟩
            · rintro L a w' ⟨v33, v34, v35, v36, v37, v38, v39, v40, v41, v7, rfl, hb, g0, g1, g2, g3, g4, g5, g6, g7, g8, g9, g10, g11, g12, g13, g14⟩ hl hd K hK
              dsimp only at hK ⊢
              go_simp
              exact hK _ _ ⟨_, _, _, _, _, _, _, _, _, _, rfl, hb, g0, fun _ => rfl, g2, g3, g4, g5, g6, g7, g8, g9, g10, g11, g12, g13, g14⟩
            · rintro L a w' ⟨v33, v34, v35, v36, v37, v38, v39, v40, v41, v7, rfl, hb, g0, g1, g2, g3, g4, g5, g6, g7, g8, g9, g10, g11, g12, g13, g14⟩ hl hd K hK
              simp [Region.binds] at hd
              dsimp only at hK ⊢
              have e1 := g1 (by simp [hd])
              subst e1
              have hlt := g13.lt
              have b0 := g13.cell 0
              have b11 := g13.cell 11
              simp only [List.getElem?_toArray, List.getElem?_cons_zero, List.getElem?_cons_succ] at b0 b11
              go_simp
              exact hK _ _ ⟨_, _, _, _, _, _, _, _, _, _, rfl, hb, g0, g1, fun _ => rfl, g3, g4, g5, g6, g7, g8, g9, g10, g11, g12, g13, g14⟩
            · rintro L a w' ⟨v33, v34, v35, v36, v37, v38, v39, v40, v41, v7, rfl, hb, g0, g1, g2, g3, g4, g5, g6, g7, g8, g9, g10, g11, g12, g13, g14⟩ hl hd K hK
              simp [Region.binds] at hd
              dsimp only at hK ⊢
              have e2 := g2 (by simp [hd])
              subst e2
              go_wp2_with fail
              refine (part_any e.id w' (HE.out w' hb)).mono ?_
              rintro _ w8 ⟨rfl, hb4⟩
              exact hK _ _ ⟨_, _, _, _, _, _, _, _, _, _, rfl, bst hb hb4, g0, g1, g2, fun _ => rfl, g4, g5, g6, fun h h2 => (by obtain ⟨N, e1, e2⟩ := g7 h h2; exact ⟨N, e1, e2.below hb4 e2.lt⟩), fun h => own_below (g8 h) hb4, g9, g10, fun h => own_below (g11 h) hb4, g12.below hb4, g13.below hb4 g13.lt, g14⟩
            · rintro L a w' ⟨v33, v34, v35, v36, v37, v38, v39, v40, v41, v7, rfl, hb, g0, g1, g2, g3, g4, g5, g6, g7, g8, g9, g10, g11, g12, g13, g14⟩ hl hd K hK
              dsimp only at hK ⊢
              go_simp
              exact hK _ _ ⟨_, _, _, _, _, _, _, _, _, _, rfl, hb, g0, g1, g2, g3, fun _ => rfl, g5, g6, g7, g8, g9, g10, g11, g12, g13, g14⟩
            · rintro L a w' ⟨v33, v34, v35, v36, v37, v38, v39, v40, v41, v7, rfl, hb, g0, g1, g2, g3, g4, g5, g6, g7, g8, g9, g10, g11, g12, g13, g14⟩ hl hd K hK
              simp [Region.binds] at hd
              dsimp only at hK ⊢
              have e4 := g4 (by simp [hd])
              subst e4
              have hlt := g13.lt
              have b0 := g13.cell 0
              have b11 := g13.cell 11
              simp only [List.getElem?_toArray, List.getElem?_cons_zero, List.getElem?_cons_succ] at b0 b11
              go_simp
              exact hK _ _ ⟨_, _, _, _, _, _, _, _, _, _, rfl, hb, g0, g1, g2, g3, g4, fun _ => rfl, g6, g7, g8, g9, g10, g11, g12, g13, g14⟩
            · rintro L a w' ⟨v33, v34, v35, v36, v37, v38, v39, v40, v41, v7, rfl, hb, g0, g1, g2, g3, g4, g5, g6, g7, g8, g9, g10, g11, g12, g13, g14⟩ hl hd K hK
              simp [Region.binds] at hd
              dsimp only at hK ⊢
              have e5 := g5 (by simp [hd])
              subst e5
              go_wp2_with fail
              refine (del_any e.del w' (HE.out w' hb)).mono ?_
              rintro _ w8 ⟨rfl, hb4⟩
              exact hK _ _ ⟨_, _, _, _, _, _, _, _, _, _, rfl, bst hb hb4, g0, g1, g2, g3, g4, g5, fun _ => rfl, fun h h2 => (by obtain ⟨N, e1, e2⟩ := g7 h h2; exact ⟨N, e1, e2.below hb4 e2.lt⟩), fun h => own_below (g8 h) hb4, g9, g10, fun h => own_below (g11 h) hb4, g12.below hb4, g13.below hb4 g13.lt, g14⟩
            · rintro L a w' ⟨v33, v34, v35, v36, v37, v38, v39, v40, v41, v7, rfl, hb, g0, g1, g2, g3, g4, g5, g6, g7, g8, g9, g10, g11, g12, g13, g14⟩ hl hd K hK
              simp [Region.binds] at hd
              dsimp only at hK ⊢
              have e3 := g3 (by simp [hd])
              subst e3
              have e6 := g6 (by simp [hd])
              subst e6
              go_simp
              exact hK _ _ ⟨_, _, _, _, _, _, _, _, _, _, rfl, hb.alloc hb.size _, g0, g1, g2, g3, g4, g5, g6, fun _ _ => ⟨w'.heap.size, rfl, Blk.new _ _ _⟩, fun h => (g8 h).alloc _, g9, g10, fun h => (g11 h).alloc _, g12.below (abel _ _), g13.alloc _, g14⟩
            · rintro L a w' ⟨v33, v34, v35, v36, v37, v38, v39, v40, v41, v7, rfl, hb, g0, g1, g2, g3, g4, g5, g6, g7, g8, g9, g10, g11, g12, g13, g14⟩ hl hd K hK
              simp [Region.binds] at hd
              dsimp only at hK ⊢
              have e0 := g0 (by simp [hd])
              subst e0
              have h7 : L 7 = true := by simp [hd]
              obtain ⟨N, e1, e2⟩ := g7 h7 hl
              subst e1
              have ho := g11 hl
              have h9 : L 9 = false := by
                cases h : L 9 with
                | false => rfl
                | true => have := (g14 h).2; rw [hl] at this; cases this
              refine wp_app (P := Tryd.prog) (n := Q) (xs := strN cur) (m := 2) (base := w.heap.size) (.tmp 33) (.tmp 40) ho (sl_lit2 e2) hb.size under_str info_str rfl (by decide) (one_strN _) (by omega) (by omega) rfl rfl rfl ?_
              intro v4 w8 ho4 hg4 _
              exact hK _ _ ⟨_, _, _, _, _, _, _, _, _, _, rfl, hb.grown hg4 hb.size (fun b hb' => (ho.lt b hb').1), g0, g1, g2, g3, g4, g5, g6, fun _ h => absurd (show (true : Bool) = false from h) (by simp), fun _ => (by rw [strN_append]; exact ho4), fun h => absurd (show L 9 = true from h) (by rw [h9]; simp), g10, fun h => absurd (show (true : Bool) = false from h) (by simp), g12.grown hg4 (fun b hb' => g12.ne ho b hb') (fun b hb' => (ho.lt b hb').1), g13.grown hg4 (own_blk_ne ho g13 (by decide)), fun h => absurd (show L 9 = true from h) (by rw [h9]; simp)⟩
            · rintro L a w' ⟨v33, v34, v35, v36, v37, v38, v39, v40, v41, v7, rfl, hb, g0, g1, g2, g3, g4, g5, g6, g7, g8, g9, g10, g11, g12, g13, g14⟩ hl hd K hK
              simp [Region.binds] at hd
              dsimp only at hK ⊢
              have hd0 : L 0 = true := by simp [hd]
              have hd8 : L 8 = true := by simp [hd]
              go_simp
              exact hK _ _ ⟨_, _, _, _, _, _, _, _, _, _, rfl, hb, g0, g1, g2, g3, g4, g5, g6, g7, g8, fun _ => rfl, fun h => absurd (show (true : Bool) = false from h) (by simp), g11, g12, g13, fun _ => ⟨hd0, hd8⟩⟩
          rintro a w9 ⟨v33, v34, v35, v36, v37, v38, v39, v40, v41, v7, rfl, hb, g0, g1, g2, g3, g4, g5, g6, g7, g8, g9, g10, g11, g12, g13, g14⟩
          have e0 := g0 rfl
          subst e0
          have e1 := g1 rfl
          subst e1
          have e2 := g2 rfl
          subst e2
          have e3 := g3 rfl
          subst e3
          have e4 := g4 rfl
          subst e4
          have e5 := g5 rfl
          subst e5
          have e6 := g6 rfl
          subst e6
          have e9 := g9 rfl
          subst e9
          have N9 := Lib.hid (g8 rfl)
          have OS9 := Lib.hid g12
          have B9 := Lib.hid hb
          have HLQ := Lib.hid (show (cur ++ [nameL 80 e.id, nameL 68 e.del]).length = Q + 2 by rw [List.length_append, HQ.out]; rfl)
          clear g0 g1 g2 g3 g4 g5 g6 g7 g8 g9 g10 g11 g12 g13 g14 hb hq2
          go_wp2
          go_roundw
          case rel => exact ⟨m + 1, by go_num, HLM.out, by rw [HGX.out, HLQ.out]; exact N9.out, OS9.out, B9.out⟩
          case measure => have := HLM.out; simp [intOf]; omega
        · rw [List.take_of_length_le (show s.l.length ≤ m by rw [HZ.out]; omega), ← HNX.out] at hnm
          have NF := Lib.hid hnm
          have OF := Lib.hid hos
          have BF := Lib.hid hbel
          clear hnm hos hbel
          go_wp2
          go_roundw
          case rel => exact ⟨k + 1, by go_num, HLT.out, NF.out, OF.out, BF.out⟩
          case measure => have := HLT.out; simp [intOf]; omega
    · rw [List.take_of_length_le (show hh.length ≤ k by rw [HNL.out]; omega), HAL.out] at hnm
      have HLL := Lib.hid (show (gS log (allE h ++ extra)).length ≤ 100000000 by rw [gS_len, List.length_append]; omega)
      have H0 := Lib.hid (show (gS log (allE h ++ extra)).length = 2 * (allE h ++ extra).length + 1 from gS_len _ _)
      have BF := Lib.hid hbel
      obtain ⟨nl, hnl⟩ : ∃ nl, gS log (allE h ++ extra) = nl := ⟨_, rfl⟩
      have HNLS := Lib.hid hnl
      rw [hnl] at hnm HLL H0
      clear hnl hbel hos
      rcases hnm.2 with ⟨e0, h0⟩ | ⟨gg, cap, cu, e0, hgb, _⟩
      · exfalso; have := H0.out; omega
      subst e0
      have HGG := Lib.hid (show w.heap.size ≤ gg from (hnm.lt gg rfl).1)
      have HS := Lib.hid (sortS_any gg cap w.heap.size nl wr hnm HLL.out)
      have HSL := Lib.hid (sortN_perm nl).length_eq
      clear hnm hgb
      go_wp2_with fail
      refine HS.out.mono ?_
      rintro _ w5 ⟨rfl, ho5, hg5⟩
      have O5 := Lib.hid ho5
      have B5 := Lib.hid (below_row BF.out hg5 HGG.out BF.out.size)
      have HC := Lib.hid (compS_any gg cap w.heap.size (sortN nl) w5 ho5 (by have := HSL.out; have := HLL.out; omega))
      rw [HSL.out] at HC
      clear ho5 hg5 HS
      go_wp2_with fail
      refine HC.out.mono ?_
      rintro _ w6 ⟨rfl, ho6, hg6⟩
      have B6 := Lib.hid (below_row B5.out hg6 HGG.out B5.out.size)
      have HD := Lib.hid (delS_any gg cap w.heap.size (compN (sortN nl)) w6 ho6 (by have := HSL.out; have := HLL.out; have := compN_len (sortN nl); omega))
      clear ho6 hg6 HC
      go_wp2_with fail
      refine HD.out.mono ?_
      rintro _ w7 ⟨rfl, ho7, hg7⟩
      have O7 := Lib.hid ho7
      have B7 := Lib.hid (below_row B6.out hg7 HGG.out B6.out.size)
      clear ho7 hg7 HD
      go_wp2
      go_ret
      exact ⟨_, rfl, by rw [HNLS.out]; exact O7.out, B7.out⟩
end Go.Proofs.YtjfnpklknehiiaaDoor
