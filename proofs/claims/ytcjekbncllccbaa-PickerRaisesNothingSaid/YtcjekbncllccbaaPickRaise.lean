/-
  Law 28 in plain Lean: what PickerRaisesNothing looks at.
-/
import Derived.Test.YtcjekbncllccbaaPickComm
import Derived.Test.YtcjekbncllccbaaPickHull
import Derived.Test.YtcjekbncllccbaaHullV
namespace Go.Proofs.Ytcjekbncllccbaa
/-- The entries of the first n that are not chosen. -/
def leftE (l : List Ent) (K : List Int) (n : Nat) : List Ent := (l.take n).filter fun e => (chosenE [e] K).isEmpty
theorem leftE_next {l : List Ent} {K : List Int} {n : Nat} {e : Ent} (h : l[n]? = some e) : leftE l K (n + 1) = leftE l K n ++ (if (chosenE [e] K).isEmpty = true then [e] else []) := by
  unfold leftE
  rw [List.take_add_one, h, List.filter_append]
  show _ ++ List.filter _ [e] = _
  rw [List.filter_cons]
  rfl
theorem leftE_len (l : List Ent) (K : List Int) (n : Nat) : (leftE l K n).length ≤ l.length := by
  unfold leftE
  exact Nat.le_trans (List.length_filter_le _ _) (by rw [List.length_take]; omega)
def endsE (l : List Ent) : List Rk := l.flatMap fun e => [e.lo, e.hi]
theorem endsE_snoc (l : List Ent) (e : Ent) : endsE (l ++ [e]) = endsE l ++ [e.lo, e.hi] := by simp [endsE]
theorem endsE_len (l : List Ent) : (endsE l).length = 2 * l.length := by
  unfold endsE
  induction l with
  | nil => rfl
  | cons a r ih => rw [List.flatMap_cons, List.length_append, ih]; simp; omega
/-- The new ranges: the hull, or the hull cut at a rank. -/
def cutB (H : Rg) (n : Int) : Bool := decide (cmpR 1 H.lo (rk0 n 1) ≤ 0) && decide (cmpR 1 (rk0 n 1) H.hi < 0)
def newR (H : Rg) (n : Int) : List Rg := if cutB H n = true then [⟨H.lo, rk0 n 1⟩, ⟨rk0 n 2, H.hi⟩] else [H]
def afterR (l : List Ent) (K : List Int) (H : Rg) (n : Int) : List Rg := (leftE l K l.length).map rgOf ++ newR H n
theorem afterR_len (l : List Ent) (K : List Int) (H : Rg) (n : Int) : (afterR l K H n).length ≤ l.length + 2 := by
  unfold afterR newR
  rw [List.length_append, List.length_map]
  have := leftE_len l K l.length
  split <;> simp <;> omega
theorem rk0_low {n q : Int} (h0 : 0 ≤ q) (h3 : q ≤ 3) : (rk0 n q).low := ⟨rfl, rfl, h0, h3⟩
theorem contR_low {r : Rg} {p : Rk} (h1 : r.lo.low) (h2 : r.hi.low) (hp : p.low) : contR 1 r p = (decide (keyR r.lo ≤ keyR p) && decide (keyR p ≤ keyR r.hi)) := by
  unfold contR
  rw [decide_eq_decide.2 (cmp_key h1 hp).1, decide_eq_decide.2 (cmp_key hp h2).1]
theorem newR_one {H : Rg} {n : Int} {p : Rk} (h1 : H.lo.low) (h2 : H.hi.low) (hp : p.low) :
    (newR H n).countP (fun r => contR 1 r p) ≤ 1 ∧ (0 < (newR H n).countP (fun r => contR 1 r p) → keyR H.lo ≤ keyR p ∧ keyR p ≤ keyR H.hi) := by
  have k1 : (rk0 n 1).low := rk0_low (by omega) (by omega)
  have k2 : (rk0 n 2).low := rk0_low (by omega) (by omega)
  have e1 : keyR (rk0 n 1) = 4 * n + 1 := rfl
  have e2 : keyR (rk0 n 2) = 4 * n + 2 := rfl
  unfold newR
  split
  · rename_i hc
    unfold cutB at hc
    rw [Bool.and_eq_true, decide_eq_true_eq, decide_eq_true_eq, (cmp_key h1 k1).1, (cmp_key k1 h2).2.1] at hc
    rw [List.countP_cons, List.countP_cons, List.countP_nil]
    rw [contR_low (r := ⟨H.lo, rk0 n 1⟩) h1 k1 hp, contR_low (r := ⟨rk0 n 2, H.hi⟩) k2 h2 hp]
    simp only [Bool.and_eq_true, decide_eq_true_eq]
    rw [e1, e2]
    rw [e1] at hc
    split <;> split <;> simp <;> omega
  · rw [List.countP_cons, List.countP_nil, contR_low h1 h2 hp]
    simp only [Bool.and_eq_true, decide_eq_true_eq]
    split <;> simp <;> omega
theorem mostTo_low {t : Int} {l : List Rg} (h : ∀ r ∈ l, r.lo.low) : ∀ k, (mostTo t l k).2.low
  | 0 => (show rk00.low from ⟨rfl, rfl, by decide, by decide⟩)
  | k + 1 => by
    cases he : l[k]? with
    | none =>
      have : mostTo t l (k + 1) = mostTo t l k := by unfold mostTo; rw [List.take_add_one, he]; simp
      rw [this]; exact mostTo_low h k
    | some r =>
      rw [mostTo_next he]
      unfold mostStep
      split
      · exact h r (List.mem_of_getElem? he)
      · exact mostTo_low h k
theorem chosen_none {e : Ent} {K : List Int} (h : (chosenE [e] K).isEmpty = true) : e.id ∉ K := fun hm => by
  unfold chosenE oneE at h
  rw [List.flatMap_cons, List.flatMap_nil, List.append_nil, List.isEmpty_iff, List.map_eq_nil_iff] at h
  have h2 : e.id ∈ K.filter (fun i => decide (e.id = i)) := List.mem_filter.2 ⟨hm, by simp⟩
  rw [h] at h2
  simp at h2
structure Raises (l C : List Ent) (K : List Int) (H : Rg) : Prop where
  ch : chosenE l K = C
  len : C.length = K.length
  small : C.length ≤ l.length
  hull : hullR 1 (C.map rgOf) = some H
  raises : ∀ n, ∀ p ∈ endsE (leftE l K l.length), stabN 1 (afterR l K H n) p ≤ stabN 1 (l.map rgOf) p
section
variable {l : List Ent} (h : Made l)
include h
/-- What holds of the chosen entries: each end of another entry within their hull lies in one of them. -/
theorem Made.raise_of {C : List Ent} {K : List Int} (hch : chosenE l K = C) (hn : K.Nodup) (h0 : 0 < C.length) (hlen : C.length = K.length)
    (cov : ∀ e ∈ l, e.id ∉ K → ∀ v, v = loK e ∨ v = hiK e → ∀ a ∈ C, ∀ b ∈ C, loK a ≤ v → v ≤ hiK b → ∃ c ∈ C, loK c ≤ v ∧ v ≤ hiK c) : ∃ H, Raises l C K H := by
  have hC : C = byIds l K := by rw [← hch, chosen_byIds hn]
  have hmem : ∀ e, e ∈ C ↔ e ∈ l ∧ e.id ∈ K := fun e => by rw [hC]; unfold byIds; rw [List.mem_filter, decide_eq_true_eq]
  have hsm : C.length ≤ l.length := by rw [hC]; exact List.length_filter_le _ _
  have hck : chkRs 1 (C.map rgOf) = true := by
    refine chkRs_yes (by rw [List.length_map]; have := h.len; omega) fun j r hj _ hlt => ?_
    rw [List.getElem?_map] at hj
    cases he : C[j]? with
    | none => rw [he] at hj; simp at hj
    | some e =>
      rw [he] at hj
      simp at hj
      subst hj
      have hm := ((hmem e).1 (List.mem_of_getElem? he)).1
      have := (cmp_key (h.low e hm).1 (h.low e hm).2).2.2.1 hlt
      have := h.ord e hm
      omega
  have hh0 : ((C.map rgOf).headD rg00) ∈ C.map rgOf := by
    cases C with
    | nil => simp at h0
    | cons a r => simp
  obtain ⟨ra, hra, rb, hrb, hH⟩ := hull_mem (t := 1) hh0 (C.map rgOf).length
  obtain ⟨a, ha, rfl⟩ := List.mem_map.1 hra
  obtain ⟨b, hb, rfl⟩ := List.mem_map.1 hrb
  refine ⟨hullTo 1 (C.map rgOf) ((C.map rgOf).headD rg00) (C.map rgOf).length, hch, hlen, hsm, ?_, ?_⟩
  · unfold hullR
    rw [if_neg (by rw [List.length_map, hck]; simp; intro e; rw [e] at h0; simp at h0)]
  · rw [hH]
    intro n p hp
    unfold endsE at hp
    obtain ⟨e, he, hp⟩ := List.mem_flatMap.1 hp
    unfold leftE at he
    rw [List.take_length] at he
    obtain ⟨hel, hek⟩ := List.mem_filter.1 he
    have hnk := chosen_none hek
    have hpl : p.low ∧ (keyR p = loK e ∨ keyR p = hiK e) := by
      simp only [List.mem_cons, List.not_mem_nil, or_false] at hp
      rcases hp with rfl | rfl
      · exact ⟨(h.low e hel).1, .inl rfl⟩
      · exact ⟨(h.low e hel).2, .inr rfl⟩
    have hin : ∀ L : List Ent, (∀ x ∈ L, x ∈ l) → (L.map rgOf).countP (fun r => contR 1 r p) = L.countP (inK (keyR p)) := fun L hL => by
      rw [List.countP_map]
      refine List.countP_congr fun x hx => ?_
      show contR 1 (rgOf x) p = true ↔ _
      rw [contR_low (h.low x (hL x hx)).1 (h.low x (hL x hx)).2 hpl.1]
      rfl
    have hal := ((hmem a).1 ha).1
    have hbl := ((hmem b).1 hb).1
    obtain ⟨w1, w2⟩ := newR_one (H := ⟨(rgOf a).lo, (rgOf b).hi⟩) (n := n) (h.low a hal).1 (h.low b hbl).2 hpl.1
    unfold stabN afterR
    rw [List.countP_append, hin _ (fun x hx => by unfold leftE at hx; exact List.mem_of_mem_take (List.mem_filter.1 hx).1), hin l fun x hx => hx]
    have e1 : leftE l K l.length = l.filter fun e => !decide (e.id ∈ K) := by
      unfold leftE
      rw [List.take_length]
      refine List.filter_congr fun x hx => ?_
      rw [chosen_byIds hn]
      unfold byIds
      rw [List.filter_cons]
      split <;> rename_i hh
      · rw [hh]; rfl
      · rw [Bool.not_eq_true] at hh; rw [hh]; rfl
    rw [e1]
    refine raises_not w1 fun hpos => ?_
    obtain ⟨v1, v2⟩ := w2 hpos
    obtain ⟨c, hc, c1, c2⟩ := cov e hel hnk (keyR p) hpl.2 a ha b hb v1 v2
    obtain ⟨d1, d2⟩ := (hmem c).1 hc
    refine ⟨c, d1, by simpa using d2, ?_⟩
    unfold inK
    rw [Bool.and_eq_true, decide_eq_true_eq, decide_eq_true_eq]
    exact ⟨c1, c2⟩
theorem Made.peakP_low : (peakP 1 l).low := by
  unfold peakP
  exact mostTo_low (fun r hr => by obtain ⟨e, he, rfl⟩ := List.mem_map.1 hr; exact (h.low e he).1) _
theorem Made.raise {d w rows : Int} (hd : 1 ≤ d) (hw : 2 ≤ w) (hK : pickQ 1 l d w rows ≠ []) : ∃ C H, Raises l C (pickQ 1 l d w rows) H := by
  by_cases hp : Go.Proofs.Ytcjekbncllccbaa.peakQ 1 l d w = []
  · cases hs : pairP 1 l rows with
    | none =>
      refine absurd ?_ hK
      unfold pickQ
      rw [if_neg (by simp [hp]), hs]
    | some s =>
      have e : pickQ 1 l d w rows = [min s.1.id s.2.id, max s.1.id s.2.id] := by unfold pickQ; rw [if_neg (by simp [hp]), hs]
      rw [e]
      clear e hK
      obtain ⟨x, y⟩ := s
      obtain ⟨hx, hy, hne, hbf, hok⟩ := h.found hs
      simp only at hx hy hne hbf hok
      have hlx := h.low x hx
      have hly := h.low y hy
      have hbk := (before_key hlx.1 hly.1).1 hbf
      have hxy : loK x ≤ loK y := by unfold loK; omega
      unfold okPair at hok
      simp only [Bool.and_eq_true, Bool.or_eq_true] at hok
      have cov : ∀ C : List Ent, (C = [x, y] ∨ C = [y, x]) → ∀ K : List Int, ∀ e ∈ l, x.id ∈ K → y.id ∈ K → e.id ∉ K → ∀ v, v = loK e ∨ v = hiK e → ∀ a ∈ C, ∀ b ∈ C, loK a ≤ v → v ≤ hiK b → ∃ c ∈ C, loK c ≤ v ∧ v ≤ hiK c := by
        intro C hC K e he hxK hyK hnk v hv a ha b hb h1 h2
        have hCm : ∀ z, z ∈ C ↔ z = x ∨ z = y := fun z => by
          rcases hC with rfl | rfl <;> simp [or_comm]
        have hex : e.id ≠ x.id := fun e' => hnk (by rw [e']; exact hxK)
        have hey : e.id ≠ y.id := fun e' => hnk (by rw [e']; exact hyK)
        have hA : loK x ≤ v ∨ loK y ≤ v := by rcases (hCm a).1 ha with rfl | rfl <;> simp [h1]
        have hB : v ≤ hiK x ∨ v ≤ hiK y := by rcases (hCm b).1 hb with rfl | rfl <;> simp [h2]
        have fin : (loK x ≤ v ∧ v ≤ hiK x) ∨ (loK y ≤ v ∧ v ≤ hiK y) → ∃ c ∈ C, loK c ≤ v ∧ v ≤ hiK c := fun q => by
          rcases q with q | q
          · exact ⟨x, (hCm x).2 (.inl rfl), q⟩
          · exact ⟨y, (hCm y).2 (.inr rfl), q⟩
        refine fin ?_
        clear fin
        rcases hok.2 with hm | hm
        · unfold meetE at hm
          rw [Bool.and_eq_true, decide_eq_true_eq, decide_eq_true_eq, (cmp_key hlx.1 hly.2).1, (cmp_key hly.1 hlx.2).1] at hm
          exact hull_over hm.1 hm.2 hA hB
        · rw [adjE_eq, Bool.and_eq_true] at hm
          have hr := hm.2
          unfold restE at hr
          rw [List.all_eq_true] at hr
          have hr := hr e he
          rw [decide_eq_false hex, decide_eq_false hey, Bool.false_or, Bool.false_or, Bool.not_eq_true', Bool.and_eq_false_iff, decide_eq_false_iff_not, decide_eq_false_iff_not, (cmp_key (h.low e he).2 hlx.2).2.2, (cmp_key (h.low e he).1 hly.1).2.1] at hr
          have hev := h.ord e he
          have hxo := h.ord x hx
          have hyo := h.ord y hy
          unfold loK hiK at *
          rcases hv with rfl | rfl <;> omega
      rcases Int.lt_or_lt_of_ne hne with hlt | hlt
      · have e1 : min x.id y.id = x.id := by omega
        have e2 : max x.id y.id = y.id := by omega
        simp only [e1, e2]
        have hn : [x.id, y.id].Nodup := by simp [hne]
        have h2 := h.two hx hy hne
        obtain ⟨C, hC⟩ : ∃ C, chosenE l [x.id, y.id] = C := ⟨_, rfl⟩
        rw [hC] at h2
        obtain ⟨H, hH⟩ := h.raise_of hC hn (by rcases h2 with rfl | rfl <;> simp) (by rcases h2 with rfl | rfl <;> rfl) (fun e he hk => cov C h2 _ e he (by simp) (by simp) hk)
        exact ⟨C, H, hH⟩
      · have e1 : min x.id y.id = y.id := by omega
        have e2 : max x.id y.id = x.id := by omega
        simp only [e1, e2]
        have hn : [y.id, x.id].Nodup := by simp [Ne.symm hne]
        have h2 := h.two hy hx (Ne.symm hne)
        obtain ⟨C, hC⟩ : ∃ C, chosenE l [y.id, x.id] = C := ⟨_, rfl⟩
        rw [hC] at h2
        obtain ⟨H, hH⟩ := h.raise_of hC hn (by rcases h2 with rfl | rfl <;> simp) (by rcases h2 with rfl | rfl <;> rfl) (fun e he hk => cov C h2.symm _ e he (by simp) (by simp) hk)
        exact ⟨C, H, hH⟩
  · have e : pickQ 1 l d w rows = Go.Proofs.Ytcjekbncllccbaa.peakQ 1 l d w := by unfold pickQ; rw [if_pos hp]
    rw [e] at hK ⊢
    have hD : d < (depthR 1 (l.map rgOf) : Int) := by
      have := (h.peak_len hd hw).1
      exact Decidable.byContradiction fun hn => hp (this (by omega))
    obtain ⟨C, P, hc⟩ := h.common hd hw hD
    have h0 : 0 < l.length := by have := hc.small; have := hc.two; omega
    have hP : P = peakP 1 l := by have := h.peakOf h0; rw [hc.pk] at this; injection this
    have hPl : P.low := by rw [hP]; exact h.peakP_low
    have hn : (Go.Proofs.Ytcjekbncllccbaa.peakQ 1 l d w).Nodup := by
      rw [h.peakQ]
      exact asc_int_nodup (peak_law h.asc h.chk hd hw hD).1
    have hCl : ∀ e ∈ C, e ∈ l := fun e he => by
      have := hc.ch
      rw [chosen_byIds hn] at this
      rw [← this] at he
      exact (List.mem_filter.1 he).1
    obtain ⟨H, hH⟩ := h.raise_of hc.ch hn (by have := hc.two; omega) hc.len (fun e he _ v hv a ha b hb h1 h2 => hull_common (p := keyR P) (fun c hcc => by
      have := hc.inp c hcc
      rw [contR_low (r := rgOf c) (h.low c (hCl c hcc)).1 (h.low c (hCl c hcc)).2 hPl, Bool.and_eq_true, decide_eq_true_eq, decide_eq_true_eq] at this
      exact this) ha hb h1 h2)
    exact ⟨C, H, hH⟩
end
end Go.Proofs.Ytcjekbncllccbaa
