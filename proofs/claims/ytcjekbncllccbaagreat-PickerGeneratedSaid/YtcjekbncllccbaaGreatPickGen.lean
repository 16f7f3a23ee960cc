/-
  Law 28 in plain Lean: at entries with ranks of integers, valid or not, the program's answers and the reference's are the same.
-/
import Derived.Test.YtcjekbncllccbaaGreatPickLaw2
import Derived.Test.YtcjekbncllccbaaGreatPickFits
namespace Go.Proofs.YtcjekbncllccbaaGreat
/-- Entries as the statements make them, of which one may have been changed. -/
structure Loose (l : List Ent) : Prop where
  low : LowL l
  len : l.length ≤ 256
  small : ∀ e ∈ l, e.small
  live : ∀ e ∈ l, -1000000 ≤ e.live ∧ e.live ≤ 1000000
theorem Made.loose {l : List Ent} (h : Made l) : Loose l := ⟨h.low, h.len, h.small, h.live'⟩
theorem mem_set {l : List Ent} {k : Nat} {e x : Ent} (h : x ∈ l.set k e) : x ∈ l ∨ x = e := by
  rcases List.mem_or_eq_of_mem_set h with h | h
  · exact .inl h
  · exact .inr h
theorem Loose.set {l : List Ent} (h : Loose l) (k : Nat) {e : Ent} (h1 : e.lo.low ∧ e.hi.low) (h2 : e.small) (h3 : -1000000 ≤ e.live ∧ e.live ≤ 1000000) : Loose (l.set k e) where
  low := fun x hx => by
    rcases mem_set hx with hx | rfl
    · exact h.low x hx
    · exact h1
  len := by rw [List.length_set]; exact h.len
  small := fun x hx => by
    rcases mem_set hx with hx | rfl
    · exact h.small x hx
    · exact h2
  live := fun x hx => by
    rcases mem_set hx with hx | rfl
    · exact h.live x hx
    · exact h3
/-- The program's Adjacent. -/
def adjP (t : Int) (l : List Ent) (a b : Int) : Bool := chkEs t l && match idxE l a, idxE l b with
  | some i, some k => (match l[i]?, l[k]? with | some x, some y => adjI t l i k x y | _, _ => false)
  | _, _ => false
/-- The reference's Peak. -/
def peakW (t : Int) (l : List Ent) (d w : Int) : List Int :=
  if chkEs t l = false ∨ d < 1 ∨ w < 2 ∨ (depthR t (l.map rgOf) : Int) ≤ d then [] else sortI (((chosenL (l.filter (inP t (oRk (peakOf t (l.map rgOf)))))).take w.toNat).map (·.id))
/-- The reference's Pick. -/
def pickW (t : Int) (l : List Ent) (d w rows : Int) : List Int :=
  if peakW t l d w ≠ [] then peakW t l d w else match pairV t l (candR t l rows l.length) with | none => [] | some s => insI [s.1.id] s.2.id
theorem insI_two (a b : Int) : insI [a] b = [min a b, max a b] := by
  unfold insI
  by_cases h : a < b
  · rw [List.takeWhile_cons_of_pos (by simpa using h), List.dropWhile_cons_of_pos (by simpa using h)]
    have e1 : min a b = a := by omega
    have e2 : max a b = b := by omega
    rw [e1, e2]; rfl
  · rw [List.takeWhile_cons_of_neg (by simpa using h), List.dropWhile_cons_of_neg (by simpa using h)]
    have e1 : min a b = b := by omega
    have e2 : max a b = a := by omega
    rw [e1, e2]; rfl
theorem Loose.asc {l : List Ent} (_h : Loose l) (hc : chkEs 1 l = true) : Asc l := by
  unfold chkEs at hc; rw [Bool.and_eq_true] at hc; exact entsB_asc hc.1
section
variable {l : List Ent} (h : Loose l)
include h
theorem Loose.ord (hc : chkEs 1 l = true) : ∀ e ∈ l, keyR e.lo ≤ keyR e.hi := fun e he => by
  unfold chkEs chkRs at hc
  rw [Bool.and_eq_true, Bool.and_eq_true, List.all_eq_true] at hc
  have := hc.2.2 (rgOf e) (List.mem_map_of_mem he)
  rw [decide_eq_true_eq] at this
  exact (cmp_key (h.low e he).1 (h.low e he).2).1.1 this
theorem Loose.loOk (hc : chkEs 1 l = true) : LoOk 1 (l.map rgOf) := fun r hr => by
  obtain ⟨e, he, rfl⟩ := List.mem_map.1 hr
  unfold stabN
  refine List.countP_pos_iff.2 ⟨rgOf e, hr, ?_⟩
  unfold contR
  rw [Bool.and_eq_true, decide_eq_true_eq, decide_eq_true_eq]
  show cmpR 1 e.lo e.lo ≤ 0 ∧ cmpR 1 e.lo e.hi ≤ 0
  rw [(cmp_key (h.low e he).1 (h.low e he).1).1, (cmp_key (h.low e he).1 (h.low e he).2).1]
  exact ⟨Int.le_refl _, h.ord hc e he⟩
theorem Loose.peak (d w : Int) : Go.Proofs.YtcjekbncllccbaaGreat.peakQ 1 l d w = peakW 1 l d w := by
  cases hc : chkEs 1 l with
  | false => unfold Go.Proofs.YtcjekbncllccbaaGreat.peakQ peakW; rw [if_pos (.inl hc), if_pos (.inl hc)]
  | true =>
    have hlo := h.loOk hc
    have hck : chkRs 1 (l.map rgOf) = true := by unfold chkEs at hc; rw [Bool.and_eq_true] at hc; exact hc.2
    have hm : mostR 1 (l.map rgOf) = mostTo 1 (l.map rgOf) (l.map rgOf).length := by unfold mostR; rw [if_pos hck]
    have hd : depthR 1 (l.map rgOf) = depthTo 1 (l.map rgOf) (l.map rgOf).length := by unfold depthR; rw [if_pos hck]
    have hmd : (mostR 1 (l.map rgOf)).1 = depthR 1 (l.map rgOf) := by rw [hm, hd]; exact (most_inv hlo _ (Nat.le_refl _)).1
    unfold Go.Proofs.YtcjekbncllccbaaGreat.peakQ peakW
    rw [hmd]
    split
    · rfl
    · rename_i hn
      have h0 : 0 < l.length := by
        rcases Nat.eq_zero_or_pos l.length with h0 | h0
        · have := Made.depth_zero h0; rw [this] at hn; omega
        · exact h0
      have hp : peakOf 1 (l.map rgOf) = some (peakP 1 l) := by
        unfold Go.Proofs.YtcjekbncllccbaaGreat.peakOf
        rw [hd, (most_inv hlo _ (Nat.le_refl _)).2.1 (by rw [List.length_map]; exact h0)]
        unfold peakP
        rw [List.length_map]
      rw [hp]
      rfl
theorem Loose.pair (rows : Int) : pairP 1 l rows = pairV 1 l (candR 1 l rows l.length) := by
  cases hc : chkEs 1 l with
  | false => unfold pairP pairV; rw [if_neg (by simp [hc]), if_neg (by simp [hc])]
  | true => exact pairP_V (h.asc hc) h.low rows
theorem Loose.pick (d w rows : Int) : pickQ 1 l d w rows = pickW 1 l d w rows := by
  unfold pickQ pickW
  rw [h.peak, h.pair]
  split
  · rfl
  · cases pairV 1 l (candR 1 l rows l.length) with
    | none => rfl
    | some s => simp only [insI_two]
theorem Loose.adj (a b : Int) : adjP 1 l a b = adjR 1 l a b := by
  have hnone : ∀ i, idxE l i = none → findE l i = none := fun i hi => by
    unfold findE
    rw [List.find?_eq_none]
    intro x hx
    have := idxE_none.1 hi x hx
    simpa using this
  unfold adjP adjR
  cases hc : chkEs 1 l with
  | false => cases findE l a <;> cases findE l b <;> rfl
  | true =>
    have ha := h.asc hc
    have ho := h.ord hc
    cases hi : idxE l a with
    | none => rw [hnone a hi]; rfl
    | some i =>
      obtain ⟨x, hx, rfl⟩ := idxE_some hi
      have hxm := List.mem_of_getElem? hx
      rw [findE_mem ha hxm]
      cases hk : idxE l b with
      | none => rw [hnone b hk]; rfl
      | some k =>
        obtain ⟨y, hy, rfl⟩ := idxE_some hk
        have hym := List.mem_of_getElem? hy
        rw [findE_mem ha hym]
        simp only [hx, hy, Bool.true_and]
        unfold adjI adjX
        have e1 : decide (i = k) = decide (x.id = y.id) := by
          rw [Bool.eq_iff_iff, decide_eq_true_eq, decide_eq_true_eq, asc_idx ha hx hy]
        rw [e1]
        cases hm : meetE 1 x y with
        | true => simp
        | false =>
          have hlx := h.low x hxm
          have hly := h.low y hym
          have hlo : keyR x.lo ≠ keyR y.lo := fun e => by
            rw [← Bool.not_eq_true] at hm
            refine hm ?_
            unfold meetE
            rw [Bool.and_eq_true, decide_eq_true_eq, decide_eq_true_eq, (cmp_key hlx.1 hly.2).1, (cmp_key hly.1 hlx.2).1]
            have := ho x hxm
            have := ho y hym
            omega
          rw [swap_before hlx.1 hly.1, gap_all ha hx hy, gap_all ha hy hx, gapE_all, gapE_swap, gapE_all]
          by_cases hlt : 0 < cmpR 1 x.lo y.lo
          · have hb : beforeB 1 y x = true := (before_key hly.1 hlx.1).2 (.inl ((cmp_key hlx.1 hly.1).2.2.1 hlt))
            rw [if_pos hlt, if_pos hb]
          · have hb : ¬ beforeB 1 y x = true := fun hb => by
              rcases (before_key hly.1 hlx.1).1 hb with h1 | h1
              · exact hlt ((cmp_key hlx.1 hly.1).2.2.2 h1)
              · exact hlo h1.1.symm
            rw [if_neg hlt, if_neg hb]
end
end Go.Proofs.YtcjekbncllccbaaGreat
