/-
  Law 28 in plain Lean: what holds of a list that the statements make; Peak's answer; Quiet.
-/
import Derived.Test.YtcjekbncllccbaaPickLaw
namespace Go.Proofs.Ytcjekbncllccbaa
theorem rk_gen_ok {r : Rk} (h : r.gen) : r.okB = true := by
  obtain ⟨h1, h2, h3, h4, h5, h6⟩ := h
  unfold Rk.okB
  rw [h1, h4]
  have e : ({ data := #[] } : ByteArray).size = 0 := rfl
  simp [e]; omega
theorem ent_gen_ok {e : Ent} (h : e.gen) (hid : e.id ≤ 2147483647) : e.okB = true := by
  obtain ⟨h1, h2, h3, h4, h5, h6, h7, _, _, h8, h9, _⟩ := h
  unfold Ent.okB
  rw [rk_gen_ok h8, rk_gen_ok h9]
  simp; omega
/-- Entries as the statements make them. -/
structure Made (l : List Ent) : Prop where
  asc : Asc l
  low : LowL l
  len : l.length ≤ 256
  chk : chkEs 1 l = true
  small : ∀ e ∈ l, e.small
  live : ∀ e ∈ l, 1 ≤ e.live ∧ e.live ≤ 8
  ord : ∀ e ∈ l, keyR e.lo ≤ keyR e.hi
theorem made_of {l : List Ent} (h : GenL (3 * l.length) l) (hl : l.length ≤ 200) : Made l := by
  have hg := fun e he => (h.mem e he)
  have hasc := genL_asc h
  have hlow := genL_low h
  have hord : ∀ e ∈ l, keyR e.lo ≤ keyR e.hi := fun e he => by
    obtain ⟨_, _, _, _, _, _, _, _, _, ⟨_, _, _, _, q1, q2⟩, ⟨_, _, _, _, q3, q4⟩, h12⟩ := (hg e he).1
    unfold keyR; omega
  refine ⟨hasc, hlow, by omega, ?_, ?_, ?_, hord⟩
  · unfold chkEs
    rw [entsB_of hasc fun e he => ent_gen_ok (hg e he).1 (by have := (hg e he).2; omega), Bool.true_and]
    refine chkRs_yes (by rw [List.length_map]; omega) fun j r hj _ h => ?_
    rw [List.getElem?_map] at hj
    cases he : l[j]? with
    | none => rw [he] at hj; simp at hj
    | some e =>
      rw [he] at hj
      simp at hj
      subst hj
      have hm := List.mem_of_getElem? he
      have := (cmp_key (hlow e hm).1 (hlow e hm).2).2.2.1 h
      have := hord e hm
      omega
  · intro e he
    obtain ⟨_, _, _, _, _, _, _, _, _, ⟨_, _, _, h8, _⟩, ⟨_, _, _, h9, _⟩, _⟩ := (hg e he).1
    have e0 : ({ data := #[] } : ByteArray).size = 0 := rfl
    unfold Ent.small
    rw [h8, h9, e0]
    exact ⟨by omega, by omega⟩
  · intro e he
    obtain ⟨_, _, h3, h4, h5, _⟩ := (hg e he).1
    omega
section
variable {l : List Ent} (h : Made l)
include h
theorem Made.live' : ∀ e ∈ l, -1000000 ≤ e.live ∧ e.live ≤ 1000000 := fun e he => by have := h.live e he; omega
theorem Made.chkR : chkRs 1 (l.map rgOf) = true := by have := h.chk; unfold chkEs at this; rw [Bool.and_eq_true] at this; exact this.2
theorem Made.loOk : LoOk 1 (l.map rgOf) := fun r hr => by
  obtain ⟨e, he, rfl⟩ := List.mem_map.1 hr
  unfold stabN
  refine List.countP_pos_iff.2 ⟨rgOf e, hr, ?_⟩
  unfold contR
  rw [Bool.and_eq_true, decide_eq_true_eq, decide_eq_true_eq]
  show cmpR 1 e.lo e.lo ≤ 0 ∧ cmpR 1 e.lo e.hi ≤ 0
  rw [(cmp_key (h.low e he).1 (h.low e he).1).1, (cmp_key (h.low e he).1 (h.low e he).2).1]
  exact ⟨Int.le_refl _, h.ord e he⟩
theorem Made.most : mostR 1 (l.map rgOf) = mostTo 1 (l.map rgOf) (l.map rgOf).length := by unfold mostR; rw [if_pos h.chkR]
theorem Made.depth : depthR 1 (l.map rgOf) = depthTo 1 (l.map rgOf) (l.map rgOf).length := by unfold depthR; rw [if_pos h.chkR]
theorem Made.most_depth : (mostR 1 (l.map rgOf)).1 = depthR 1 (l.map rgOf) := by
  rw [h.most, h.depth]; exact (most_inv h.loOk _ (Nat.le_refl _)).1
theorem Made.peakQ (d w : Int) : peakQ 1 l d w = peakV 1 l d w := by
  unfold Go.Proofs.Ytcjekbncllccbaa.peakQ peakV
  rw [h.most_depth]
  rfl
theorem Made.peakOf : 0 < l.length → peakOf 1 (l.map rgOf) = some (peakP 1 l) := fun h0 => by
  unfold Go.Proofs.Ytcjekbncllccbaa.peakOf
  rw [h.depth, (most_inv h.loOk _ (Nat.le_refl _)).2.1 (by rw [List.length_map]; exact h0)]
  unfold peakP
  rw [List.length_map]
theorem Made.stab : 0 < l.length → stabN 1 (l.map rgOf) (peakP 1 l) = depthR 1 (l.map rgOf) := fun h0 => by
  rw [h.depth, ← peak_stab h.loOk (by rw [List.length_map]; exact h0)]
  unfold peakP
  rw [List.length_map]
omit h in
theorem Made.depth_zero (h0 : l.length = 0) : depthR 1 (l.map rgOf) = 0 := by
  rw [List.eq_nil_of_length_eq_zero h0]; rfl
/-- Peak answers nothing at a small depth, else at least two numbers. -/
theorem Made.peak_len {d w : Int} (hd : 1 ≤ d) (hw : 2 ≤ w) : ((depthR 1 (l.map rgOf) : Int) ≤ d → Go.Proofs.Ytcjekbncllccbaa.peakQ 1 l d w = []) ∧ (d < (depthR 1 (l.map rgOf) : Int) → 2 ≤ (Go.Proofs.Ytcjekbncllccbaa.peakQ 1 l d w).length) := by
  rw [h.peakQ]
  constructor
  · intro hle
    unfold peakV
    rw [if_pos (.inr (.inr (.inr hle)))]
  · intro hlt
    have h0 : 0 < l.length := by
      rcases Nat.eq_zero_or_pos l.length with h0 | h0
      · rw [Made.depth_zero h0] at hlt; omega
      · exact h0
    rw [(peak_law h.asc h.chk hd hw hlt).2.2.2.1, h.stab h0]
    omega
theorem Made.pair (rows : Int) : pairP 1 l rows = pairV 1 l (candR 1 l rows l.length) := pairP_V h.asc h.low rows
theorem Made.adj : chkEs 1 l = true → ∀ x ∈ l, ∀ y ∈ l, beforeB 1 x y = true → meetE 1 x y = false → adjR 1 l x.id y.id = adjE 1 l x y := fun hc _ hx _ hy hb hm => adjR_E h.asc h.low hc hx hy hb hm
theorem Made.quiet {d w rows : Int} (hd : 1 ≤ d) (hw : 2 ≤ w) :
    decide ((pickQ 1 l d w rows).length = 0) = (decide ((depthR 1 (l.map rgOf) : Int) ≤ d) && !(pairP 1 l rows).isSome) ∧ ((pickQ 1 l d w rows).length = 0 ∨ 2 ≤ (pickQ 1 l d w rows).length) := by
  obtain ⟨h1, h2⟩ := h.peak_len hd hw
  unfold pickQ
  by_cases hle : (depthR 1 (l.map rgOf) : Int) ≤ d
  · rw [h1 hle]
    simp only [ne_eq, not_true_eq_false, if_false]
    cases pairP 1 l rows with
    | none => simp [hle]
    | some s => simp [hle]
  · have h3 := h2 (by omega)
    have hne : Go.Proofs.Ytcjekbncllccbaa.peakQ 1 l d w ≠ [] := fun e => by rw [e] at h3; simp at h3
    rw [if_pos hne]
    refine ⟨?_, .inr h3⟩
    rw [decide_eq_false hle, Bool.false_and, decide_eq_false_iff_not]
    omega
end
end Go.Proofs.Ytcjekbncllccbaa
