/-
  Law 28 in plain Lean: what the law PeakIsCommon says of Peak's answer.
-/
import Derived.Test.YtcjekbncllccbaaPickPeak
namespace Go.Proofs.Ytcjekbncllccbaa
theorem eqv_len {α : Type} {a b : List α} (ha : a.Nodup) (hb : b.Nodup) (h : ∀ x, x ∈ a ↔ x ∈ b) : a.length = b.length := ((List.perm_ext_iff_of_nodup ha hb).2 h).length_eq
theorem asc_int_nodup {l : List Int} (h : l.Pairwise (· < ·)) : l.Nodup := h.imp fun hab e => by omega
theorem ltL_nodup {l : List Ent} (h : l.Pairwise ltL) : l.Nodup := h.imp fun hab e => by subst e; exact ltL_irrefl _ hab
/-- The entries that Peak chooses. -/
def topE (t : Int) (l : List Ent) (w : Int) : List Ent := (chosenL (l.filter (inP t (peakP t l)))).take w.toNat
theorem topE_facts {t : Int} {l : List Ent} {w : Int} (ha : Asc l) : (topE t l w).Pairwise ltL ∧ (∀ e ∈ topE t l w, e ∈ l ∧ inP t (peakP t l) e = true) ∧ (topE t l w).length = min w.toNat (stabN t (l.map rgOf) (peakP t l)) ∧
    (∀ x ∈ l, inP t (peakP t l) x = true → x ∉ topE t l w → ∀ e ∈ topE t l w, e.live ≤ x.live) ∧ ((topE t l w).map (·.id)).Nodup := by
  have hf : (l.filter (inP t (peakP t l))).Pairwise (fun a b => a.id < b.id) := List.Pairwise.filter _ ha
  obtain ⟨h1, h2⟩ := chosen_is hf
  have hsub : (topE t l w).Sublist (chosenL (l.filter (inP t (peakP t l)))) := List.take_sublist _ _
  have hp : (topE t l w).Pairwise ltL := h1.sublist hsub
  have hm : ∀ e ∈ topE t l w, e ∈ l ∧ inP t (peakP t l) e = true := fun e he => List.mem_filter.1 ((h2 e).1 (hsub.subset he))
  refine ⟨hp, hm, ?_, fun x hx hxp hn e he => ?_, ?_⟩
  · unfold topE
    rw [List.length_take, eqv_len (ltL_nodup h1) (hf.imp fun hab e => by rw [e] at hab; omega) h2, stab_filter]
  · have hxC := (h2 x).2 (List.mem_filter.2 ⟨hx, hxp⟩)
    have hd : x ∈ (chosenL (l.filter (inP t (peakP t l)))).drop w.toNat := by
      have := (List.take_append_drop w.toNat (chosenL (l.filter (inP t (peakP t l))))) ▸ hxC
      rcases List.mem_append.1 this with h | h
      · exact absurd h hn
      · exact h
    have hpp := (List.take_append_drop w.toNat (chosenL (l.filter (inP t (peakP t l))))) ▸ h1
    have := (List.pairwise_append.1 hpp).2.2 e he x hd
    unfold ltL at this; omega
  · refine List.pairwise_map.2 (hp.imp_of_mem fun {a b} hxa hxb hab e => ?_)
    have := asc_inj ha (hm a hxa).1 (hm b hxb).1 e
    subst this; exact ltL_irrefl _ hab
/-- The entries of a list with the numbers of another. -/
def byIds (l : List Ent) (ids : List Int) : List Ent := l.filter fun e => decide (e.id ∈ ids)
theorem peak_law {t : Int} {l : List Ent} {d w : Int} (ha : Asc l) (hc : chkEs t l = true) (hd : 1 ≤ d) (hw : 2 ≤ w) (hD : d < (depthR t (l.map rgOf) : Int)) :
    (peakV t l d w).Pairwise (· < ·) ∧ (∀ x ∈ byIds l (peakV t l d w), inP t (peakP t l) x = true) ∧ (byIds l (peakV t l d w)).length = (peakV t l d w).length ∧ (peakV t l d w).length = min w.toNat (stabN t (l.map rgOf) (peakP t l)) ∧
    (∀ x ∈ l, inP t (peakP t l) x = true → x.id ∉ peakV t l d w → ∀ e ∈ byIds l (peakV t l d w), e.live ≤ x.live) := by
  obtain ⟨h1, h2, h3, h4, h5⟩ := topE_facts (t := t) (w := w) ha
  have hv : peakV t l d w = sortI ((topE t l w).map (·.id)) := by
    unfold peakV
    rw [if_neg (by rw [hc]; simp; omega)]
    rfl
  obtain ⟨s1, s2⟩ := sortI_is h5
  rw [← hv] at s1 s2
  have hb : ∀ x, x ∈ byIds l (peakV t l d w) ↔ x ∈ topE t l w := fun x => by
    unfold byIds
    rw [List.mem_filter]
    simp only [decide_eq_true_eq]
    rw [s2, List.mem_map]
    constructor
    · rintro ⟨hx, e, he, hid⟩
      have := asc_inj ha (h2 e he).1 hx hid
      rw [← this]; exact he
    · intro hx; exact ⟨(h2 x hx).1, x, hx, rfl⟩
  have hlen : (peakV t l d w).length = (topE t l w).length := by
    rw [eqv_len (asc_int_nodup s1) h5 s2, List.length_map]
  refine ⟨s1, fun x hx => (h2 x ((hb x).1 hx)).2, ?_, by rw [hlen, h3], fun x hx hxp hn e he => h4 x hx hxp (fun hxt => hn ((s2 x.id).2 (List.mem_map.2 ⟨x, hxt, rfl⟩))) e ((hb e).1 he)⟩
  rw [hlen]
  exact eqv_len (show (byIds l (peakV t l d w)).Nodup from List.Pairwise.filter _ (asc_nodup ha)) (ltL_nodup h1) hb
/-- The peak's stab is the depth. -/
theorem peak_stab {t : Int} {l : List Rg} (hlo : LoOk t l) (h0 : 0 < l.length) : stabN t l (mostTo t l l.length).2 = depthTo t l l.length := by
  have key : ∀ k, k ≤ l.length → 0 < k → stabN t l (mostTo t l k).2 = (mostTo t l k).1 := by
    intro k
    induction k with
    | zero => intro _ h; omega
    | succ k ih =>
      intro hk _
      have hr := List.getElem?_eq_getElem (show k < l.length by omega)
      have hpos := hlo _ (List.getElem_mem (show k < l.length by omega))
      rw [mostTo_next hr]
      unfold mostStep
      split
      · rfl
      · rename_i hn
        rcases Nat.eq_zero_or_pos k with h | h
        · subst h
          exact absurd (Or.inl hpos) hn
        · exact ih (by omega) h
  rw [key l.length (Nat.le_refl _) h0, (most_inv hlo l.length (Nat.le_refl _)).1]
end Go.Proofs.Ytcjekbncllccbaa
