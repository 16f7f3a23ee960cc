/-
  Law 28 in plain Lean: what PickerPeakIsCommon looks at.
-/
import Derived.Test.YtcjekbncllccbaaPickFits
namespace Go.Proofs.Ytcjekbncllccbaa
/-- The greatest number of live rows of the first k entries. -/
def mostL (C : List Ent) (k : Nat) : Int := (C.take k).foldl (fun m e => max m e.live) 0
theorem mostL_next {C : List Ent} {k : Nat} {e : Ent} (h : C[k]? = some e) : mostL C (k + 1) = max (mostL C k) e.live := by
  unfold mostL; rw [List.take_add_one, h, List.foldl_append]; rfl
theorem mostL_lt {C : List Ent} {x : Int} (h0 : 0 ≤ x) : ∀ k, x < mostL C k → ∃ e ∈ C, x < e.live
  | 0, h => by have : mostL C 0 = 0 := rfl
               omega
  | k + 1, h => by
    cases he : C[k]? with
    | none =>
      have : mostL C (k + 1) = mostL C k := by unfold mostL; rw [List.take_add_one, he]; simp
      rw [this] at h
      exact mostL_lt h0 k h
    | some e =>
      rw [mostL_next he] at h
      by_cases h1 : x < e.live
      · exact ⟨e, List.mem_of_getElem? he, h1⟩
      · exact mostL_lt h0 k (by omega)
theorem mostL_bd {C : List Ent} (hC : ∀ e ∈ C, e.live ≤ 8) : ∀ k, mostL C k ≤ 8 ∧ 0 ≤ mostL C k
  | 0 => ⟨by show (0 : Int) ≤ 8; decide, by show (0 : Int) ≤ 0; decide⟩
  | k + 1 => by
    have ih := mostL_bd hC k
    cases he : C[k]? with
    | none =>
      have : mostL C (k + 1) = mostL C k := by unfold mostL; rw [List.take_add_one, he]; simp
      rw [this]; exact ih
    | some e =>
      rw [mostL_next he]
      have := hC e (List.mem_of_getElem? he)
      omega
structure Common (l C : List Ent) (K : List Int) (P : Rk) (w : Int) : Prop where
  ch : chosenE l K = C
  up : ∀ k a b, K[k]? = some a → K[k + 1]? = some b → a < b
  inp : ∀ e ∈ C, contR 1 (rgOf e) P = true
  len : C.length = K.length
  two : 2 ≤ C.length
  most : (C.length : Int) ≤ w
  small : C.length ≤ l.length
  few : ∀ e ∈ C, e.live ≤ 8 ∧ 1 ≤ e.live
  gone : ∀ x ∈ l, contR 1 (rgOf x) P = true → x.live < mostL C C.length → chosenE [x] K = [x]
  pk : peakOf 1 (l.map rgOf) = some P
theorem Made.common {l : List Ent} (h : Made l) {d w : Int} (hd : 1 ≤ d) (hw : 2 ≤ w) (hD : d < (depthR 1 (l.map rgOf) : Int)) : ∃ C P, Common l C (Go.Proofs.Ytcjekbncllccbaa.peakQ 1 l d w) P w := by
  have h0 : 0 < l.length := by
    rcases Nat.eq_zero_or_pos l.length with h0 | h0
    · rw [Made.depth_zero h0] at hD; omega
    · exact h0
  obtain ⟨p1, p2, p3, p4, p5⟩ := peak_law h.asc h.chk hd hw hD
  rw [← h.peakQ] at p1 p2 p3 p4 p5
  obtain ⟨K, hK⟩ : ∃ K, Go.Proofs.Ytcjekbncllccbaa.peakQ 1 l d w = K := ⟨_, rfl⟩
  rw [hK] at p1 p2 p3 p4 p5 ⊢
  have hn := asc_int_nodup p1
  have hc := chosen_byIds (l := l) hn
  rw [h.stab h0] at p4
  have hsub : ∀ e ∈ byIds l K, e ∈ l := fun e he => (List.mem_filter.1 he).1
  refine ⟨byIds l K, peakP 1 l, hc, fun k a b ha hb => ?_, fun e he => p2 e he, p3, by omega, by omega, ?_, fun e he => by have := h.live e (hsub e he); omega, fun x hx hxp hlt => ?_, h.peakOf h0⟩
  · obtain ⟨h1, e1⟩ := List.getElem?_eq_some_iff.1 ha
    obtain ⟨h2, e2⟩ := List.getElem?_eq_some_iff.1 hb
    have := List.pairwise_iff_getElem.1 p1 k (k + 1) h1 h2 (by omega)
    rw [e1, e2] at this; exact this
  · have := List.length_filter_le (fun e : Ent => decide (e.id ∈ K)) l
    exact this
  · have hmem : x.id ∈ K := Decidable.byContradiction fun hm => by
      obtain ⟨e, he, hle⟩ := mostL_lt (by have := h.live x hx; omega) _ hlt
      have := p5 x hx hxp hm e he
      omega
    rw [chosen_byIds hn]
    unfold byIds
    rw [List.filter_cons_of_pos (by simpa using hmem)]
    rfl
end Go.Proofs.Ytcjekbncllccbaa
