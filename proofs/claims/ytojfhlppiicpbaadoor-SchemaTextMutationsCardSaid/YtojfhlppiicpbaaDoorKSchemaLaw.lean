/-
  What keep.Schema makes is a valid schema.
-/
import Derived.Test.YtojfhlppiicpbaaDoorKSchema
namespace Go.Proofs.YtojfhlppiicpbaaDoor
open Go.RowKit
theorem nmC_name {k : Nat} (h0 : 1 ≤ k) (h1 : k ≤ 4) : nameB (nmC k).data.toList = true := by
  have : ∀ j : Fin 5, 1 ≤ j.val → nameB (nmC j.val).data.toList = true := by decide +kernel
  exact this ⟨k, by omega⟩ h0
theorem nmC_inj {a b : Nat} (ha : a ≤ 4) (hb : b ≤ 4) (h : nmC a = nmC b) : a = b := by
  have : ∀ i j : Fin 5, nmC i.val = nmC j.val → i.val = j.val := by decide +kernel
  exact this ⟨a, by omega⟩ ⟨b, by omega⟩ h
theorem gen_col {l : List Col} (h4 : l.length ≤ 4) (hG : GenS l.length l) {i : Nat} {c : Col} (hc : l[i]? = some c) : colErr l i c = 0 := by
  have hi := (List.getElem?_eq_some_iff.1 hc).1
  have g := hG i c hc
  refine err_none (by rw [g.nm]; exact nmC_name (by omega) (by omega)) ?_ ?_ ?_
  · rw [findC_hit hc rfl (fun j d hd hj e => ?_)]
    · exact Int.le_refl _
    · rw [(hG j d hd).nm, g.nm] at e
      have := nmC_inj (by omega) (by omega) e
      omega
  · have := g.ty; omega
  · have := g.sc; have := g.sz; omega
theorem gen_valid {l : List Col} {key : Int} (h1 : 1 ≤ l.length) (h4 : l.length ≤ 4) (hG : GenS l.length l) (k0 : 0 ≤ key) (k1 : key < l.length) : schkV l key = 0 := by
  have hz : ∀ n, n ≤ l.length → firstE (colE l) n = 0 := by
    intro n
    induction n with
    | zero => intro _; rfl
    | succ n ih =>
      intro hn
      refine firstE_next (ih (by omega)) ?_
      have hc : l[n]? = some l[n] := List.getElem?_eq_getElem (by omega)
      rw [colE_at hc]; exact gen_col h4 hG hc
  rw [schk_key (by omega) (by omega) (hz _ (Nat.le_refl _)), if_neg (by omega)]
theorem gen_small {l : List Col} {N : Nat} (hG : GenS N l) : ∀ c ∈ l, c.nm.size ≤ 1 := by
  intro c hc
  obtain ⟨i, hi⟩ := List.mem_iff_getElem?.1 hc
  rw [(hG i c hi).nm]; exact Nat.le_refl 1
end Go.Proofs.YtojfhlppiicpbaaDoor
