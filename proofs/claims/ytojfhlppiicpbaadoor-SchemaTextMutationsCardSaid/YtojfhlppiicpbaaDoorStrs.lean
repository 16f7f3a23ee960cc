/-
  Words for memory: slices of strings.
-/
import Derived.Test.YtojfhlppiicpbaaDoorBase
import Derived.SliceStrings
import Derived.WalkKit
import Derived.ProofKit
import Derived.OpenShut
namespace Go.Proofs.YtojfhlppiicpbaaDoor
open Go.RowKit Go.ChangeShapes Go.WideShapes Go.ChangeAt
def strV (l : List ByteArray) : List Value := l.map Value.string
theorem strV_snoc (l : List ByteArray) (x : ByteArray) : strV (l ++ [x]) = strV l ++ [.string x] := by simp [strV]
theorem strV_length (l : List ByteArray) : (strV l).length = l.length := by simp [strV]
theorem strV_get {l : List ByteArray} {k : Nat} {u : Value} (h : (strV l)[k]? = some u) : ∃ x, l[k]? = some x ∧ u = .string x := by
  simp only [strV, List.getElem?_map, Option.map_eq_some_iff] at h
  obtain ⟨x, hx, rfl⟩ := h
  exact ⟨x, hx, rfl⟩
theorem oneStr (x : ByteArray) : ∀ u ∈ (#[Value.string x] : Array Value).toList, u.oneCell' = true := by intro u hu; simp at hu; subst hu; rfl
theorem own_strV {w : World} {base : Nat} {e : TypeId} {v : Value} {l : List ByteArray} {x : ByteArray} (h : w.ownsRow base e 1 v (l.length + 1) (strV l ++ (#[Value.string x] : Array Value).toList)) : w.ownsRow base e 1 v (l ++ [x]).length (strV (l ++ [x])) := by
  rw [strV_snoc, List.length_append]; exact h
theorem Sl.str_at {w : World} {A : Option Addr} {c k : Nat} {zs : List ByteArray} {n : Nat} (h : Sl w 1 (.slice A n c) n (strV zs)) (hk : k < n) : ∃ ad x, A = some ad ∧ zs[k]? = some x ∧ w.cell? (ad.add k) = some (.string x) := by
  obtain ⟨ad, u, e, _, hu, hc⟩ := h.at_ hk
  obtain ⟨x, hx, rfl⟩ := strV_get hu
  exact ⟨ad, x, e, hx, hc⟩
section
variable {H : Type} {enc : TypeId × Value → H} {P : Program} {W : World} {b0 : Nat}
/-- A slice of strings that came in reads as a list of strings. -/
theorem opened_strs {t e : TypeId} {v : Value} {d : DataW H} {p : List MemPlace} (ht : P.underlying t = some (.slice e)) (he : P.underlying e = some .string) (hc : P.cellsOf e = 1)
    (hval : Value.okWide P W .any b0 t v) (h : DataW.Trod enc P W 0 (fun _ => true) true t v d p) :
    ∃ l : List ByteArray, Sl W 1 v l.length (strV l) ∧ (∀ s ∈ l, s.size ≤ maxLen) ∧ l.length ≤ 9223372036854775807 ∧ (∀ B, (DataW.weights P t d).all (fun n => n ≤ B) = true → l.length * P.bytesOf e ≤ B) := by
  obtain ⟨a0, len0, cap0, rfl⟩ := okWide_slice ht hval
  obtain ⟨fuel, hf⟩ := h
  rcases open_strings ht he hc hf with ⟨hcs, _⟩ | ⟨x, l, c, ss, hcs, _, hl, hm, hz, hx, hcell, hws⟩
  · simp [Value.cells] at hcs
    obtain ⟨rfl, rfl, rfl⟩ := hcs
    exact ⟨[], Sl.nil _ _, by simp, by simp, fun B _ => by simp⟩
  · simp [Value.cells] at hcs
    obtain ⟨rfl, rfl, rfl⟩ := hcs
    have hz' : ss.length = cap0 := by simpa using hz
    have hlen : (ss.take len0).length = len0 := by rw [List.length_take]; omega
    refine ⟨ss.take len0, ?_, fun s hs => hws s (List.mem_of_mem_take hs), by unfold maxLen at hm; omega, fun B hB => ?_⟩
    · rw [hlen]
      refine ⟨some x, cap0, rfl, hl, hm, by rw [strV_length, hlen, Nat.mul_one], fun hn => ⟨x, rfl, ?_, ?_⟩⟩
      · have := World.block_lt_of_cell? W (x.add 0) (hcell 0 (by omega))
        rwa [block_of_add] at this
      · intro j u hj
        obtain ⟨y, hy, rfl⟩ := strV_get hj
        have hjl : j < ss.length := by
          have := (List.getElem?_eq_some_iff.1 hy).1
          rw [hlen] at this; omega
        rw [hcell j hjl]
        rw [List.getElem?_take] at hy
        split at hy
        · simp [List.getD, hy]
        · cases hy
    · simp only [Prod.mk.injEq] at hx
      rw [hx.1] at hB
      simp only [DataW.weights, ht] at hB
      rw [hlen]
      simp only [List.all_append, List.all_cons, Bool.and_eq_true, decide_eq_true_eq, strs, List.length_map, List.length_append, List.length_take, List.length_drop] at hB
      have h1 := hB.1
      have : len0 * P.bytesOf e ≤ (min len0 ss.length + (ss.length - len0)) * P.bytesOf e := Nat.mul_le_mul_right _ (by omega)
      omega
end
end Go.Proofs.YtojfhlppiicpbaaDoor
