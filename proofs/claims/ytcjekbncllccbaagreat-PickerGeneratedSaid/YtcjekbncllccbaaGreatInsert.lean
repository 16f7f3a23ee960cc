/-
  The contract of ref18.Insert.
-/
import Derived.Test.YtcjekbncllccbaaGreatEntOps
import Derived.Test.YtcjekbncllccbaaGreatBase
import Derived.Deep.QuietTactic
import Derived.BigQuiet
import Derived.Deep.DeepCutAuto
import Derived.Deep.CutBlock
namespace Go.Proofs.YtcjekbncllccbaaGreat
open Go.RowKit Go.Sort
theorem insE_at {l : List Ent} {e : Ent} {k : Nat} (hk : k ≤ l.length) (h1 : ∀ (j : Nat) (d : Ent), l[j]? = some d → j < k → d.id < e.id) (h2 : ∀ d, l[k]? = some d → ¬d.id < e.id) : insE l e = l.take k ++ [e] ++ l.drop k := by
  induction l generalizing k with
  | nil => simp at hk; subst hk; rfl
  | cons x r ih =>
    cases k with
    | zero =>
      have := h2 x rfl
      unfold insE
      rw [List.takeWhile_cons, List.dropWhile_cons]
      simp [this]
    | succ k =>
      have hx := h1 x.id.toNat x
      have hx : x.id < e.id := h1 0 x rfl (by omega)
      have hr := ih (k := k) (by simpa using hk) (fun j d hd hj => h1 (j + 1) d (by simpa using hd) (by omega)) (fun d hd => h2 d (by simpa using hd))
      unfold insE at hr ⊢
      rw [List.takeWhile_cons, List.dropWhile_cons]
      simp only [hx, decide_true, if_true, List.cons_append, List.take_succ_cons, List.drop_succ_cons]
      rw [hr]
theorem Sl.take12 {w : World} {A : Option Addr} {n c k : Nat} {l : List Ent} (h : Sl w 12 (.slice A n c) n (ents l)) (hn : n = l.length) (hk : k ≤ n) : Sl w 12 (.slice A k c) k (ents (l.take k)) := by
  obtain ⟨A', c', e, h1, h2, h3, h4⟩ := h
  injection e with e1 _ e3
  subst e1 e3
  refine ⟨A, c, rfl, by omega, h2, by rw [ents_length, List.length_take]; omega, fun hp => ?_⟩
  obtain ⟨ad, e, hb, hc⟩ := h4 (by omega)
  refine ⟨ad, e, hb, fun j u hu => hc j u ?_⟩
  rw [← ents_take, List.getElem?_take] at hu
  split at hu
  · exact hu
  · cases hu
theorem own_drop {w : World} {base : Nat} {t : TypeId} {g n c k : Nat} {l : List Ent} (h : w.ownsRow base t 12 (.slice (some ⟨g, 0, none⟩) n c) n (ents l)) (hn : n = l.length) (hk : k ≤ n) :
    Sl w 12 (.slice (if c = k then some ⟨g, 0, none⟩ else some ⟨g, k * 12, none⟩) (n - k) (c - k)) (n - k) (ents (l.drop k)) := by
  obtain ⟨A', c', e, h1, h2, h3, h4⟩ := Sl.of_own h
  injection e with e1 _ e3
  subst e1 e3
  refine ⟨_, _, rfl, by omega, by unfold maxLen at h2 ⊢; omega, by rw [ents_length, List.length_drop]; omega, fun hp => ?_⟩
  rw [if_neg (by omega)]
  refine ⟨_, rfl, (h.lt g rfl).2, fun j u hu => ?_⟩
  rw [← ents_drop, List.getElem?_drop] at hu
  have := World.ownsRow.cells h (g := g) rfl _ u hu
  rw [Addr.add_lit] at this ⊢
  rw [Nat.zero_add] at this
  exact this
end Go.Proofs.YtcjekbncllccbaaGreat
