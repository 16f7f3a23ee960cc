/-
  Plain words for the two loops of Apply.
-/
import Derived.Test.YtcjekbncllccbaaApplySpec
import Derived.Test.YtcjekbncllccbaaRecCheck
import Derived.Test.YtcjekbncllccbaaApplyRet
namespace Go.Proofs.Ytcjekbncllccbaa
/-- Entries that lie in a version under way. -/
def GoodL (l : List Ent) : Prop := Asc l ∧ l.length ≤ 256 ∧ ∀ e ∈ l, (1 ≤ e.id ∧ e.id ≤ 2147483647) ∧ e.small
theorem okB_id {e : Ent} (h : e.okB = true) : 1 ≤ e.id ∧ e.id ≤ 2147483647 := by
  unfold Ent.okB at h
  simp only [Bool.and_eq_true, decide_eq_true_eq] at h
  exact h.1.1.1.1.1
theorem GoodL.of {l : List Ent} (h : entsB l = true) (hl : l.length ≤ 256) (hs : ∀ e ∈ l, e.small) : GoodL l := ⟨entsB_asc h, hl, fun e he => ⟨okB_id (entsB_ok h he), hs e he⟩⟩
theorem GoodL.erase {l : List Ent} (h : GoodL l) (k : Nat) : GoodL (l.eraseIdx k) :=
  ⟨erase_asc h.1 k, Nat.le_trans (List.length_eraseIdx_le l k) h.2.1, fun e he => h.2.2 e ((List.eraseIdx_sublist l k).subset he)⟩
theorem recV_zero {r : Rcd} (h : recV r = 0) : RecHead r ∧ entsB r.add = true ∧ remB r.rem = true ∧ (r.kind = 1 → r.rem = []) := by
  by_cases h1 : r.kind = 1 ∨ r.kind = 2
  case neg => rw [recV_kind h1] at h; cases h
  by_cases h2 : RecRange r
  case neg => rw [recV_range h1 h2] at h; cases h
  by_cases h3 : RecLen r
  case neg => rw [recV_len h1 h2 h3] at h; cases h
  have hH : RecHead r := ⟨h1, h2, h3⟩
  rw [recV_head hH] at h
  split at h
  · rename_i hc; exact ⟨hH, hc⟩
  · cases h
theorem remAll_drop {l : List Ent} {rem : List Int} {k : Nat} {n : Int} (h : rem[k]? = some n) : remAll l (rem.drop k) = match idxE l n with
    | none => none
    | some j => remAll (l.eraseIdx j) (rem.drop (k + 1)) := by
  obtain ⟨hk, e⟩ := List.getElem?_eq_some_iff.1 h
  rw [List.drop_eq_getElem_cons hk, e]; rfl
theorem remAll_none {l l' : List Ent} {rem : List Int} {k : Nat} {n : Int} (h0 : remAll l rem = remAll l' (rem.drop k)) (h : rem[k]? = some n) (hi : idxE l' n = none) : remAll l rem = none := by
  rw [h0, remAll_drop h, hi]
theorem remAll_next {l l' : List Ent} {rem : List Int} {k j : Nat} {n : Int} (h0 : remAll l rem = remAll l' (rem.drop k)) (h : rem[k]? = some n) (hi : idxE l' n = some j) : remAll l rem = remAll (l'.eraseIdx j) (rem.drop (k + 1)) := by
  rw [h0, remAll_drop h, hi]
theorem remAll_end {l l' : List Ent} {rem : List Int} {k : Nat} (h0 : remAll l rem = remAll l' (rem.drop k)) (h : rem.length ≤ k) : remAll l rem = some l' := by
  rw [h0, List.drop_eq_nil_of_le h]; rfl
theorem applyGo_none {r : Rcd} {o : Option (List Ent)} (h : o = none) : applyGo o r = (6, zsnp) := by subst h; rfl
theorem applyGo_dup {r : Rcd} {o : Option (List Ent)} {l : List Ent} (h : o = some l) (hd : dupB l r.add = true) : applyGo o r = (5, zsnp) := by subst h; show (if dupB l r.add = true then _ else _) = _; rw [if_pos hd]
theorem applyGo_last {r : Rcd} {o : Option (List Ent)} {l : List Ent} (h : o = some l) (hd : dupB l r.add = false) : applyGo o r = lastV r (insAll l r.add) := by subst h; show (if dupB l r.add = true then _ else _) = _; rw [if_neg (by rw [hd]; simp)]
theorem lastV_full {r : Rcd} {l : List Ent} (h : 256 < l.length) : lastV r l = (7, zsnp) := by unfold lastV; rw [if_pos h]
theorem lastV_bad {r : Rcd} {l : List Ent} (h : ¬256 < l.length) (hb : snapB r.ver r.seq r.nid l = false) : lastV r l = (1, zsnp) := by unfold lastV; rw [if_neg h, if_neg (by rw [hb]; simp)]
theorem lastV_ok {r : Rcd} {l : List Ent} (h : ¬256 < l.length) (hb : snapB r.ver r.seq r.nid l = true) : lastV r l = (0, ⟨r.ver, r.seq, r.nid, l⟩) := by unfold lastV; rw [if_neg h, if_pos hb]
theorem dup_hit {l add : List Ent} {k j : Nat} {e : Ent} (he : add[k]? = some e) (h : idxE l e.id = some j) : dupB l add = true := by
  unfold dupB; rw [List.any_eq_true]; exact ⟨e, List.mem_of_getElem? he, by rw [h]; rfl⟩
theorem dup_next {l add : List Ent} {k : Nat} {e : Ent} (h0 : dupB l (add.take k) = false) (he : add[k]? = some e) (h : idxE l e.id = none) : dupB l (add.take (k + 1)) = false := by
  rw [List.take_add_one, he]
  unfold dupB at h0 ⊢
  rw [List.any_append, h0]; simp [h]
/-- Where an entry to add stands already: in the list before, for the ones added so far bear other numbers. -/
theorem idx_added {l add : List Ent} (ha : Asc add) {k : Nat} {e : Ent} (he : add[k]? = some e) : (idxE (l ++ add.take k) e.id).isSome = (idxE l e.id).isSome := by
  rw [idxE_append, asc_take_none ha he]; simp
theorem take_snoc {add : List Ent} {k : Nat} {e : Ent} (l : List Ent) (he : add[k]? = some e) : l ++ add.take k ++ [e] = l ++ add.take (k + 1) := by
  rw [List.take_add_one, he, List.append_assoc]; rfl
end Go.Proofs.Ytcjekbncllccbaa
