/-
  What snapshot.Apply answers, in plain Lean; sorting behind appending and inserting one after another leave the same entries.
-/
import Derived.Test.YtcjekbncllccbaaBase
namespace Go.Proofs.Ytcjekbncllccbaa
structure Snp where
  ver : Int
  seq : Int
  nid : Int
  l : List Ent
structure Rcd where
  kind : Int
  ver : Int
  seq : Int
  nid : Int
  add : List Ent
  rem : List Int
def Snp.okB (s : Snp) : Bool := snapB s.ver s.seq s.nid s.l
def zsnp : Snp := ⟨0, 0, 0, []⟩
/-- The numbers to remove are valid, and ascend. -/
def remAt (l : List Int) (k : Nat) : Bool :=
  match l[k]? with
  | some n => decide (1 ≤ n) && decide (n ≤ 2147483647) && (match k with
    | 0 => true
    | j + 1 => match l[j]? with
      | some a => decide (a < n)
      | none => true)
  | none => true
def remB (l : List Int) : Bool := allTo (remAt l) l.length
/-- The first error of a record. -/
def recV (r : Rcd) : Int :=
  if r.kind ≠ 1 ∧ r.kind ≠ 2 then 1
  else if ¬(0 ≤ r.ver ∧ r.ver ≤ 2147483647 ∧ 0 ≤ r.seq ∧ r.seq ≤ 1099511627777 ∧ 1 ≤ r.nid ∧ r.nid ≤ 2147483647) then 4
  else if ¬(r.add.length ≤ 256 ∧ r.rem.length ≤ 256) then 7
  else if entsB r.add = true ∧ remB r.rem = true ∧ (r.kind = 1 → r.rem = []) then 0 else 1
/-- The place of the entry with a number. -/
def idxE : List Ent → Int → Option Nat
  | [], _ => none
  | e :: r, i => if e.id = i then some 0 else (idxE r i).map (· + 1)
def remAll : List Ent → List Int → Option (List Ent)
  | l, [] => some l
  | l, i :: r => match idxE l i with
    | none => none
    | some k => remAll (l.eraseIdx k) r
def dupB (l : List Ent) (add : List Ent) : Bool := add.any fun e => (idxE l e.id).isSome
def insE (l : List Ent) (e : Ent) : List Ent := (l.takeWhile fun x => decide (x.id < e.id)) ++ e :: (l.dropWhile fun x => decide (x.id < e.id))
def insAll (l add : List Ent) : List Ent := add.foldl insE l
def lastV (r : Rcd) (l : List Ent) : Int × Snp :=
  if 256 < l.length then (7, zsnp)
  else if snapB r.ver r.seq r.nid l = true then (0, ⟨r.ver, r.seq, r.nid, l⟩) else (1, zsnp)
def applyV (s : Snp) (r : Rcd) : Int × Snp :=
  if s.okB = false ∨ recV r ≠ 0 ∨ r.kind ≠ 2 then (1, zsnp)
  else if r.ver ≠ s.ver + 1 then (13, zsnp)
  else if r.seq < s.seq ∨ r.nid < s.nid then (4, zsnp)
  else match remAll s.l r.rem with
    | none => (6, zsnp)
    | some l => if dupB l r.add = true then (5, zsnp) else lastV r (insAll l r.add)

theorem entsB_ok {l : List Ent} (h : entsB l = true) {e : Ent} (he : e ∈ l) : e.okB = true := by
  obtain ⟨k, hk⟩ := List.mem_iff_getElem?.1 he
  have := allTo_true.1 h k (List.getElem?_eq_some_iff.1 hk).1
  rw [okAt_get hk] at this
  simp at this; exact this.1
/-- The numbers ascend. -/
def Asc (l : List Ent) : Prop := l.Pairwise fun a b => a.id < b.id
theorem asc_of_adj : ∀ {l : List Ent}, (∀ k a b, l[k]? = some a → l[k + 1]? = some b → a.id < b.id) → Asc l
  | [], _ => List.Pairwise.nil
  | [x], _ => List.pairwise_singleton _ _
  | x :: y :: r, h => by
    have h1 : Asc (y :: r) := asc_of_adj fun k a b ha hb => h (k + 1) a b (by simpa using ha) (by simpa using hb)
    refine List.Pairwise.cons (fun z hz => ?_) h1
    have hxy := h 0 x y rfl rfl
    rcases List.mem_cons.1 hz with rfl | hz
    · exact hxy
    · exact Int.lt_trans hxy ((List.pairwise_cons.1 h1).1 z hz)
theorem entsB_asc {l : List Ent} (h : entsB l = true) : Asc l := asc_of_adj fun k a b ha hb => by
  have := allTo_true.1 h (k + 1) (List.getElem?_eq_some_iff.1 hb).1
  rw [okAt_get hb, ascAt_succ ha hb] at this
  simp at this; exact this.2
theorem idxE_some {l : List Ent} {i : Int} {k : Nat} (h : idxE l i = some k) : ∃ e, l[k]? = some e ∧ e.id = i := by
  induction l generalizing k with
  | nil => cases h
  | cons x r ih =>
    unfold idxE at h
    split at h
    · injection h with h; subst h; exact ⟨x, rfl, by assumption⟩
    · cases hr : idxE r i with
      | none => rw [hr] at h; cases h
      | some j =>
        rw [hr] at h; simp at h; subst h
        obtain ⟨e, he, hi⟩ := ih hr
        exact ⟨e, by simpa using he, hi⟩
theorem idxE_none {l : List Ent} {i : Int} : idxE l i = none ↔ ∀ e ∈ l, e.id ≠ i := by
  induction l with
  | nil => simp [idxE]
  | cons x r ih =>
    unfold idxE
    split
    · simp_all
    · simp_all
theorem idxE_hit {l : List Ent} {i : Int} {k : Nat} {e : Ent} (h : l[k]? = some e) (hi : e.id = i) (hno : ∀ (j : Nat) (d : Ent), l[j]? = some d → j < k → d.id ≠ i) : idxE l i = some k := by
  induction l generalizing k with
  | nil => simp at h
  | cons x r ih =>
    unfold idxE
    cases k with
    | zero => simp at h; subst h; rw [if_pos hi]
    | succ k =>
      rw [if_neg (hno 0 x rfl (by omega)), ih (k := k) (by simpa using h) (fun j d hd hj => hno (j + 1) d (by simpa using hd) (by omega))]; rfl
theorem idxE_miss {l : List Ent} {i : Int} (hno : ∀ (j : Nat) (d : Ent), l[j]? = some d → d.id ≠ i) : idxE l i = none :=
  idxE_none.2 fun e he => by obtain ⟨j, hj⟩ := List.mem_iff_getElem?.1 he; exact hno j e hj
theorem idxE_lt {l : List Ent} {i : Int} {k : Nat} (h : idxE l i = some k) : k < l.length := by
  obtain ⟨e, he, _⟩ := idxE_some h; exact (List.getElem?_eq_some_iff.1 he).1
theorem idxE_append {a b : List Ent} {i : Int} : (idxE (a ++ b) i).isSome = ((idxE a i).isSome || (idxE b i).isSome) := by
  have hs : ∀ l : List Ent, (idxE l i).isSome = l.any fun e => decide (e.id = i) := fun l => by
    cases h : idxE l i with
    | none => have := idxE_none.1 h; simp; exact this
    | some k => obtain ⟨e, he, hi⟩ := idxE_some h; simp; exact ⟨e, List.mem_of_getElem? he, hi⟩
  rw [hs, hs, hs, List.any_append]
/-- The numbers of a list are ids of its own: the entries ahead do not hold that of entry k. -/
theorem asc_take_none {l : List Ent} (h : Asc l) {k : Nat} {e : Ent} (he : l[k]? = some e) : idxE (l.take k) e.id = none := by
  refine idxE_none.2 fun x hx => ?_
  have hs : l = l.take k ++ l.drop k := (List.take_append_drop k l).symm
  have h' : (l.take k ++ l.drop k).Pairwise fun a b : Ent => a.id < b.id := by rw [← hs]; exact h
  have := (List.pairwise_append.1 h').2.2 x hx e (List.mem_iff_getElem?.2 ⟨0, by rw [List.getElem?_drop]; simpa using he⟩)
  omega
theorem dupB_cons {l : List Ent} {e : Ent} {r : List Ent} : dupB l (e :: r) = ((idxE l e.id).isSome || dupB l r) := rfl

/-- Insertion. -/
theorem insE_perm (l : List Ent) (e : Ent) : (insE l e).Perm (e :: l) := by
  unfold insE
  refine (List.perm_middle).trans (List.Perm.cons e ?_)
  rw [List.takeWhile_append_dropWhile]
theorem insE_length (l : List Ent) (e : Ent) : (insE l e).length = l.length + 1 := (insE_perm l e).length_eq
theorem insAll_perm (l add : List Ent) : (insAll l add).Perm (l ++ add) := by
  induction add generalizing l with
  | nil => simp [insAll]
  | cons e r ih =>
    show (insAll (insE l e) r).Perm _
    refine (ih _).trans ((List.Perm.append_right r (insE_perm l e)).trans ?_)
    simp only [List.cons_append]
    exact List.perm_middle.symm
theorem insE_asc {l : List Ent} {e : Ent} (h : Asc l) (hn : idxE l e.id = none) : Asc (insE l e) := by
  induction l with
  | nil => exact List.pairwise_singleton _ _
  | cons x r ih =>
    have hr := (List.pairwise_cons.1 h)
    have hne : x.id ≠ e.id := idxE_none.1 hn x (by simp)
    have hn' : idxE r e.id = none := idxE_none.2 fun y hy => idxE_none.1 hn y (by simp [hy])
    unfold insE
    by_cases hx : x.id < e.id
    · rw [List.takeWhile_cons, List.dropWhile_cons]
      simp only [hx, decide_true, if_true, List.cons_append]
      refine List.Pairwise.cons (fun z hz => ?_) (ih hr.2 hn')
      rcases List.mem_cons.1 ((insE_perm r e).mem_iff.1 hz) with rfl | hz
      · exact hx
      · exact hr.1 z hz
    · rw [List.takeWhile_cons, List.dropWhile_cons]
      simp only [hx, decide_false, if_false, List.nil_append, Bool.false_eq_true]
      refine List.Pairwise.cons (fun z hz => ?_) h
      rcases List.mem_cons.1 hz with rfl | hz
      · omega
      · have := hr.1 z hz; omega
theorem insAll_asc {l add : List Ent} (h : Asc l) (ha : Asc add) (hd : dupB l add = false) : Asc (insAll l add) := by
  induction add generalizing l with
  | nil => exact h
  | cons e r ih =>
    rw [dupB_cons, Bool.or_eq_false_iff] at hd
    obtain ⟨h1, h2⟩ := hd
    have hn : idxE l e.id = none := by cases hh : idxE l e.id with
      | none => rfl
      | some k => rw [hh] at h1; cases h1
    have hr := List.pairwise_cons.1 ha
    refine ih (insE_asc h hn) hr.2 ?_
    unfold dupB at h2 ⊢
    rw [List.any_eq_false] at h2 ⊢
    intro x hx
    have h3 := h2 x hx
    have h4 : idxE l x.id = none := by cases hh : idxE l x.id with
      | none => rfl
      | some k => rw [hh] at h3; simp at h3
    have h5 : idxE (insE l e) x.id = none := idxE_none.2 fun y hy => by
      rcases List.mem_cons.1 ((insE_perm l e).mem_iff.1 hy) with rfl | hy
      · have := hr.1 x hx; omega
      · exact idxE_none.1 h4 y hy
    rw [h5]; simp
theorem erase_asc {l : List Ent} (h : Asc l) (k : Nat) : Asc (l.eraseIdx k) := List.Pairwise.sublist (List.eraseIdx_sublist l k) h
theorem remAll_asc {l l' : List Ent} {rem : List Int} (h : Asc l) (hr : remAll l rem = some l') : Asc l' := by
  induction rem generalizing l with
  | nil => injection hr with hr; subst hr; exact h
  | cons i r ih =>
    unfold remAll at hr
    split at hr
    · cases hr
    · exact ih (erase_asc h _) hr
/-- Two ascending lists of the same entries are one. -/
theorem asc_unique {a b : List Ent} (ha : Asc a) (hb : Asc b) (hp : a.Perm b) : a = b :=
  hp.eq_of_pairwise (fun x y _ _ h1 h2 => absurd h1 (by omega)) ha hb
end Go.Proofs.Ytcjekbncllccbaa
