/-
  Law 28 in plain Lean: the pairs that the program and the reference look at are the same.
-/
import Derived.Test.YtcjekbncllccbaaPickPair
namespace Go.Proofs.Ytcjekbncllccbaa
def meetE (t : Int) (a b : Ent) : Bool := decide (cmpR t a.lo b.hi ≤ 0) && decide (cmpR t b.lo a.hi ≤ 0)
/-- No entry has a rank between the two, of which the first comes before the other. -/
def adjE (t : Int) (l : List Ent) (x y : Ent) : Bool := !meetE t x y && l.all fun e => decide (e.id = x.id) || decide (e.id = y.id) || !(decide (0 < cmpR t e.hi x.hi) && decide (cmpR t e.lo y.lo < 0))
def okPair (t : Int) (l : List Ent) (rows : Int) (p : Ent × Ent) : Bool := decide (p.1.live + p.2.live ≤ rows) && (meetE t p.1 p.2 || adjE t l p.1 p.2)
/-- Two entries, the one that comes before first. -/
def ordE (t : Int) (a b : Ent) : Ent × Ent := if beforeB t b a = true then (b, a) else (a, b)
def candI (t : Int) (l : List Ent) (rows : Int) (a : Ent) (n : Nat) : List (Ent × Ent) := ((l.take n).map (ordE t a)).filter (okPair t l rows)
/-- The program's pairs: with the first m entries, each with those ahead of it. -/
def candP (t : Int) (l : List Ent) (rows : Int) (m : Nat) : List (Ent × Ent) := (List.range m).flatMap fun i => match l[i]? with
  | some a => candI t l rows a i
  | none => []
def candJ (t : Int) (l : List Ent) (rows : Int) (x : Ent) (n : Nat) : List (Ent × Ent) := ((l.take n).map fun y => (x, y)).filter fun p => beforeB t p.1 p.2 && okPair t l rows p
/-- The reference's pairs. -/
def candR (t : Int) (l : List Ent) (rows : Int) (m : Nat) : List (Ent × Ent) := (l.take m).flatMap fun x => candJ t l rows x l.length
theorem candI_next {t : Int} {l : List Ent} {rows : Int} {a b : Ent} {n : Nat} (h : l[n]? = some b) : candI t l rows a (n + 1) = candI t l rows a n ++ (if okPair t l rows (ordE t a b) = true then [ordE t a b] else []) := by
  unfold candI
  rw [List.take_add_one, h, Option.toList_some, List.map_append, List.filter_append]
  congr 1
  simp only [List.map_cons, List.map_nil, List.filter_cons, List.filter_nil]
theorem candP_next {t : Int} {l : List Ent} {rows : Int} {a : Ent} {m : Nat} (h : l[m]? = some a) : candP t l rows (m + 1) = candP t l rows m ++ candI t l rows a m := by
  unfold candP
  rw [List.range_succ, List.flatMap_append]
  congr 1
  simp [h]
theorem candJ_next {t : Int} {l : List Ent} {rows : Int} {x y : Ent} {n : Nat} (h : l[n]? = some y) : candJ t l rows x (n + 1) = candJ t l rows x n ++ (if (beforeB t x y && okPair t l rows (x, y)) = true then [(x, y)] else []) := by
  unfold candJ
  rw [List.take_add_one, h, Option.toList_some, List.map_append, List.filter_append]
  congr 1
  simp only [List.map_cons, List.map_nil, List.filter_cons, List.filter_nil]
theorem candR_next {t : Int} {l : List Ent} {rows : Int} {x : Ent} {m : Nat} (h : l[m]? = some x) : candR t l rows (m + 1) = candR t l rows m ++ candJ t l rows x l.length := by
  unfold candR
  rw [List.take_add_one, h, Option.toList_some, List.flatMap_append]
  congr 1
  simp
theorem before_tot {a b : Ent} (ha : a.lo.low) (hb : b.lo.low) (h : a.id ≠ b.id) : beforeB 1 b a = !beforeB 1 a b := by
  have h1 := before_key ha hb
  have h2 := before_key hb ha
  cases e1 : beforeB 1 a b with
  | true =>
    have := h1.1 e1
    rw [Bool.not_true, ← Bool.not_eq_true, h2]; omega
  | false =>
    have : ¬ beforeB 1 a b = true := by rw [e1]; simp
    rw [h1] at this
    rw [Bool.not_false, h2]; omega
theorem cand_same {l : List Ent} {rows : Int} (ha : Asc l) (hl : LowL l) (p : Ent × Ent) : p ∈ candP 1 l rows l.length ↔ p ∈ candR 1 l rows l.length := by
  unfold candP candR candJ candI
  rw [List.mem_flatMap, List.mem_flatMap, List.take_length]
  constructor
  · rintro ⟨i, hi, h⟩
    have hil : i < l.length := List.mem_range.1 hi
    have hie := List.getElem?_eq_getElem hil
    rw [hie] at h
    simp only at h
    obtain ⟨h1, h2⟩ := List.mem_filter.1 h
    obtain ⟨b, hb, rfl⟩ := List.mem_map.1 h1
    obtain ⟨k, hk, hkb⟩ := List.mem_iff_getElem.1 hb
    rw [List.length_take] at hk
    rw [List.getElem_take] at hkb
    have hkl : k < l.length := by omega
    have hid : b.id < l[i].id := by rw [← hkb]; exact List.pairwise_iff_getElem.1 ha k i hkl hil (by omega)
    have hbm : b ∈ l := by rw [← hkb]; exact List.getElem_mem hkl
    have ham : l[i] ∈ l := List.getElem_mem hil
    have ht := before_tot (hl _ ham).1 (hl _ hbm).1 (by omega)
    unfold ordE at h2 ⊢
    by_cases hc : beforeB 1 b l[i] = true
    · rw [if_pos hc] at h2 ⊢
      exact ⟨b, hbm, List.mem_filter.2 ⟨List.mem_map.2 ⟨l[i], ham, rfl⟩, by simp only [hc, h2, Bool.and_self]⟩⟩
    · rw [if_neg hc] at h2 ⊢
      refine ⟨l[i], ham, List.mem_filter.2 ⟨List.mem_map.2 ⟨b, hbm, rfl⟩, ?_⟩⟩
      have : beforeB 1 l[i] b = true := by
        rw [Bool.not_eq_true] at hc
        rw [hc] at ht
        simpa using ht.symm
      simp only [this, h2, Bool.and_self]
  · rintro ⟨x, hx, h⟩
    obtain ⟨h1, h2⟩ := List.mem_filter.1 h
    obtain ⟨y, hy, rfl⟩ := List.mem_map.1 h1
    simp only [Bool.and_eq_true] at h2
    obtain ⟨hb, hok⟩ := h2
    obtain ⟨i, hi, rfl⟩ := List.mem_iff_getElem.1 hx
    obtain ⟨k, hk, rfl⟩ := List.mem_iff_getElem.1 hy
    have hne : i ≠ k := fun e => by
      subst e
      have := (before_key (hl _ hx).1 (hl _ hx).1).1 hb
      omega
    rcases Nat.lt_or_ge k i with hki | hki
    · refine ⟨i, List.mem_range.2 hi, ?_⟩
      rw [List.getElem?_eq_getElem hi]
      refine List.mem_filter.2 ⟨List.mem_map.2 ⟨l[k], List.mem_iff_getElem.2 ⟨k, by rw [List.length_take]; omega, by rw [List.getElem_take]⟩, ?_⟩, hok⟩
      have hid := List.pairwise_iff_getElem.1 ha k i hk hi hki
      have ht := before_tot (hl _ hx).1 (hl _ hy).1 (by omega)
      unfold ordE
      rw [ht, hb]; simp
    · have hik : i < k := by omega
      refine ⟨k, List.mem_range.2 hk, ?_⟩
      rw [List.getElem?_eq_getElem hk]
      refine List.mem_filter.2 ⟨List.mem_map.2 ⟨l[i], List.mem_iff_getElem.2 ⟨i, by rw [List.length_take]; omega, by rw [List.getElem_take]⟩, ?_⟩, hok⟩
      unfold ordE
      rw [hb]; simp
theorem candP_sub {l : List Ent} {rows : Int} (ha : Asc l) (hl : LowL l) : ∀ p ∈ candP 1 l rows l.length, p.1 ∈ l ∧ p.2 ∈ l := fun p hp => by
  have h := (cand_same ha hl p).1 hp
  unfold candR candJ at h
  rw [List.mem_flatMap, List.take_length] at h
  obtain ⟨x, hx, h⟩ := h
  obtain ⟨h1, _⟩ := List.mem_filter.1 h
  obtain ⟨y, hy, rfl⟩ := List.mem_map.1 h1
  exact ⟨hx, hy⟩
/-- What Pair answers. -/
theorem pair_same {l : List Ent} {rows : Int} (ha : Asc l) (hl : LowL l) : minOf (pairLt 1) (candP 1 l rows l.length) = minOf (pairLt 1) (candR 1 l rows l.length) :=
  minOf_same (pair_tells ha hl (candP_sub ha hl)) fun p => cand_same ha hl p
end Go.Proofs.Ytcjekbncllccbaa
