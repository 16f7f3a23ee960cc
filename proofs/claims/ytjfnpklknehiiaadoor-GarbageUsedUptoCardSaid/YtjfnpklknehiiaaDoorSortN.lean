/-
  slices.Sort, slices.Compact and slices.DeleteFunc at a row of names of the call's own.
-/
import Derived.Sort.OwnSorted
import Derived.Test.YtjfnpklknehiiaaDoorRPut
namespace Go.Proofs.YtjfnpklknehiiaaDoor
open Go.RowKit Go.Lib Go.Sort
theorem strN_enc (l : List Nm) : strN l = l.map encStr := by
  unfold strN strV
  rw [List.map_map]
  apply List.map_congr_left
  intro x _
  simp [encStr, bsN]
theorem own_front1 {w : World} {base : Nat} {t : TypeId} {g n m cap : Nat} {xs : List Value} (h : w.ownsRow base t 1 (.slice (some ⟨g, 0, none⟩) n cap) n xs) (hm : m ≤ n) : w.ownsRow base t 1 (.slice (some ⟨g, 0, none⟩) m cap) m (xs.take m) := by
  obtain ⟨h1, h2⟩ := h
  rcases h2 with ⟨h2, _⟩ | ⟨g', cap', cur, e0, hb, hg, hn2, hc, hcs, ht⟩
  · cases h2
  injection e0 with e1 _ e3
  injection e1 with e1
  injection e1 with e1
  subst e1 e3
  refine ⟨by rw [List.length_take, h1]; omega, .inr ⟨g, cap, cur, rfl, hb, hg, by omega, hc, hcs, ?_⟩⟩
  rw [← ht, List.take_take]
  congr 1
  omega
/-- What the library leaves in the row: a list of the same length. -/
theorem own_put {w : World} {base g cap n : Nat} {t : TypeId} {os : Array Obj} {ss ts : List Nm} (h : w.ownsRow base t 1 (.slice (some ⟨g, 0, none⟩) ss.length cap) ss.length (strN ss)) (hl : ts.length = ss.length) :
    (grow (putRow encStr (Sort.ahead w n) g 0 ts.toArray) os).ownsRow base t 1 (.slice (some ⟨g, 0, none⟩) ss.length cap) ss.length (strN ts) := by
  rcases h.2 with ⟨h2, _⟩ | ⟨g', cap', cur, e0, hb, hg, hn2, hc, hcs, ht⟩
  · cases h2
  injection e0 with e1 _ e3
  injection e1 with e1
  injection e1 with e1
  subst e1 e3
  rw [strN_enc]
  exact ownsRow_sorted hl hb hg hn2 hc hcs
theorem holds_own {w : World} {base g cap : Nat} {t : TypeId} {ss : List Nm} (h : w.ownsRow base t 1 (.slice (some ⟨g, 0, none⟩) ss.length cap) ss.length (strN ss)) : Holds encStr w g 0 ss.toArray ∧ g < w.heap.size ∧ ss.length ≤ cap ∧ cap ≤ maxLen := by
  rcases h.2 with ⟨h2, _⟩ | ⟨g', cap', cur, e0, hb, hg, hn2, hc, hcs, ht⟩
  · cases h2
  injection e0 with e1 _ e3
  injection e1 with e1
  injection e1 with e1
  subst e1 e3
  refine ⟨holds_of_block hg (by rw [Nat.mul_one] at ht; rw [ht, strN_enc]), (Array.getElem?_eq_some_iff.1 hg).1, hn2, hc⟩
/-- A row of names in place of another one, in the same block. -/
def RetNm (w : World) (base g cap : Nat) (l : List Nm) (w' : World) : Prop := w'.ownsRow base 9 1 (.slice (some ⟨g, 0, none⟩) l.length cap) l.length (strN l) ∧ w.grownBy w' (some g)
theorem sortS_any (g cap base : Nat) (l : List Nm) (w : World) (hown : w.ownsRow base 9 1 (.slice (some ⟨g, 0, none⟩) l.length cap) l.length (strN l)) (hl : l.length ≤ 100000000) :
    Calls Tryd.prog 27 #[.slice (some ⟨g, 0, none⟩) l.length cap] w fun e w' => e = .returned (.tuple #[]) ∧ RetNm w base g cap (sortN l) w' := by
  obtain ⟨hH, hg, _, _⟩ := holds_own hown
  refine (Tryd.slices_Sort_string g 0 cap l w hH hg (by omega)).mono ?_
  rintro e w' ⟨rfl, n, os, rfl⟩
  have hp := (sortN_perm l).length_eq
  refine ⟨rfl, ?_, grownBy_sorted _⟩
  have := own_put (n := n) (os := os) hown hp
  rw [← hp] at this
  exact this
theorem compN_len (l : List Nm) : (compN l).length ≤ l.length := by
  unfold compN compactUpTo
  rw [List.length_map]
  refine Nat.le_trans (List.length_filter_le _ _) ?_
  simp
theorem compS_any (g cap base : Nat) (l : List Nm) (w : World) (hown : w.ownsRow base 9 1 (.slice (some ⟨g, 0, none⟩) l.length cap) l.length (strN l)) (hl : l.length ≤ 100000000) :
    Calls Tryd.prog 29 #[.slice (some ⟨g, 0, none⟩) l.length cap] w fun e w' => e = .returned (.slice (some ⟨g, 0, none⟩) (compN l).length cap) ∧ RetNm w base g cap (compN l) w' := by
  obtain ⟨hH, hg, h1, h2⟩ := holds_own hown
  refine (Tryd.slices_Compact_string_arr g 0 cap l.toArray w hH (by simp; omega) (by simpa using h1)).mono ?_
  rintro e w' ⟨rfl, q, rfl⟩
  have hc := compN_len l
  have hlen : (compN l ++ List.replicate (l.length - (compN l).length) []).length = l.length := by simp; omega
  have ho := own_put (n := q) (os := #[]) hown hlen
  rw [grow_empty] at ho
  have hg2 := grownBy_sorted (w := w) (g := g) (n := q) (os := #[]) (compN l ++ List.replicate (l.length - (compN l).length) []).toArray
  rw [grow_empty] at hg2
  have h3 := own_front1 ho hc
  rw [strN_take, List.take_append_of_le_length (Nat.le_refl _), List.take_length] at h3
  exact ⟨rfl, h3, hg2⟩
theorem emptyLit_any (x : Nm) (w : World) : Calls Tryd.prog 30 #[encStr x] w fun e w' => e = .returned (.bool (decide (x = []))) ∧ ∃ q, w' = w.drewN q := by
  have hx : (bsN x).toList = x := by rw [Go.ByteArray.toList_eq, bsN_data]
  have he : encStr x = .string (bsN x) := by simp [encStr, bsN]
  rw [he]
  cases x with
  | nil =>
    go_enter Tryd.func30, Tryd.ntmps30
    go_wp2
    go_ret
    exact ⟨rfl, 0, rfl⟩
  | cons a r =>
    go_enter Tryd.func30, Tryd.ntmps30
    go_wp2
    go_ret
    exact ⟨rfl, 0, rfl⟩
theorem delS_any (g cap base : Nat) (l : List Nm) (w : World) (hown : w.ownsRow base 9 1 (.slice (some ⟨g, 0, none⟩) l.length cap) l.length (strN l)) (hl : l.length ≤ 100000000) :
    Calls Tryd.prog 28 #[.slice (some ⟨g, 0, none⟩) l.length cap, .func (.func 30) #[] #[]] w fun e w' => e = .returned (.slice (some ⟨g, 0, none⟩) (l.filter fun x => !(decide (x = []))).length cap) ∧ RetNm w base g cap (l.filter fun x => !(decide (x = []))) w' := by
  obtain ⟨hH, hg, h1, h2⟩ := holds_own hown
  refine (Tryd.slices_DeleteFunc encStr (fun x => rfl) (fun x => decide (x = [])) 30 #[] (fun args w => by kernel_rfl) [] (fun w => by kernel_rfl) g 0 cap l.toArray w (fun W x _ => emptyLit_any x W) (fun n os dk x _ => emptyLit_any x _) hH (by simp; omega) (by simpa using h1)).mono ?_
  rintro e w' ⟨rfl, q, rfl⟩
  have hc := List.length_filter_le (fun x : Nm => !(decide (x = []))) l
  obtain ⟨r, hr⟩ : ∃ r, (l.filter fun x => !(decide (x = []))) = r := ⟨_, rfl⟩
  simp only [hr] at hc ⊢
  have hlen : (r ++ List.replicate (l.length - r.length) []).length = l.length := by simp; omega
  have ho := own_put (n := q) (os := #[]) hown hlen
  rw [grow_empty] at ho
  have hg2 := grownBy_sorted (w := w) (g := g) (n := q) (os := #[]) (r ++ List.replicate (l.length - r.length) []).toArray
  rw [grow_empty] at hg2
  have h3 := own_front1 ho hc
  rw [strN_take, List.take_append_of_le_length (Nat.le_refl _), List.take_length] at h3
  exact ⟨trivial, h3, hg2⟩
end Go.Proofs.YtjfnpklknehiiaaDoor
