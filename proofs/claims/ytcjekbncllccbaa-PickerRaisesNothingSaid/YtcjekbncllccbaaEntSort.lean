/-
  slices.SortFunc at entries, by their numbers: the row of the call's own holds a permutation, sorted.
-/
import Derived.Test.YtcjekbncllccbaaEntOps
import Derived.Test.YtcjekbncllccbaaShelfK
namespace Go.Proofs.Ytcjekbncllccbaa
open Go.RowKit Go.Sort
/-- An entry whose number lies in range. -/
structure SEnt where
  val : Ent
  lo : 0 ≤ val.id
  hi : val.id ≤ 2147483647
instance : Inhabited SEnt := ⟨⟨⟨1, 0, 0, ⟨false, 0, ByteArray.empty, 0⟩, ⟨false, 0, ByteArray.empty, 0⟩, 0⟩, by decide, by decide⟩⟩
def encS (x : SEnt) : List Value := x.1.cells
def cmpS (x y : SEnt) : Int := x.1.id - y.1.id
theorem ltS (x y : SEnt) : ltOf cmpS x y = decide (x.1.id < y.1.id) := by
  unfold ltOf cmpS
  by_cases h : x.1.id < y.1.id
  · rw [decide_eq_true h, decide_eq_true (by omega)]
  · rw [decide_eq_false h, decide_eq_false (by omega)]
theorem swoS : SWO (ltOf cmpS) where
  irrefl x := by rw [ltS]; simp
  trans x y z h1 h2 := by rw [ltS] at *; simp at *; omega
  ntrans x y z h1 h2 := by rw [ltS] at *; simp at *; omega
def plainE (d : Array SEnt) : List Ent := d.toList.map fun x => x.1
theorem plainE_length (d : Array SEnt) : (plainE d).length = d.size := by simp [plainE]
theorem plainE_get {d : Array SEnt} {k : Nat} (hk : k < d.size) : (plainE d)[k]? = some d[k]!.1 := by
  simp [plainE, hk]
theorem flat_get {d : Array SEnt} {j : Nat} (hj : j < d.size * 12) : (ents (plainE d))[j]? = some (flatK encS 12 d)[j]! := by
  rw [get_flatK encS 12 d j hj]
  have hk : j / 12 < d.size := by omega
  have hr : j % 12 < 12 := by omega
  have := ents_get (plainE_get hk) hr
  rw [show j / 12 * 12 + j % 12 = j by omega] at this
  rw [this]
  have hl : (encS d[j / 12]!).length = 12 := rfl
  show (encS d[j / 12]!)[j % 12]? = _
  rw [List.getElem?_eq_getElem (by omega), getElem!_pos (encS d[j / 12]!) (j % 12) (by omega)]
theorem holds_of_own {w : World} {base : Nat} {t : TypeId} {g cap : Nat} {d : Array SEnt} (h : w.ownsRow base t 12 (.slice (some ⟨g, 0, none⟩) d.size cap) d.size (ents (plainE d))) : HoldsK encS 12 w g 0 d := by
  intro j hj
  rw [size_flatK] at hj
  have hc := h.cells (g := g) rfl j _ (flat_get hj)
  rw [Addr.add_lit] at hc
  refine ⟨hc, ?_⟩
  have hcap : d.size ≤ cap := by
    rcases h.2 with ⟨h2, _⟩ | ⟨g', cap', cur, e, _, _, hn, _⟩
    · cases h2
    · injection e with _ _ e3; omega
  rw [Nat.zero_add]
  exact (own_cell h (by omega)).2
theorem putCells_get (F cur : Array Value) (j : Nat) : (putCells id 0 F cur)[j]? = (cur[j]?).map fun x => if j < F.size then F[j]! else x := by
  unfold putCells
  rw [Array.getElem?_mapIdx]
  cases cur[j]? <;> simp
theorem own_of_sort {w : World} {base : Nat} {t : TypeId} {g cap n : Nat} {d d' : Array SEnt} {os : Array Obj} (h : w.ownsRow base t 12 (.slice (some ⟨g, 0, none⟩) d.size cap) d.size (ents (plainE d))) (hs : d'.size = d.size) :
    (sortWorldK encS 12 w g 0 n d' os).ownsRow base t 12 (.slice (some ⟨g, 0, none⟩) d.size cap) d.size (ents (plainE d')) ∧ w.grownBy (sortWorldK encS 12 w g 0 n d' os) (some g) := by
  obtain ⟨h1, h2⟩ := h
  rcases h2 with ⟨h2, _⟩ | ⟨g', cap', cur, e, hb, hg, hn, hc, hcs, ht⟩
  · cases h2
  injection e with e1 _ e3
  injection e1 with e1
  injection e1 with e1
  subst e1 e3
  have hgs : g < w.heap.size := (Array.getElem?_eq_some_iff.1 hg).1
  have hh : ∀ k, (sortWorldK encS 12 w g 0 n d' os).heap[k]? = if k < w.heap.size then (if g = k then (w.heap[k]?).map (onCells (putCells id 0 (flatK encS 12 d'))) else w.heap[k]?) else os[k - w.heap.size]? := fun k => by
    show (Array.modify w.heap g (onCells (putCells id 0 (flatK encS 12 d'))) ++ os)[k]? = _
    by_cases hk : k < w.heap.size
    · rw [if_pos hk, Array.getElem?_append_left (by simpa using hk), Array.getElem?_modify]
    · rw [if_neg hk, Array.getElem?_append_right (by simpa using hk)]; simp
  refine ⟨⟨by rw [ents_length, plainE_length, hs], .inr ⟨g, cap, putCells id 0 (flatK encS 12 d') cur, rfl, hb, ?_, hn, hc, by simp [putCells, hcs], ?_⟩⟩, ⟨rfl, rfl, rfl, ?_, ?_⟩⟩
  · rw [hh, if_pos hgs, if_pos rfl, hg]; rfl
  · apply List.ext_getElem?
    intro j
    rw [List.getElem?_take, Array.getElem?_toList, putCells_get, size_flatK, hs]
    by_cases hj : j < d.size * 12
    · rw [if_pos hj, flat_get (by omega), Array.getElem?_eq_getElem (by omega)]
      simp [hj]
    · rw [if_neg hj, List.getElem?_eq_none (by rw [ents_length, plainE_length]; omega)]
  · show w.heap.size ≤ (Array.modify w.heap g _ ++ os).size
    simp
  · intro k hk hne
    rw [hh, if_pos hk, if_neg (fun e => hne (by rw [e]))]
theorem lift_S {l : List Ent} (h : ∀ e ∈ l, 0 ≤ e.id ∧ e.id ≤ 2147483647) : ∃ d : Array SEnt, plainE d = l := by
  refine ⟨(l.attach.map fun x => (⟨x.1, (h x.1 x.2).1, (h x.1 x.2).2⟩ : SEnt)).toArray, ?_⟩
  unfold plainE
  rw [List.toList_toArray, List.map_map]
  exact (List.attach_map_val (l := l) (f := fun x => x)).trans (List.map_id' l)
set_option maxHeartbeats 1000000 in
/-- SortFunc at nil. -/
theorem len64_zero (w : World) : Calls Try.prog 78 #[.int .u64 0] w fun e w' => e = .returned (.int .i64 0) ∧ w' = w := by
  have e8 : Lib.len8 0 = 0 := by kernel_rfl
  go_enter Try.func78, Try.ntmps78
  go_wp2
  go_ret
  exact ⟨rfl, rfl⟩
set_option maxHeartbeats 1000000 in
theorem len_zero (w : World) : Calls Try.prog 56 #[.int .u64 0] w fun e w' => e = .returned (.int .i64 0) ∧ w' = w := by
  go_enter Try.func56, Try.ntmps56
  go_wp2_with (go_at_call 78; refine (len64_zero _).mono ?_; rintro _ _ ⟨rfl, rfl⟩)
  go_ret
  exact ⟨rfl, rfl⟩
set_option maxHeartbeats 1000000 in
theorem insert_nil (f : Value) (w : World) : Calls Try.prog 69 #[.slice none 0 0, .int .i64 0, .int .i64 0, f] w fun e w' => e = .returned (.tuple #[]) ∧ w' = w := by
  go_enter Try.func69, Try.ntmps69
  go_wp2
  go_loopw [8] (fun i wr => i = .int .i64 1 ∧ wr = w) (fun _ _ => 0)
  case atStart => exact ⟨rfl, rfl⟩
  case round =>
    obtain ⟨rfl, rfl⟩ := hrel
    go_wp2
    go_end0
    exact ⟨rfl, rfl⟩
set_option maxRecDepth 100000 in
set_option maxHeartbeats 1000000 in
theorem pdq_nil (f : Value) (w : World) : Calls Try.prog 55 #[.slice none 0 0, .int .i64 0, .int .i64 0, .int .i64 0, f] w fun e w' => e = .returned (.tuple #[]) ∧ w' = w := by
  have HI := Lib.hid (fun X => insert_nil f X)
  go_enter Try.func55, Try.ntmps55
  go_wp2
  go_loopw [1, 2] (fun a b wr => a = .int .i64 0 ∧ b = .int .i64 0 ∧ wr = w) (fun _ _ _ => 0)
  case atStart => exact ⟨rfl, rfl, rfl⟩
  case round =>
    obtain ⟨rfl, rfl, rfl⟩ := hrel
    go_wp2_with (with_reducible refine (HI.out _).mono ?_; rintro _ _ ⟨rfl, rfl⟩)
    exact bodyPost_ret (v := .tuple #[]) (by simp [results, Try.results55, go_sem]) rfl ⟨rfl, rfl⟩
set_option maxHeartbeats 1000000 in
theorem sortNil_any (f : Value) (w : World) : Calls Try.prog 34 #[.slice none 0 0, f] w fun e w' => e = .returned (.tuple #[]) ∧ w' = w := by
  have HI := Lib.hid (fun X => pdq_nil f X)
  have HL := Lib.hid (fun X => len_zero X)
  go_enter Try.func34, Try.ntmps34
  go_wp2_with (first
    | (with_reducible refine (HL.out _).mono ?_; rintro _ _ ⟨rfl, rfl⟩)
    | (with_reducible refine (HI.out _).mono ?_; rintro _ _ ⟨rfl, rfl⟩))
  go_end0
  exact ⟨rfl, rfl⟩
end Go.Proofs.Ytcjekbncllccbaa
