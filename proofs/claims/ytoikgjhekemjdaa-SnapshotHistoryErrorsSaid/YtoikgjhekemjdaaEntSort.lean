/-
  slices.SortFunc at entries, by their numbers: the row of the call's own holds a permutation, sorted.
-/
import Derived.Test.YtoikgjhekemjdaaEntOps
import Derived.Test.YtoikgjhekemjdaaShelfK
namespace Go.Proofs.Ytoikgjhekemjdaa
open Go.RowKit Go.Sort
/-- An entry whose number lies in range. -/
structure SEnt where
  val : Ent
  lo : 0 ≤ val.id
  hi : val.id ≤ 2147483647
instance : Inhabited SEnt := ⟨⟨⟨1, 0, 0, ⟨false, 0, ByteArray.empty, 0⟩, ⟨false, 0, ByteArray.empty, 0⟩, 0⟩, by decide, by decide⟩⟩
def encS (x : SEnt) : List Value := x.1.cells
def cmpS (x y : SEnt) : Int := x.1.id - y.1.id
theorem ltS (x y : SEnt) : ltOf cmpS x y = decide (x.1.id < y.1.id) := by
  unfold ltOf cmpS
  by_cases h : x.1.id < y.1.id
  · rw [decide_eq_true h, decide_eq_true (by omega)]
  · rw [decide_eq_false h, decide_eq_false (by omega)]
theorem swoS : SWO (ltOf cmpS) where
  irrefl x := by rw [ltS]; simp
  trans x y z h1 h2 := by rw [ltS] at *; simp at *; omega
  ntrans x y z h1 h2 := by rw [ltS] at *; simp at *; omega
set_option maxHeartbeats 1000000 in
theorem sortLit_any (x y : SEnt) (W : World) : Calls Try.prog 41 #[.agg (encS x).toArray, .agg (encS y).toArray] W fun e w' => e = .returned (.int .i64 (cmpS x y)) ∧ ∃ q os', w' = grow (W.drewN q) os' := by
  obtain ⟨⟨i1, r1, v1, ⟨a1, b1, c1, d1⟩, ⟨e1, f1, g1, h1⟩, k1⟩, x1, x2⟩ := x
  obtain ⟨⟨i2, r2, v2, ⟨a2, b2, c2, d2⟩, ⟨e2, f2, g2, h2⟩, k2⟩, y1, y2⟩ := y
  simp only at x1 x2 y1 y2
  show Calls Try.prog 41 #[.agg #[.int .i64 i1, .int .i64 r1, .int .i64 v1, .bool a1, .int .i64 b1, .string c1, .int .i64 d1, .bool e1, .int .i64 f1, .string g1, .int .i64 h1, .int .i64 k1], .agg #[.int .i64 i2, .int .i64 r2, .int .i64 v2, .bool a2, .int .i64 b2, .string c2, .int .i64 d2, .bool e2, .int .i64 f2, .string g2, .int .i64 h2, .int .i64 k2]] W fun e w' => e = .returned (.int .i64 (i1 - i2)) ∧ ∃ q os', w' = grow (W.drewN q) os'
  go_enter Try.func41, Try.ntmps41
  go_wp2
  go_ret
  exact ⟨rfl, 0, _, by rw [alloc_eq_grow, alloc_eq_grow, grow_grow]; rfl⟩
theorem cmpLaysS (blk off size : Nat) (w : World) : CmpLays Try.prog 41 #[] encS 12 cmpS blk off size w := fun _ _ _ _ x y => sortLit_any x y _
def plainE (d : Array SEnt) : List Ent := d.toList.map fun x => x.1
theorem plainE_length (d : Array SEnt) : (plainE d).length = d.size := by simp [plainE]
theorem plainE_get {d : Array SEnt} {k : Nat} (hk : k < d.size) : (plainE d)[k]? = some d[k]!.1 := by
  simp [plainE, hk]
theorem flat_get {d : Array SEnt} {j : Nat} (hj : j < d.size * 12) : (ents (plainE d))[j]? = some (flatK encS 12 d)[j]! := by
  rw [get_flatK encS 12 d j hj]
  have hk : j / 12 < d.size := by omega
  have hr : j % 12 < 12 := by omega
  have := ents_get (plainE_get hk) hr
  rw [show j / 12 * 12 + j % 12 = j by omega] at this
  rw [this]
  have hl : (encS d[j / 12]!).length = 12 := rfl
  show (encS d[j / 12]!)[j % 12]? = _
  rw [List.getElem?_eq_getElem (by omega), getElem!_pos (encS d[j / 12]!) (j % 12) (by omega)]
theorem holds_of_own {w : World} {base : Nat} {t : TypeId} {g cap : Nat} {d : Array SEnt} (h : w.ownsRow base t 12 (.slice (some ⟨g, 0, none⟩) d.size cap) d.size (ents (plainE d))) : HoldsK encS 12 w g 0 d := by
  intro j hj
  rw [size_flatK] at hj
  have hc := h.cells (g := g) rfl j _ (flat_get hj)
  rw [Addr.add_lit] at hc
  refine ⟨hc, ?_⟩
  have hcap : d.size ≤ cap := by
    rcases h.2 with ⟨h2, _⟩ | ⟨g', cap', cur, e, _, _, hn, _⟩
    · cases h2
    · injection e with _ _ e3; omega
  rw [Nat.zero_add]
  exact (own_cell h (by omega)).2
theorem putCells_get (F cur : Array Value) (j : Nat) : (putCells id 0 F cur)[j]? = (cur[j]?).map fun x => if j < F.size then F[j]! else x := by
  unfold putCells
  rw [Array.getElem?_mapIdx]
  cases cur[j]? <;> simp
theorem own_of_sort {w : World} {base : Nat} {t : TypeId} {g cap n : Nat} {d d' : Array SEnt} {os : Array Obj} (h : w.ownsRow base t 12 (.slice (some ⟨g, 0, none⟩) d.size cap) d.size (ents (plainE d))) (hs : d'.size = d.size) :
    (sortWorldK encS 12 w g 0 n d' os).ownsRow base t 12 (.slice (some ⟨g, 0, none⟩) d.size cap) d.size (ents (plainE d')) ∧ w.grownBy (sortWorldK encS 12 w g 0 n d' os) (some g) := by
  obtain ⟨h1, h2⟩ := h
  rcases h2 with ⟨h2, _⟩ | ⟨g', cap', cur, e, hb, hg, hn, hc, hcs, ht⟩
  · cases h2
  injection e with e1 _ e3
  injection e1 with e1
  injection e1 with e1
  subst e1 e3
  have hgs : g < w.heap.size := (Array.getElem?_eq_some_iff.1 hg).1
  have hh : ∀ k, (sortWorldK encS 12 w g 0 n d' os).heap[k]? = if k < w.heap.size then (if g = k then (w.heap[k]?).map (onCells (putCells id 0 (flatK encS 12 d'))) else w.heap[k]?) else os[k - w.heap.size]? := fun k => by
    show (Array.modify w.heap g (onCells (putCells id 0 (flatK encS 12 d'))) ++ os)[k]? = _
    by_cases hk : k < w.heap.size
    · rw [if_pos hk, Array.getElem?_append_left (by simpa using hk), Array.getElem?_modify]
    · rw [if_neg hk, Array.getElem?_append_right (by simpa using hk)]; simp
  refine ⟨⟨by rw [ents_length, plainE_length, hs], .inr ⟨g, cap, putCells id 0 (flatK encS 12 d') cur, rfl, hb, ?_, hn, hc, by simp [putCells, hcs], ?_⟩⟩, ⟨rfl, rfl, rfl, ?_, ?_⟩⟩
  · rw [hh, if_pos hgs, if_pos rfl, hg]; rfl
  · apply List.ext_getElem?
    intro j
    rw [List.getElem?_take, Array.getElem?_toList, putCells_get, size_flatK, hs]
    by_cases hj : j < d.size * 12
    · rw [if_pos hj, flat_get (by omega), Array.getElem?_eq_getElem (by omega)]
      simp [hj]
    · rw [if_neg hj, List.getElem?_eq_none (by rw [ents_length, plainE_length]; omega)]
  · show w.heap.size ≤ (Array.modify w.heap g _ ++ os).size
    simp
  · intro k hk hne
    rw [hh, if_pos hk, if_neg (fun e => hne (by rw [e]))]
theorem lift_S {l : List Ent} (h : ∀ e ∈ l, 0 ≤ e.id ∧ e.id ≤ 2147483647) : ∃ d : Array SEnt, plainE d = l := by
  refine ⟨(l.attach.map fun x => (⟨x.1, (h x.1 x.2).1, (h x.1 x.2).2⟩ : SEnt)).toArray, ?_⟩
  unfold plainE
  rw [List.toList_toArray, List.map_map]
  exact (List.attach_map_val (l := l) (f := fun x => x)).trans (List.map_id' l)
set_option maxRecDepth 100000 in
set_option maxHeartbeats 1000000 in
/-- SortFunc at a row of the call's own that is not nil. -/
theorem sortRow_any (g cap base : Nat) (l : List Ent) (w : World) (hown : w.ownsRow base 34 12 (.slice (some ⟨g, 0, none⟩) l.length cap) l.length (ents l)) (hid : ∀ e ∈ l, 0 ≤ e.id ∧ e.id ≤ 2147483647) (hl : l.length ≤ 1000000) :
    Calls Try.prog 40 #[.slice (some ⟨g, 0, none⟩) l.length cap, .func (.func 41) #[] #[]] w fun e w' =>
      e = .returned (.tuple #[]) ∧ ∃ l', l'.Perm l ∧ l'.Pairwise (fun a b => a.id ≤ b.id) ∧ w'.ownsRow base 34 12 (.slice (some ⟨g, 0, none⟩) l'.length cap) l'.length (ents l') ∧ w.grownBy w' (some g) := by
  obtain ⟨d, rfl⟩ := lift_S hid
  rw [plainE_length] at hown hl ⊢
  have hlt : g < w.heap.size := (hown.lt g rfl).2
  have eg : ∀ args w, (callFunc 41 args).run Try.prog w = .ok (.enter 41 args) w := enters_of Try.func41 (by kernel_rfl) rfl
  refine (AnyQ.slices_SortFunc Try.laySort 12 Try.isAgg34 Try.sizeOf34 encS (fun _ => rfl) (fun x v hv => one_ents' [x.1] v (by show v ∈ [x.1].flatMap Ent.cells; rw [List.flatMap_singleton]; exact hv)) cmpS swoS 41 #[] g 0 cap d w eg (cmpLaysS g 0 d.size w) (holds_of_own hown) hlt (by omega)).mono ?_
  rintro e w' ⟨rfl, d', n, os, ⟨hsz, _, hp⟩, hsort, rfl⟩
  obtain ⟨ho, hg⟩ := own_of_sort (n := n) (os := os) hown hsz
  refine ⟨rfl, plainE d', ?_, ?_, ?_, hg⟩
  · have h1 : d'.extract 0 d.size = d' := by rw [← hsz]; simp
    have h2 : d.extract 0 d.size = d := by simp
    rw [h1, h2] at hp
    exact hp.map _
  · rw [List.pairwise_iff_getElem]
    intro i j hi hj hij
    have hj' : j < d'.size := by rw [plainE_length] at hj; exact hj
    have := hsort i j (Nat.zero_le _) hij (by omega)
    rw [ltS] at this
    simp only [plainE, List.getElem_map, Array.getElem_toList]
    rw [getElem!_pos d' j (by omega), getElem!_pos d' i (by omega)] at this
    simpa using this
  · rw [plainE_length, hsz]; exact ho
set_option maxHeartbeats 1000000 in
/-- SortFunc at nil. -/
theorem len64_zero (w : World) : Calls Try.prog 90 #[.int .u64 0] w fun e w' => e = .returned (.int .i64 0) ∧ w' = w := by
  have e8 : Lib.len8 0 = 0 := by kernel_rfl
  go_enter Try.func90, Try.ntmps90
  go_wp2
  go_ret
  exact ⟨rfl, rfl⟩
set_option maxHeartbeats 1000000 in
theorem len_zero (w : World) : Calls Try.prog 68 #[.int .u64 0] w fun e w' => e = .returned (.int .i64 0) ∧ w' = w := by
  go_enter Try.func68, Try.ntmps68
  go_wp2_with (go_at_call 90; refine (len64_zero _).mono ?_; rintro _ _ ⟨rfl, rfl⟩)
  go_ret
  exact ⟨rfl, rfl⟩
set_option maxHeartbeats 1000000 in
theorem insert_nil (f : Value) (w : World) : Calls Try.prog 81 #[.slice none 0 0, .int .i64 0, .int .i64 0, f] w fun e w' => e = .returned (.tuple #[]) ∧ w' = w := by
  go_enter Try.func81, Try.ntmps81
  go_wp2
  go_loopw [8] (fun i wr => i = .int .i64 1 ∧ wr = w) (fun _ _ => 0)
  case atStart => exact ⟨rfl, rfl⟩
  case round =>
    obtain ⟨rfl, rfl⟩ := hrel
    go_wp2
    go_end0
    exact ⟨rfl, rfl⟩
set_option maxRecDepth 100000 in
set_option maxHeartbeats 1000000 in
theorem pdq_nil (f : Value) (w : World) : Calls Try.prog 67 #[.slice none 0 0, .int .i64 0, .int .i64 0, .int .i64 0, f] w fun e w' => e = .returned (.tuple #[]) ∧ w' = w := by
  have HI := Lib.hid (fun X => insert_nil f X)
  go_enter Try.func67, Try.ntmps67
  go_wp2
  go_loopw [1, 2] (fun a b wr => a = .int .i64 0 ∧ b = .int .i64 0 ∧ wr = w) (fun _ _ _ => 0)
  case atStart => exact ⟨rfl, rfl, rfl⟩
  case round =>
    obtain ⟨rfl, rfl, rfl⟩ := hrel
    go_wp2_with (with_reducible refine (HI.out _).mono ?_; rintro _ _ ⟨rfl, rfl⟩)
    exact bodyPost_ret (v := .tuple #[]) (by simp [results, Try.results67, go_sem]) rfl ⟨rfl, rfl⟩
set_option maxHeartbeats 1000000 in
theorem sortNil_any (f : Value) (w : World) : Calls Try.prog 40 #[.slice none 0 0, f] w fun e w' => e = .returned (.tuple #[]) ∧ w' = w := by
  have HI := Lib.hid (fun X => pdq_nil f X)
  have HL := Lib.hid (fun X => len_zero X)
  go_enter Try.func40, Try.ntmps40
  go_wp2_with (first
    | (with_reducible refine (HL.out _).mono ?_; rintro _ _ ⟨rfl, rfl⟩)
    | (with_reducible refine (HI.out _).mono ?_; rintro _ _ ⟨rfl, rfl⟩))
  go_end0
  exact ⟨rfl, rfl⟩
/-- SortFunc at a row of the call's own: the entries of an ascending list with these entries. -/
theorem sort_any (v : Value) (base : Nat) (l S : List Ent) (w : World) (hown : w.ownsRow base 34 12 v l.length (ents l)) (hid : ∀ e ∈ l, 0 ≤ e.id ∧ e.id ≤ 2147483647) (hl : l.length ≤ 1000000) (hS : S.Perm l) (hA : Asc S) (hbase : base ≤ w.heap.size) :
    Calls Try.prog 40 #[v, .func (.func 41) #[] #[]] w fun e w' =>
      e = .returned (.tuple #[]) ∧ w'.ownsRow base 34 12 v S.length (ents S) ∧ w.grownBy w' v.ownBlock := by
  rcases hown.2 with ⟨rfl, h0⟩ | ⟨g, cap, cur, rfl, _⟩
  · have hl0 := List.eq_nil_of_length_eq_zero h0
    subst hl0
    have hS0 := List.Perm.eq_nil hS
    subst hS0
    exact (sortNil_any _ w).mono fun e w' ⟨h1, h2⟩ => by subst h2; exact ⟨h1, World.ownsRow_nil _ _ _ _, World.grownBy.refl _ _⟩
  · refine (sortRow_any g cap base l w hown hid hl).mono ?_
    rintro e w' ⟨rfl, l', hp, hs, ho, hg⟩
    have hu : ∀ x ∈ S, ∀ y ∈ S, x.id = y.id → x = y := fun x hx y hy hxy => by
      obtain ⟨i, hi⟩ := List.mem_iff_getElem?.1 hx
      obtain ⟨j, hj⟩ := List.mem_iff_getElem?.1 hy
      obtain ⟨hi', e1⟩ := List.getElem?_eq_some_iff.1 hi
      obtain ⟨hj', e2⟩ := List.getElem?_eq_some_iff.1 hj
      have hA' := List.pairwise_iff_getElem.1 hA
      rcases Nat.lt_trichotomy i j with h | h | h
      · have := hA' i j hi' hj' h; rw [e1, e2] at this; omega
      · subst h; rw [← e1, ← e2]
      · have := hA' j i hj' hi' h; rw [e1, e2] at this; omega
    have hle : S.Pairwise fun a b => a.id ≤ b.id := hA.imp fun h => Int.le_of_lt h
    have heq : l' = S := (hp.trans hS.symm).eq_of_pairwise (fun x y hx hy h1 h2 => hu x (((hp.trans hS.symm).mem_iff).1 hx) y hy (by omega)) hs hle
    subst heq
    exact ⟨rfl, by rw [hp.length_eq] at ho ⊢; exact ho, hg⟩
end Go.Proofs.Ytoikgjhekemjdaa
