/-
  Words for memory: a slice of slices of integers that the call itself builds.
-/
import Derived.Test.YtjfnpklknehiiaaDoorBase
namespace Go.Proofs.YtjfnpklknehiiaaDoor
open Go.RowKit
def ints (l : List Int) : List Value := l.map (Value.int .i64)
theorem ints_snoc (l : List Int) (x : Int) : ints (l ++ [x]) = ints l ++ [.int .i64 x] := by simp [ints]
theorem ints_length (l : List Int) : (ints l).length = l.length := by simp [ints]
theorem ints_get {l : List Int} {k : Nat} {u : Value} (h : (ints l)[k]? = some u) : ∃ x, l[k]? = some x ∧ u = .int .i64 x := by
  simp only [ints, List.getElem?_map, Option.map_eq_some_iff] at h
  obtain ⟨x, hx, rfl⟩ := h
  exact ⟨x, hx, rfl⟩
theorem oneInt (k : IntKind) (x : Int) : ∀ u ∈ (#[Value.int k x] : Array Value).toList, u.oneCell' = true := by intro u hu; simp at hu; subst hu; rfl
theorem oneSlice (A : Option Addr) (n c : Nat) : ∀ u ∈ (#[Value.slice A n c] : Array Value).toList, u.oneCell' = true := by intro u hu; simp at hu; subst hu; rfl
theorem own_ints {w : World} {base : Nat} {e : TypeId} {v : Value} {l : List Int} {x : Int} (h : w.ownsRow base e 1 v (l.length + 1) (ints l ++ (#[Value.int .i64 x] : Array Value).toList)) : w.ownsRow base e 1 v (l ++ [x]).length (ints (l ++ [x])) := by
  rw [ints_snoc, List.length_append]; exact h

/-- A known element of a read slice of integers. -/
theorem Sl.int_at {w : World} {A : Option Addr} {c k : Nat} {zs : List Int} {n : Nat} (h : Sl w 1 (.slice A n c) n (ints zs)) (hk : k < n) : ∃ ad x, A = some ad ∧ zs[k]? = some x ∧ w.cell? (ad.add k) = some (.int .i64 x) := by
  obtain ⟨ad, u, e, _, hu, hc⟩ := h.at_ hk
  obtain ⟨x, hx, rfl⟩ := ints_get hu
  exact ⟨ad, x, e, hx, hc⟩

/-- A slice of integers that came in (as the frame of a law hands it over) reads as a list of integers of its kind. -/
theorem isRow_sl {w : World} {a : Option Addr} {len cap : Nat} {zs : List Int} (h : (a = none ∧ len = 0 ∧ cap = 0 ∧ zs = []) ∨
    ∃ x, a = some x ∧ len ≤ cap ∧ cap ≤ maxLen ∧ zs.length = cap ∧ (∀ i, i < zs.length → w.cell? (x.add i) = some (.int .i64 (zs.getD i 0))) ∧ ∀ n ∈ zs, (Lit.int .i64 n).wf = true) :
    ∃ l : List Int, len = l.length ∧ Sl w 1 (.slice a l.length cap) l.length (ints l) ∧ l.length ≤ 9223372036854775807 ∧ ∀ n ∈ l, (Lit.int .i64 n).wf = true := by
  rcases h with ⟨rfl, rfl, rfl, rfl⟩ | ⟨x, rfl, h1, h2, h3, h4, h5⟩
  · exact ⟨[], rfl, Sl.nil _ _, by simp, by simp⟩
  · have hl : (zs.take len).length = len := by rw [List.length_take]; omega
    unfold maxLen at h2
    refine ⟨zs.take len, hl.symm, ⟨some x, cap, rfl, by omega, by unfold maxLen; omega, by rw [ints_length]; omega, fun hn => ⟨x, rfl, ?_, ?_⟩⟩, by omega, fun n hn => h5 n (List.mem_of_mem_take hn)⟩
    · have := World.block_lt_of_cell? w (x.add 0) (h4 0 (by omega))
      rwa [block_of_add] at this
    · intro j u hj
      obtain ⟨y, hy, rfl⟩ := ints_get hj
      have hjl : j < zs.length := by
        have := (List.getElem?_eq_some_iff.1 hy).1
        rw [hl] at this; omega
      rw [h4 j hjl]
      rw [List.getElem?_take] at hy
      split at hy
      · simp [List.getD, hy]
      · cases hy

def ints8 (l : List Int) : List Value := l.map (Value.int .u8)
theorem ints8_length (l : List Int) : (ints8 l).length = l.length := by simp [ints8]
theorem ints8_get {l : List Int} {k : Nat} {u : Value} (h : (ints8 l)[k]? = some u) : ∃ x, l[k]? = some x ∧ u = .int .u8 x := by
  simp only [ints8, List.getElem?_map, Option.map_eq_some_iff] at h
  obtain ⟨x, hx, rfl⟩ := h
  exact ⟨x, hx, rfl⟩
theorem Sl.int8_at {w : World} {A : Option Addr} {c k : Nat} {zs : List Int} {n : Nat} (h : Sl w 1 (.slice A n c) n (ints8 zs)) (hk : k < n) : ∃ ad x, A = some ad ∧ zs[k]? = some x ∧ w.cell? (ad.add k) = some (.int .u8 x) := by
  obtain ⟨ad, u, e, _, hu, hc⟩ := h.at_ hk
  obtain ⟨x, hx, rfl⟩ := ints8_get hu
  exact ⟨ad, x, e, hx, hc⟩
/-- A slice of integers that came in (as the frame of a law hands it over) reads as a list of integers of its kind. -/
theorem isRow_sl8 {w : World} {a : Option Addr} {len cap : Nat} {zs : List Int} (h : (a = none ∧ len = 0 ∧ cap = 0 ∧ zs = []) ∨
    ∃ x, a = some x ∧ len ≤ cap ∧ cap ≤ maxLen ∧ zs.length = cap ∧ (∀ i, i < zs.length → w.cell? (x.add i) = some (.int .u8 (zs.getD i 0))) ∧ ∀ n ∈ zs, (Lit.int .u8 n).wf = true) :
    ∃ l : List Int, len = l.length ∧ Sl w 1 (.slice a l.length cap) l.length (ints8 l) ∧ l.length ≤ 9223372036854775807 ∧ ∀ n ∈ l, (Lit.int .u8 n).wf = true := by
  rcases h with ⟨rfl, rfl, rfl, rfl⟩ | ⟨x, rfl, h1, h2, h3, h4, h5⟩
  · exact ⟨[], rfl, Sl.nil _ _, by simp, by simp⟩
  · have hl : (zs.take len).length = len := by rw [List.length_take]; omega
    unfold maxLen at h2
    refine ⟨zs.take len, hl.symm, ⟨some x, cap, rfl, by omega, by unfold maxLen; omega, by rw [ints8_length]; omega, fun hn => ⟨x, rfl, ?_, ?_⟩⟩, by omega, fun n hn => h5 n (List.mem_of_mem_take hn)⟩
    · have := World.block_lt_of_cell? w (x.add 0) (h4 0 (by omega))
      rwa [block_of_add] at this
    · intro j u hj
      obtain ⟨y, hy, rfl⟩ := ints8_get hj
      have hjl : j < zs.length := by
        have := (List.getElem?_eq_some_iff.1 hy).1
        rw [hl] at this; omega
      rw [h4 j hjl]
      rw [List.getElem?_take] at hy
      split at hy
      · simp [List.getD, hy]
      · cases hy

/-- The values vs are slices that read as gs, each in memory of the call's own. -/
structure LL (w : World) (base : Nat) (e : TypeId) (vs : List Value) (gs : List (List Int)) : Prop where
  len : vs.length = gs.length
  rows : ∀ (j : Nat) (u : Value) (g : List Int), vs[j]? = some u → gs[j]? = some g → w.ownsRow base e 1 u g.length (ints g)

theorem LL.nil (w : World) (base : Nat) (e : TypeId) : LL w base e [] [] := ⟨rfl, fun j u g h => by simp at h⟩
theorem LL.snoc {w : World} {base : Nat} {e : TypeId} {vs : List Value} {gs : List (List Int)} {u : Value} {cur : List Int} (h : LL w base e vs gs) (hu : w.ownsRow base e 1 u cur.length (ints cur)) : LL w base e (vs ++ [u]) (gs ++ [cur]) := by
  refine ⟨by simp [h.len], fun j x g hx hg => ?_⟩
  by_cases hj : j < vs.length
  · rw [List.getElem?_append_left hj] at hx
    rw [List.getElem?_append_left (by rw [← h.len]; exact hj)] at hg
    exact h.rows j x g hx hg
  · rw [List.getElem?_append_right (by omega)] at hx
    rw [List.getElem?_append_right (by rw [← h.len]; omega), ← h.len] at hg
    rcases hjj : j - vs.length with _ | m
    · rw [hjj] at hx hg
      simp at hx hg
      subst hx; subst hg
      exact hu
    · rw [hjj] at hx; simp at hx
theorem own_grown {w w' : World} {base : Nat} {e : TypeId} {size : Nat} {v : Value} {n : Nat} {xs : List Value} {row : Option Nat} (h : w.ownsRow base e size v n xs) (hg : w.grownBy w' row) (hne : ∀ g, v.ownBlock = some g → row ≠ some g) : w'.ownsRow base e size v n xs := by
  refine h.kept hg ?_
  cases hv : v.ownBlock with
  | none => exact .inl rfl
  | some g => exact .inr (fun e => hne g hv e.symm)
theorem LL.grown {w w' : World} {base : Nat} {e : TypeId} {vs : List Value} {gs : List (List Int)} {row : Option Nat} (h : LL w base e vs gs) (hg : w.grownBy w' row) (hne : ∀ x ∈ vs, ∀ g, x.ownBlock = some g → row ≠ some g) : LL w' base e vs gs :=
  ⟨h.len, fun j u g hu hgg => own_grown (h.rows j u g hu hgg) hg (hne u (List.mem_of_getElem? hu))⟩
theorem LL.below {w w' : World} {base : Nat} {e : TypeId} {vs : List Value} {gs : List (List Int)} (h : LL w base e vs gs) (hb : Below w.heap.size w w') : LL w' base e vs gs :=
  ⟨h.len, fun j u g hu hgg => own_below (h.rows j u g hu hgg) hb⟩
theorem LL.alloc {w : World} {base : Nat} {e : TypeId} {vs : List Value} {gs : List (List Int)} (h : LL w base e vs gs) (o : Obj) : LL (w.alloc o) base e vs gs :=
  ⟨h.len, fun j u g hu hgg => (h.rows j u g hu hgg).alloc o⟩
/-- Rows of different element types never share a block. -/
theorem own_ne {w : World} {base base' : Nat} {e e' : TypeId} {size size' n n' : Nat} {v v' : Value} {xs xs' : List Value} (h : w.ownsRow base e size v n xs) (h' : w.ownsRow base' e' size' v' n' xs') (hne : e ≠ e') : ∀ g, v.ownBlock = some g → v'.ownBlock ≠ some g := by
  intro g hg hg'
  rcases h.2 with ⟨rfl, _⟩ | ⟨g1, cap, cur, rfl, _, hh, _⟩
  · simp [Value.ownBlock] at hg
  rcases h'.2 with ⟨rfl, _⟩ | ⟨g2, cap2, cur2, rfl, _, hh2, _⟩
  · simp [Value.ownBlock] at hg'
  have e1 : g1 = g := by simpa [Value.ownBlock] using hg
  have e2 : g2 = g := by simpa [Value.ownBlock] using hg'
  subst e1; subst e2
  rw [hh] at hh2
  injection hh2 with hh2
  injection hh2 with _ ht
  exact hne ht
theorem LL.mem_row {w : World} {base : Nat} {e : TypeId} {vs : List Value} {gs : List (List Int)} (h : LL w base e vs gs) {x : Value} (hx : x ∈ vs) : ∃ g : List Int, w.ownsRow base e 1 x g.length (ints g) := by
  obtain ⟨j, hj⟩ := List.mem_iff_getElem?.1 hx
  have hl : j < gs.length := by rw [← h.len]; exact (List.getElem?_eq_some_iff.1 hj).1
  exact ⟨gs[j], h.rows j x _ hj (List.getElem?_eq_getElem hl)⟩

/-- The call returns a slice of slices in new memory. -/
def RetLL (w : World) (eO eI : TypeId) (gs : List (List Int)) (d : Ending) (w' : World) : Prop := ∃ v vs, d = .returned v ∧ Below w.heap.size w w' ∧ w'.ownsRow w.heap.size eO 1 v gs.length vs ∧ LL w' w.heap.size eI vs gs
theorem RetLL.nil_ (w w' : World) (eO eI : TypeId) {gs : List (List Int)} (h : gs = []) (hb : Below w.heap.size w w') : RetLL w eO eI gs (.returned (.slice none 0 0)) w' := by
  subst h; exact ⟨_, [], rfl, hb, World.ownsRow_nil _ _ _ _, LL.nil _ _ _⟩
theorem RetLL.mk_ {w w' : World} {eO eI : TypeId} {v : Value} {vs : List Value} {gs gs' : List (List Int)} (hb : Below w.heap.size w w') (h : w'.ownsRow w.heap.size eO 1 v gs.length vs) (hl : LL w' w.heap.size eI vs gs) (hg : gs = gs') : RetLL w eO eI gs' (.returned v) w' := by
  subst hg; exact ⟨v, vs, rfl, hb, h, hl⟩

/-- The state of the loop that builds the groups: the outer slice v owns the values vs; with the last one taken apart. -/
structure Build (w : World) (base : Nat) (eO eI : TypeId) (v : Value) (vs : List Value) (gs : List (List Int)) : Prop where
  own : w.ownsRow base eO 1 v gs.length vs
  ll : LL w base eI vs gs
  apart : ∀ (i j : Nat) (x y : Value) (b : Nat), i < j → vs[i]? = some x → vs[j]? = some y → x.ownBlock = some b → y.ownBlock ≠ some b
theorem Build.nil (w : World) (base : Nat) (eO eI : TypeId) : Build w base eO eI (.slice none 0 0) [] [] := ⟨World.ownsRow_nil _ _ _ _, LL.nil _ _ _, fun i j x y b _ h => by simp at h⟩
/-- behind 'append(groups, nil)' -/
theorem Build.push {w w' : World} {base : Nat} {eO eI : TypeId} {v v' : Value} {vs : List Value} {gs : List (List Int)} (h : Build w base eO eI v vs gs) (hne : eO ≠ eI)
    (hown : w'.ownsRow base eO 1 v' (gs.length + 1) (vs ++ (#[Value.slice none 0 0] : Array Value).toList)) (hg : w.grownBy w' v.ownBlock) : Build w' base eO eI v' (vs ++ [.slice none 0 0]) (gs ++ [[]]) := by
  refine ⟨by rw [List.length_append]; exact hown, ?_, ?_⟩
  · refine LL.snoc (h.ll.grown hg (fun x hx g hxg => ?_)) (World.ownsRow_nil _ _ _ _)
    obtain ⟨l, hl⟩ := h.ll.mem_row hx
    exact own_ne hl h.own (Ne.symm hne) g hxg
  · intro i j x y b hij hx hy hb
    by_cases hj : j < vs.length
    · rw [List.getElem?_append_left (by omega)] at hx
      rw [List.getElem?_append_left hj] at hy
      exact h.apart i j x y b hij hx hy hb
    · rw [List.getElem?_append_right (by omega)] at hy
      rcases hjj : j - vs.length with _ | m
      · rw [hjj] at hy; simp at hy; subst hy; simp [Value.ownBlock]
      · rw [hjj] at hy; simp at hy
theorem Build.kept {w w' : World} {base : Nat} {eO eI : TypeId} {v : Value} {vs : List Value} {gs : List (List Int)} (h : Build w base eO eI v vs gs) (hb : Below w.heap.size w w') : Build w' base eO eI v vs gs :=
  ⟨own_below h.own hb, h.ll.below hb, h.apart⟩
/-- behind 'groups[last] = append(groups[last], x)' -/
theorem Build.put {w w1 : World} {base : Nat} {eO eI : TypeId} {g cap : Nat} {vs : List Value} {gs : List (List Int)} {u u' : Value} {cur : List Int} {x : Int}
    (h : Build w base eO eI (.slice (some ⟨g, 0, none⟩) (gs.length + 1) cap) (vs ++ [u]) (gs ++ [cur])) (hne : eO ≠ eI) 
    (hown : w1.ownsRow base eI 1 u' (cur.length + 1) (ints cur ++ (#[Value.int .i64 x] : Array Value).toList)) (hg : w.grownBy w1 u.ownBlock) (hat : u'.ownBlock = u.ownBlock ∨ ∃ b, u'.ownBlock = some b ∧ w.heap.size ≤ b) :
    Build (w1.setCell ⟨g, gs.length, none⟩ u') base eO eI (.slice (some ⟨g, 0, none⟩) (gs.length + 1) cap) (vs ++ [u']) (gs ++ [cur ++ [x]]) := by
  have hlen : vs.length = gs.length := by have := h.ll.len; simpa using this
  have hown0 : w.ownsRow base eO 1 (.slice (some ⟨g, 0, none⟩) (gs.length + 1) cap) (gs.length + 1) (vs ++ [u]) := by have := h.own; simpa using this
  have hu : w.ownsRow base eI 1 u cur.length (ints cur) := h.ll.rows gs.length u cur (by rw [← hlen]; simp) (by simp)
  have hO : w1.ownsRow base eO 1 (.slice (some ⟨g, 0, none⟩) (gs.length + 1) cap) (gs.length + 1) (vs ++ [u]) := own_grown hown0 hg (fun b hb => own_ne hown0 hu hne b hb)
  obtain ⟨hS, hSg⟩ := hO.stored gs.length u'
  have hset : (vs ++ [u]).set gs.length u' = vs ++ [u'] := by rw [← hlen]; simp
  rw [hset] at hS
  have hll0 : LL w base eI vs gs := ⟨hlen, fun j y q hy hq => h.ll.rows j y q (by rw [List.getElem?_append_left (List.getElem?_eq_some_iff.1 hy).1]; exact hy) (by rw [List.getElem?_append_left (List.getElem?_eq_some_iff.1 hq).1]; exact hq)⟩
  have hap : ∀ y ∈ vs, ∀ b, y.ownBlock = some b → u.ownBlock ≠ some b := by
    intro y hy b hb
    obtain ⟨j, hj⟩ := List.mem_iff_getElem?.1 hy
    have hjl := (List.getElem?_eq_some_iff.1 hj).1
    exact h.apart j vs.length y u b hjl (by rw [List.getElem?_append_left hjl]; exact hj) (by simp) hb
  have hll1 : LL w1 base eI vs gs := hll0.grown hg hap
  have ho' : w1.ownsRow base eI 1 u' (cur ++ [x]).length (ints (cur ++ [x])) := own_ints hown
  have hll2 : LL w1 base eI (vs ++ [u']) (gs ++ [cur ++ [x]]) := hll1.snoc ho'
  refine ⟨by simpa using hS, hll2.grown hSg (fun y hy b hb => ?_), ?_⟩
  · obtain ⟨l, hl⟩ := hll2.mem_row hy
    intro e
    exact own_ne hl hO (Ne.symm hne) b hb (by simpa [Value.ownBlock] using e)
  · intro i j a c b hij ha hc hb
    by_cases hj : j < vs.length
    · rw [List.getElem?_append_left (by omega)] at ha
      rw [List.getElem?_append_left hj] at hc
      exact h.apart i j a c b hij (by rw [List.getElem?_append_left (by omega)]; exact ha) (by rw [List.getElem?_append_left hj]; exact hc) hb
    · rw [List.getElem?_append_right (by omega)] at hc
      rcases hjj : j - vs.length with _ | m
      · rw [hjj] at hc; simp at hc; subst hc
        rw [List.getElem?_append_left (by omega)] at ha
        rcases hat with hat | ⟨b', hb', hbs⟩
        · rw [hat]; exact hap a (List.mem_of_getElem? ha) b hb
        · intro e
          rw [hb'] at e
          injection e with e
          subst e
          obtain ⟨l, hl⟩ := hll0.mem_row (List.mem_of_getElem? ha)
          have := (hl.lt _ hb).2
          omega
      · rw [hjj] at hc; simp at hc
end Go.Proofs.YtjfnpklknehiiaaDoor
