/-
  What a valid predicate in memory gives.
-/
import Derived.Test.YtjnamjkdjcndiaaGreatDoorPLeaf
import Derived.Test.YtjnamjkdjcndiaaGreatDoorM13
import Derived.Test.YtjnamjkdjcndiaaGreatDoorM12
namespace Go.Proofs.YtjnamjkdjcndiaaGreatDoor
open Go.RowKit Go.Sort

def VR (y : Vl) : Prop := -9223372036854775808 ≤ y.n ∧ y.n ≤ 9223372036854775807 ∧ y.s.size ≤ 9223372036854775807
structure POk (cs : List Col) (p : List Nd) : Prop where
  ok : PredOk cs p
  cl : cs.length ≤ 12
  cv : ∀ c ∈ cs, ColValid c
  rv : ∀ x ∈ p, VR x.v
  rl : ∀ x ∈ p, ∀ e ∈ x.l, VR e
structure PEnv (w : World) (v : Value) (cs : List Col) (pv : Value) (p : List Nd) : Prop where
  ht : Tab w
  hs : Sl w 4 v cs.length (cols cs)
  hp : SlNd w pv p
theorem POk.leaf {cs : List Col} {p : List Nd} (h : POk cs p) {i : Nat} {x : Nd} (hx : p[i]? = some x) (h9 : x.op < 9) :
    ∃ (K : Nat) (c : Col), x.col = (K : Int) ∧ cs[K]? = some c ∧ c.nm.size ≤ 1000 ∧ ¬(c.ty = 5 ∧ (c.sc < 0 ∨ 18 < c.sc)) ∧ (∀ y ∈ valsP x, VlOk c y) ∧ (valsP x).length ≤ 16 ∧ leafP cs x = leafC c x ∧ 1 ≤ x.op := by
  have hn := h.ok.node i x hx
  have hm := List.mem_of_getElem? hx
  obtain ⟨k1, k2, c, hc⟩ := node_col hn h9
  have hv := h.cv c (List.mem_of_getElem? hc)
  obtain ⟨v1, v2, v3⟩ := node_vals hn h9 hc
  refine ⟨x.col.toNat, c, by omega, hc, by have := hv.nm; omega, by have := hv.sc; omega, fun y hy => ?_, v2, by unfold leafP; rw [hc], (node_op hn).1⟩
  have hr : VR y := by
    unfold valsP at hy
    split at hy
    · simp at hy; subst hy; exact h.rv x hm
    · split at hy
      · simp at hy
      · exact h.rl x hm y hy
  exact ⟨v1 y hy, hr.1, hr.2.1, hr.2.2⟩
theorem leafC_len {c : Col} {x : Nd} (hn : c.nm.size ≤ 1000) (hv : ∀ y ∈ valsP x, VlOk c y) (hl : (valsP x).length ≤ 16) : (leafC c x).length ≤ 4300 := by
  have h3 := vtxts_take (c := c) hv hl (valsP x).length
  rw [List.take_length] at h3
  have := wordP_len x.op
  have := sizeD c.nm
  unfold leafC
  simp only [List.length_cons, List.length_append, List.length_nil]; omega
theorem leaf_at {w0 w : World} {v pv u : Value} {key : Int} {cs : List Col} {p : List Nd} {i : Nat} {x : Nd} (he : PEnv w0 v cs pv p) (hk : POk cs p) (hx : p[i]? = some x) (h9 : x.op < 9) (hu : Sl w 3 u x.l.length (vls x.l)) (hb : Below w0.heap.size w0 w) :
    Calls Tryz.prog 50 #[.agg #[v, .int .i64 key], .agg #[.int .i64 x.op, .int .i64 x.col, .bool x.v.nu, .int .i64 x.v.n, .string x.v.s, u, .int .i64 x.a, .int .i64 x.b]] w (RetT w (leafP cs x)) ∧ (leafP cs x).length ≤ 4300 := by
  obtain ⟨K, c, hK, hc, hn, hs, hv, hl, hlf, h1⟩ := hk.leaf hx h9
  have e : x = ⟨x.op, K, ⟨x.v.nu, x.v.n, x.v.s⟩, x.l, x.a, x.b⟩ := by rw [← hK]
  rw [hlf]
  refine ⟨?_, leafC_len hn hv hl⟩
  have hvl := hv
  have hll := hl
  rw [e] at hvl hll
  have h := pleaf_any v key cs x.op K x.v.nu x.v.n x.v.s x.l u x.a x.b c w (he.ht.below hb) (he.hs.below hb) hu (by have := hk.cl; omega) hc hn hs h1 (by omega) hvl hll
  rw [← e] at h
  rw [hK]; exact h
theorem own_at_ {w0 w : World} {v pv u : Value} {key : Int} {cs : List Col} {p : List Nd} {i : Nat} {x : Nd} (he : PEnv w0 v cs pv p) (hk : POk cs p) (hx : p[i]? = some x) (h9 : x.op < 9) (hu : Sl w 3 u x.l.length (vls x.l)) (hb : Below w0.heap.size w0 w) :
    Calls Tryz.prog 34 #[.agg #[v, .int .i64 key], .agg #[.int .i64 x.op, .int .i64 x.col, .bool x.v.nu, .int .i64 x.v.n, .string x.v.s, u, .int .i64 x.a, .int .i64 x.b]] w (RetT w (leafP cs x)) := by
  obtain ⟨K, c, hK, hc, hn, hs, hv, hl, hlf, h1⟩ := hk.leaf hx h9
  have e : x = ⟨x.op, K, ⟨x.v.nu, x.v.n, x.v.s⟩, x.l, x.a, x.b⟩ := by rw [← hK]
  rw [hlf]
  have hvl := hv
  have hll := hl
  rw [e] at hvl hll
  have h := rown_any v key cs x.op K x.v.nu x.v.n x.v.s x.l u x.a x.b c w (he.ht.below hb) (he.hs.below hb) hu (by have := hk.cl; omega) hc hn h1 (by omega) hvl hll
  rw [← e] at h
  rw [hK]; exact h
noncomputable def szL (cs : List Col) (p : List Nd) : List Int := (List.range p.length).map fun i => (sizI cs p i : Int)
theorem szL_get {cs : List Col} {p : List Nd} {i : Nat} (h : i < p.length) : (szL cs p)[i]? = some (sizI cs p i : Int) := by
  unfold szL; rw [List.getElem?_map, List.getElem?_range h]; rfl
theorem szL_len (cs : List Col) (p : List Nd) : (szL cs p).length = p.length := by unfold szL; rw [List.length_map, List.length_range]
def SzTo (cs : List Col) (p : List Nd) (zs : List Int) (k : Nat) : Prop := zs.length = p.length ∧ ∀ j, j < k → zs[j]? = some (sizI cs p j : Int)
theorem SzTo.set {cs : List Col} {p : List Nd} {zs : List Int} {k : Nat} (h : SzTo cs p zs k) (hk : k < p.length) {z : Int} (hz : z = (sizI cs p k : Int)) : SzTo cs p (zs.set k z) (k + 1) := by
  refine ⟨by rw [List.length_set]; exact h.1, fun j hj => ?_⟩
  rw [List.getElem?_set]
  by_cases e : k = j
  · subst e; rw [if_pos rfl, if_pos (by rw [h.1]; exact hk), hz]
  · rw [if_neg e]; exact h.2 j (by omega)
theorem SzTo.all {cs : List Col} {p : List Nd} {zs : List Int} (h : SzTo cs p zs p.length) : zs = szL cs p := by
  apply List.ext_getElem?
  intro j
  by_cases hj : j < p.length
  · rw [h.2 j hj, szL_get hj]
  · rw [List.getElem?_eq_none (by rw [h.1]; omega), List.getElem?_eq_none (by rw [szL_len]; omega)]
theorem ints_set (zs : List Int) (k : Nat) (z : Int) : (ints zs).set k (.int .i64 z) = ints (zs.set k z) := by unfold ints; rw [List.map_set]
theorem made_ints (n : Nat) : (madeCells (Value.int IntKind.i64 0).cells (n * 1)).toList = ints (List.replicate n 0) := by
  unfold madeCells ints
  rw [Array.toList_map, Array.toList_range, Nat.mul_one, List.map_replicate]
  apply List.ext_getElem
  · simp
  · intro i h1 h2
    simp [Value.cells, Nat.mod_one]
theorem own_setI {w : World} {base g n cap j : Nat} {zs : List Int} {z : Int} (h : w.ownsRow base 3 1 (.slice (some ⟨g, 0, none⟩) n cap) n (ints zs)) :
    (w.setCell ⟨g, j, none⟩ (.int .i64 z)).ownsRow base 3 1 (.slice (some ⟨g, 0, none⟩) n cap) n (ints (zs.set j z)) := by
  rw [← ints_set]
  obtain ⟨h1, h2⟩ := h
  rcases h2 with ⟨h2, _⟩ | ⟨g', cap', cur, e0, hb, hg, hn2, hc, hcs, ht⟩
  · cases h2
  injection e0 with e1 _ e3
  injection e1 with e1
  injection e1 with e1
  subst e1 e3
  refine ⟨by rw [List.length_set, h1], .inr ⟨g, cap, _, rfl, hb, Go.heap_setCell_same w g j cur 3 (.int .i64 z) hg, hn2, hc, by simpa using hcs, ?_⟩⟩
  rw [Array.toList_setIfInBounds, ← ht, List.take_set]
theorem own_frozI {w : World} {base : Nat} {t : TypeId} {sz g n cap : Nat} {xs : List Value} (h : w.ownsRow base t sz (.slice (some ⟨g, 0, none⟩) n cap) n xs) (j : Nat) : w.frozen? ⟨g, j, none⟩ = false := by
  rcases h.2 with ⟨e, _⟩ | ⟨g', cap', cur, e0, _, hg, _⟩
  · cases e
  injection e0 with e1 _ e3
  injection e1 with e1
  injection e1 with e1
  subst e1
  simp [World.frozen?, hg]
theorem own_cellI {w : World} {base g n cap j : Nat} {zs : List Int} {z : Int} (h : w.ownsRow base 3 1 (.slice (some ⟨g, 0, none⟩) n cap) n (ints zs)) (hj : zs[j]? = some z) : w.cell? ⟨g, j, none⟩ = some (.int .i64 z) := by
  have h := World.ownsRow.cells h (g := g) rfl j (.int .i64 z) (by unfold ints; rw [List.getElem?_map, hj]; rfl)
  rw [Addr.add_lit, Nat.zero_add] at h
  exact h
end Go.Proofs.YtjnamjkdjcndiaaGreatDoor
