/-
  A row of nodes of the call's own.
-/
import Derived.Test.YtjnamjkdjcndiaaDoorPTwo
import Derived.Test.YtjnamjkdjcndiaaDoorKSchema
namespace Go.Proofs.YtjnamjkdjcndiaaDoor
open Go.RowKit Go.Sort
def OwnNd (w : World) (base : Nat) (v : Value) (l : List Nd) : Prop :=
  ∃ us : List Value, us.length = l.length ∧ w.ownsRow base 36 8 v l.length (nds l us) ∧ ∀ (k : Nat) (x : Nd) (u : Value), l[k]? = some x → us[k]? = some u → w.ownsRow base 33 3 u x.l.length (vls x.l)
theorem nds_snoc : ∀ {h : List Nd} {us : List Value} {s : Nd} {u : Value}, us.length = h.length → nds (h ++ [s]) (us ++ [u]) = nds h us ++ ndCells s u
  | [], us, s, u, hl => by have : us = [] := List.eq_nil_of_length_eq_zero hl; subst this; simp [nds]
  | x :: h, [], s, u, hl => by simp at hl
  | x :: h, y :: us, s, u, hl => by
    have := nds_snoc (h := h) (us := us) (s := s) (u := u) (by simpa using hl)
    simp only [List.cons_append, nds, this, List.append_assoc]
theorem OwnNd.sl {w : World} {base : Nat} {v : Value} {l : List Nd} (ho : OwnNd w base v l) : SlNd w v l := by
  obtain ⟨us, h1, h2, h3⟩ := ho
  exact ⟨us, h1, Sl.of_own h2, fun k s u hk hu => Sl.of_own (h3 k s u hk hu)⟩
theorem OwnNd.below {w w' : World} {base : Nat} {v : Value} {h : List Nd} (ho : OwnNd w base v h) (hb : Below w.heap.size w w') : OwnNd w' base v h := by
  obtain ⟨us, h1, h2, h3⟩ := ho
  exact ⟨us, h1, own_below h2 hb, fun k s u hk hu => own_below (h3 k s u hk hu) hb⟩
theorem OwnNd.mono {w : World} {base base' : Nat} {v : Value} {h : List Nd} (ho : OwnNd w base v h) (hb : base' ≤ base) : OwnNd w base' v h := by
  obtain ⟨us, h1, h2, h3⟩ := ho
  exact ⟨us, h1, own_mono h2 hb, fun k s u hk hu => own_mono (h3 k s u hk hu) hb⟩
theorem OwnNd.form {w : World} {base : Nat} {v : Value} {l : List Nd} (ho : OwnNd w base v l) : ∃ A c, v = .slice A l.length c ∧ l.length ≤ c ∧ c ≤ maxLen := ho.sl.form
theorem OwnNd.nil (w : World) (base : Nat) : OwnNd w base (.slice none 0 0) [] := ⟨[], rfl, World.ownsRow_nil _ _ _ _, fun k s u h => by simp at h⟩
theorem info_nd : (Tryd.prog.info? 36).map (fun i => (i.zero, i.size, i.bytes)) = some (some (.agg #[.int .i64 0, .int .i64 0, .bool false, .int .i64 0, .string { data := #[] }, .slice none 0 0, .int .i64 0, .int .i64 0]), 8, 88) := by kernel_rfl
theorem under_nd : Tryd.prog.underlying 25 = some (.slice 36) := Tryd.underlying25
theorem one8 (a b c d e : Int) (t : Bool) (s : ByteArray) (A : Option Addr) (n k : Nat) : ∀ u ∈ (#[Value.int .i64 a, .int .i64 b, .bool t, .int .i64 c, .string s, .slice A n k, .int .i64 d, .int .i64 e] : Array Value).toList, u.oneCell' = true := by
  intro u hu
  simp only [List.mem_cons, List.not_mem_nil, or_false] at hu
  rcases hu with rfl | rfl | rfl | rfl | rfl | rfl | rfl | rfl <;> rfl
/-- Behind 'append(h, s)'. -/
theorem nd_snoc {w w' : World} {base : Nat} {v v' : Value} {h : List Nd} {us : List Value} {s : Nd} {u : Value} (h1 : us.length = h.length) (h2 : w.ownsRow base 36 8 v h.length (nds h us))
    (h3 : ∀ (k : Nat) (s : Nd) (u : Value), h[k]? = some s → us[k]? = some u → w.ownsRow base 33 3 u s.l.length (vls s.l)) (hu : w.ownsRow base 33 3 u s.l.length (vls s.l))
    (hn : w'.ownsRow base 36 8 v' (h.length + 1) (nds h us ++ ndCells s u)) (hg : w.grownBy w' v.ownBlock) : OwnNd w' base v' (h ++ [s]) := by
  refine ⟨us ++ [u], by simp [h1], by rw [List.length_append, nds_snoc h1]; exact hn, fun k t x hk hx => ?_⟩
  have key : ∀ {t : Nd} {x : Value}, w.ownsRow base 33 3 x t.l.length (vls t.l) → w'.ownsRow base 33 3 x t.l.length (vls t.l) := fun ho => own_grown ho hg (fun b hb e => own_ne ho h2 (by decide) b hb e)
  by_cases hlt : k < h.length
  · rw [List.getElem?_append_left hlt] at hk
    rw [List.getElem?_append_left (by omega)] at hx
    exact key (h3 k t x hk hx)
  · rw [List.getElem?_append_right (by omega)] at hk
    rw [List.getElem?_append_right (by omega), h1] at hx
    rcases hkk : k - h.length with _ | m
    · rw [hkk] at hk hx; simp at hk hx; subst hk hx; exact key hu
    · rw [hkk] at hk; simp at hk
theorem nd_one {w : World} {g base : Nat} {s : Nd} {u : Value} (hb : Blk w g 36 #[.int .i64 s.op, .int .i64 s.col, .bool s.v.nu, .int .i64 s.v.n, .string s.v.s, u, .int .i64 s.a, .int .i64 s.b]) (hg : base ≤ g) (hu : w.ownsRow base 33 3 u s.l.length (vls s.l)) : OwnNd w base (.slice (some ⟨g, 0, none⟩) 1 1) [s] := by
  refine ⟨[u], rfl, ⟨rfl, .inr ⟨g, 1, _, rfl, hg, hb, Nat.le_refl _, by simp [maxLen], rfl, rfl⟩⟩, fun k t x hk hx => ?_⟩
  rcases k with _ | k
  · simp at hk hx; subst hk hx; exact hu
  · simp at hk
end Go.Proofs.YtjnamjkdjcndiaaDoor
