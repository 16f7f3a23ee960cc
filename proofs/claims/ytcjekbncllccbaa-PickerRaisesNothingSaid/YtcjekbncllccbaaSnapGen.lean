/-
  A version that the statements' helpers make is valid, in plain Lean; law 20's awake.
-/
import Derived.Test.YtcjekbncllccbaaKSnap
import Derived.Test.YtcjekbncllccbaaBase
import Derived.Deep.RegionWith
namespace Go.Proofs.Ytcjekbncllccbaa
open Go.RowKit Go.Sort
theorem Rk.gen_ok {r : Rk} (h : r.gen) : r.okB = true := by
  obtain ⟨h1, h2, h3, h4, h5, h6⟩ := h
  unfold Rk.okB
  rw [h1, h4]
  have e : ({ data := #[] } : ByteArray).size = 0 := rfl
  simp [e]; omega
theorem Ent.gen_ok {e : Ent} (h : e.gen) (hid : e.id ≤ 2147483647) : e.okB = true := by
  obtain ⟨h1, h2, h3, h4, h5, h6, h7, _, _, h8, h9, _⟩ := h
  unfold Ent.okB
  rw [Rk.gen_ok h8, Rk.gen_ok h9]
  simp; omega
theorem GenL.asc {t : Int} : ∀ {l : List Ent}, GenL t l → ∀ k, ascAt l k = true
  | [], _, k => by cases k <;> rfl
  | x :: r, ⟨hx, hlt, htop, hr⟩, 0 => rfl
  | x :: r, ⟨hx, hlt, htop, hr⟩, 1 => by
    cases r with
    | nil => rfl
    | cons y r => exact decide_eq_true (hlt y (by simp))
  | x :: r, ⟨hx, hlt, htop, hr⟩, k + 2 => by
    have := hr.asc (k + 1)
    simpa [ascAt] using this
theorem GenL.entsB {t : Int} {l : List Ent} (h : GenL t l) (ht : t ≤ 2147483647) : entsB l = true := by
  unfold Go.Proofs.Ytcjekbncllccbaa.entsB
  rw [allTo_true]
  intro k hk
  have he := List.getElem?_eq_getElem hk
  have hm := h.mem _ (List.mem_of_getElem? he)
  rw [okAt_get he, Ent.gen_ok hm.1 (by omega), h.asc]; rfl
theorem gen_snapB {x q n : Int} {l : List Ent} (h1 : 0 ≤ x) (h2 : x ≤ 49) (h3 : 3 ≤ q) (h4 : q ≤ 11) (h5 : 30 ≤ n) (h6 : n ≤ 38) (h7 : l.length ≤ 6) (h : GenL (3 * l.length) l) : snapB x q n l = true := by
  refine snapB_good ⟨h1, by omega, by omega, by omega, by omega, by omega, by omega⟩ ?_
  rw [show goodAt q n l = fun k => okAt l k && underAt q n l k from rfl, allTo_and]
  rw [show allTo (okAt l) l.length = entsB l from rfl, h.entsB (by omega), Bool.true_and, allTo_true]
  intro k hk
  have he := List.getElem?_eq_getElem hk
  obtain ⟨hg, hid⟩ := h.mem _ (List.mem_of_getElem? he)
  obtain ⟨g1, g2, g3, g4, g5, g6, g7, _, _, ⟨_, _, _, _, g8, g9⟩, ⟨_, _, _, _, g10, g11⟩, _⟩ := hg
  rw [underAt_get he]
  simp [Ent.underB]; omega
theorem Ent.gen_small {e : Ent} (h : e.gen) : e.small := by
  obtain ⟨_, _, _, _, _, _, _, _, _, ⟨_, _, _, h8, _⟩, ⟨_, _, _, h9, _⟩, _⟩ := h
  have e0 : ({ data := #[] } : ByteArray).size = 0 := rfl
  unfold Ent.small
  rw [h8, h9, e0]
  exact ⟨by omega, by omega⟩
theorem Blk.sl {w : World} {g n size : Nat} {t : TypeId} {cs : Array Value} (h : Blk w g t cs) (hn : cs.toList.length = n * size) (hm : n ≤ maxLen) : Sl w size (.slice (some ⟨g, 0, none⟩) n n) n cs.toList :=
  ⟨_, _, rfl, Nat.le_refl _, hm, hn, fun _ => ⟨_, rfl, h.lt, fun j u hj => by
    have e1 : (⟨g, 0, none⟩ : Addr).add j = ⟨g, j, none⟩ := by unfold Addr.add; split <;> simp_all
    rw [e1, h.cell]; simpa using hj⟩⟩
def zrk : Rk := ⟨false, 0, { data := #[] }, 0⟩
/-- What the law's entry makes. -/
def lent (id live : Int) : Ent := ⟨id, 9, live, zrk, zrk, 0⟩
def RetTwo (w : World) (e : Ending) (w' : World) : Prop :=
  ∃ v, e = .returned (.agg #[.int .i64 4, .int .i64 7, .int .i64 9, v]) ∧ Sl w' 12 v 2 (ents [lent 3 5, lent 5 9]) ∧ Below w.heap.size w w'
theorem two_small : ∀ e ∈ [lent 3 5, lent 5 9], e.small := by
  intro e he
  have e0 : ({ data := #[] } : ByteArray).size = 0 := rfl
  simp only [List.mem_cons, List.not_mem_nil, or_false] at he
  rcases he with rfl | rfl <;> (unfold Ent.small; simp only [lent, zrk, e0]; omega)
end Go.Proofs.Ytcjekbncllccbaa
