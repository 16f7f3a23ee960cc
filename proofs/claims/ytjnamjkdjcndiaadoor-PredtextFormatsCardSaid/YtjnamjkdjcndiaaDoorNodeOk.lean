/-
  Nodes that keep.node draws are valid.
-/
import Derived.Test.YtjnamjkdjcndiaaDoorPFmt
import Derived.Test.YtjnamjkdjcndiaaDoorVGen
namespace Go.Proofs.YtjnamjkdjcndiaaDoor
theorem chk_of_ok {t n : Int} {cn b : Bool} {s : ByteArray} (h : ValOk t cn b n s) (h1 : 1 ≤ t) (h5 : t ≤ 5) : checkV t cn b n s = 0 := by
  obtain ⟨ha, hb, hc, hd⟩ := h
  unfold checkV
  rw [if_neg (by omega)]
  cases b with
  | true =>
    obtain ⟨e1, e2, e3⟩ := ha rfl
    rw [if_neg (by simp [e3]), if_neg (by simp [e2]), if_neg (by simp [e1]), if_neg (by simp)]
  | false =>
    obtain ⟨f1, f2, f3, f4, f5⟩ := hb rfl
    rw [if_neg, if_neg, if_neg (by simp), if_neg]
    · rintro ⟨_, hp⟩
      unfold permB at hp
      by_cases e2 : t = 2
      · rw [if_pos e2] at hp; have := f3 e2; simp at hp; omega
      · rw [if_neg e2] at hp
        by_cases e4 : t = 4
        · rw [if_pos e4] at hp; have := f4 e4; simp at hp; omega
        · rw [if_neg e4] at hp
          by_cases e5 : t = 5
          · rw [if_pos e5] at hp; have := f5 e5; simp at hp; omega
          · rw [if_neg e5] at hp
            by_cases e3 : t = 3
            · rw [if_pos e3] at hp; have := f1 e3; simp at hp; omega
            · rw [if_neg e3] at hp; cases hp
    · rintro ⟨h, h'⟩
      rcases h with h | h
      · cases h
      · exact h' (f1 h).1
    · rintro ⟨h, h'⟩
      rcases h with h | h
      · cases h
      · exact h' (f2 h)
theorem ok_small {t n : Int} {cn b : Bool} {s : ByteArray} (h : ValOk t cn b n s) : s.size ≤ 3 := by
  obtain ⟨ha, hb, _, _⟩ := h
  cases b with
  | true => have := (ha rfl).2.2; omega
  | false =>
    obtain ⟨f1, f2, _⟩ := hb rfl
    by_cases e : t = 3
    · exact (f1 e).2
    · have := f2 e; omega
theorem ok_vr {t n : Int} {cn b : Bool} {s : ByteArray} (h : ValOk t cn b n s) : VR ⟨b, n, s⟩ := ⟨h.2.2.1, h.2.2.2, by have := ok_small h; show s.size ≤ 9223372036854775807; omega⟩
theorem ok_null {t n : Int} {b : Bool} {s : ByteArray} (h : ValOk t false b n s) : b = false := by
  cases b with
  | true => exact absurd (h.1 rfl).1 (by simp)
  | false => rfl
theorem ok_cn {t n : Int} {cn b : Bool} {s : ByteArray} (h : ValOk t cn b n s) : ValOk t true b n s := ⟨fun hb => ⟨rfl, (h.1 hb).2⟩, h.2⟩
/-- A valid node behind i others, with small parts. -/
structure NodeOk (cs : List Col) (i : Nat) (x : Nd) : Prop where
  ok : nodeV cs i x = 0
  rv : VR x.v
  rl : ∀ y ∈ x.l, VR y
  ll : x.l.length ≤ 4
  sv : x.v.s.size ≤ 3
  sl : ∀ y ∈ x.l, y.s.size ≤ 3
def v0 : Vl := ⟨false, 0, { data := #[] }⟩
theorem vr0 : VR v0 := ⟨by decide, by decide, Nat.zero_le _⟩
theorem node_sub_ok {cs : List Col} {i : Nat} {o a b : Int} (h9 : 9 ≤ o) (h11 : o ≤ 11) (a0 : 0 ≤ a) (ai : a < i) (hb : o ≠ 11 → 0 ≤ b ∧ b < i) : NodeOk cs i ⟨o, 0, v0, [], a, b⟩ :=
  ⟨by rw [nv_sub (by show ¬(o < 1 ∨ 11 < o); omega) h9, if_neg]
      show ¬(a < 0 ∨ (i : Int) ≤ a ∨ (o ≠ 11 ∧ (b < 0 ∨ (i : Int) ≤ b)))
      rintro (h | h | ⟨h, h'⟩)
      · omega
      · omega
      · have := hb h; omega, vr0, nofun, Nat.zero_le _, Nat.zero_le _, nofun⟩
theorem node_null_ok {cs : List Col} {i K : Nat} {c : Col} (hc : cs[K]? = some c) : NodeOk cs i ⟨8, K, v0, [], 0, 0⟩ :=
  ⟨by rw [nv_leaf (K := K) (by show ¬((8 : Int) < 1 ∨ 11 < (8 : Int)); decide) (by show ¬ (9 : Int) ≤ 8; decide) rfl hc]; rfl, vr0, nofun, Nat.zero_le _, Nat.zero_le _, nofun⟩
theorem node_cmp_ok {cs : List Col} {i K : Nat} {c : Col} {o n : Int} {b : Bool} {s : ByteArray} (h1 : 1 ≤ o) (h6 : o ≤ 6) (hc : cs[K]? = some c) (hv : ValOk c.ty false b n s) (t1 : 1 ≤ c.ty) (t5 : c.ty ≤ 5) : NodeOk cs i ⟨o, K, ⟨b, n, s⟩, [], 0, 0⟩ := by
  have hb := ok_null hv
  subst hb
  have hk := chk_of_ok hv t1 t5
  refine ⟨?_, ok_vr hv, nofun, Nat.zero_le _, ok_small hv, nofun⟩
  rw [nv_leaf (K := K) (by show ¬(o < 1 ∨ 11 < o); omega) (by show ¬ 9 ≤ o; omega) rfl hc, if_neg (by show ¬ o = 8; omega), if_pos (by show o ≠ 7; omega)]
  show (if false = true then 12 else checkV c.ty c.nu false n s) = 0
  rw [if_neg (by decide)]
  unfold checkV at hk ⊢
  simpa using hk
theorem firstE_none {f : Nat → Int} : ∀ {n : Nat}, (∀ k, k < n → f k = 0) → firstE f n = 0
  | 0, _ => rfl
  | n + 1, h => by
    simp only [firstE]
    rw [firstE_none (fun k hk => h k (by omega)), if_neg (by decide)]
    exact h n (by omega)
theorem node_in_ok {cs : List Col} {i K : Nat} {c : Col} {l : List Vl} (h0 : 0 < l.length) (h4 : l.length ≤ 4) (hc : cs[K]? = some c) (hv : ∀ y ∈ l, ValOk c.ty true y.nu y.n y.s) (t1 : 1 ≤ c.ty) (t5 : c.ty ≤ 5) : NodeOk cs i ⟨7, K, v0, l, 0, 0⟩ := by
  refine ⟨?_, vr0, fun y hy => ok_vr (hv y hy), h4, Nat.zero_le _, fun y hy => ok_small (hv y hy)⟩
  rw [nv_leaf (K := K) (by show ¬((7 : Int) < 1 ∨ 11 < (7 : Int)); decide) (by show ¬ (9 : Int) ≤ 7; decide) rfl hc, if_neg (by show ¬ (7 : Int) = 8; decide), if_neg (by show ¬ (7 : Int) ≠ 7; decide)]
  show (if l.length = 0 then (1 : Int) else if 16 < l.length then 7 else firstE (listE c l) l.length) = 0
  rw [if_neg (by omega), if_neg (by omega)]
  refine firstE_none fun k hk => ?_
  have hx := List.getElem?_eq_getElem hk
  rw [listE_at hx]
  exact chk_of_ok (hv _ (List.mem_of_getElem? hx)) t1 t5
end Go.Proofs.YtjnamjkdjcndiaaDoor
