/-
  The contracts of keep.Same at int, and of keep.SameLists at int.
-/
import Derived.Test.YtcjekbncllccbaaProg
import Derived.Test.YtcjekbncllccbaaBase
import Derived.Deep.QuietTactic
import Derived.BigQuiet
namespace Go.Proofs.Ytcjekbncllccbaa
open Go.RowKit
def same (xs ys : List Int) : Bool := decide (xs = ys)
theorem same_len {xs ys : List Int} (h : xs.length ≠ ys.length) : false = same xs ys := by unfold same; symm; rw [decide_eq_false_iff_not]; rintro rfl; exact h rfl
theorem same_no {xs ys : List Int} {k : Nat} {x y : Int} (hx : xs[k]? = some x) (hy : ys[k]? = some y) (h : ¬ x = y) : false = same xs ys := by
  unfold same; symm; rw [decide_eq_false_iff_not]; rintro rfl; rw [hx] at hy; injection hy with e; exact h e
theorem same_yes {xs ys : List Int} (h : xs = ys) : true = same xs ys := by unfold same; symm; rw [decide_eq_true_eq]; exact h
set_option maxHeartbeats 400000 in
theorem same_any (a b : Value) (xs ys : List Int) (w : World) (ha : Sl w 1 a xs.length (ints xs)) (hb : Sl w 1 b ys.length (ints ys)) :
    Calls Try.prog 8 #[a, b] w (QuietB w (same xs ys)) := by
  obtain ⟨A, c, rfl, hc1, hc2⟩ := ha.form
  obtain ⟨A', c', rfl, hc1', hc2'⟩ := hb.form
  unfold maxLen at hc2 hc2'
  by_cases hl : xs.length = ys.length
  · have hne : ((xs.length : Int) != (ys.length : Int)) = false := by simp; omega
    have HL := Lib.hid hl
    clear hl
    go_enter Try.func8, Try.ntmps8
    go_wp2
    go_loopw [13] (fun i wr => ∃ (k : Nat), k ≤ xs.length ∧ i = .int .i64 k ∧ (∃ m, wr = w.drewN m) ∧ Pre xs ys k)
      (fun i _ => xs.length - (intOf i).toNat)
    case atStart => exact ⟨0, by omega, rfl, ⟨0, rfl⟩, Pre.zero _ _⟩
    case round =>
      obtain ⟨k, hk, rfl, ⟨m, rfl⟩, hall⟩ := hrel
      by_cases hlt : k < xs.length
      · obtain ⟨ad, x, rfl, hx, hcx⟩ := ha.int_at hlt
        have hlt' : k < ys.length := by rw [← HL.out]; exact hlt
        obtain ⟨bd, y, rfl, hy, hcy⟩ := hb.int_at hlt'
        have Hx := Lib.hid hx
        have Hy := Lib.hid hy
        clear hx hy
        by_cases he : x = y
        · have hne2 : (x != y) = false := by simp [he]
          have HE := Lib.hid he
          clear he
          go_wp2
          go_quiet (fail)
          go_wp2
          go_roundw
          case rel => exact ⟨k + 1, by omega, by go_num, ⟨_, rfl⟩, hall.next (by rw [Hx.out, Hy.out, HE.out])⟩
          case measure => simp [intOf]; omega
        · have hne2 : (x != y) = true := by simp [he]
          go_wp2
          go_quiet (fail)
          go_wp2
          go_ret
          rw [World.drewN_drewN]
          exact QuietB.mk_ _ (same_no Hx.out Hy.out he)
      · go_wp2
        go_ret
        exact QuietB.mk_ _ (same_yes (Pre.all HL.out (by rw [show xs.length = k from by omega]; exact hall)))
  · have hne : ((xs.length : Int) != (ys.length : Int)) = true := by simp; omega
    go_enter Try.func8, Try.ntmps8
    go_wp2
    go_ret
    exact QuietB.mk0 (same_len hl)
/-- The values vs are slices that read as gs. -/
structure RL (w : World) (vs : List Value) (gs : List (List Int)) : Prop where
  len : vs.length = gs.length
  rows : ∀ (j : Nat) (u : Value) (g : List Int), vs[j]? = some u → gs[j]? = some g → Sl w 1 u g.length (ints g)
theorem LL.rl {w : World} {base : Nat} {e : TypeId} {vs : List Value} {gs : List (List Int)} (h : LL w base e vs gs) : RL w vs gs := ⟨h.len, fun j u g hu hg => Sl.of_own (h.rows j u g hu hg)⟩
theorem RL.below {w w' : World} {vs : List Value} {gs : List (List Int)} (h : RL w vs gs) (hb : Below w.heap.size w w') : RL w' vs gs := ⟨h.len, fun j u g hu hg => (h.rows j u g hu hg).below hb⟩
theorem RL.drewN {w : World} {vs : List Value} {gs : List (List Int)} (h : RL w vs gs) (n : Nat) : RL (w.drewN n) vs gs := ⟨h.len, fun j u g hu hg => h.rows j u g hu hg⟩
def sameL (xs ys : List (List Int)) : Bool := decide (xs = ys)
theorem sameL_len {xs ys : List (List Int)} (h : xs.length ≠ ys.length) : false = sameL xs ys := by unfold sameL; symm; rw [decide_eq_false_iff_not]; rintro rfl; exact h rfl
theorem sameL_no {xs ys : List (List Int)} {k : Nat} {x y : List Int} (hx : xs[k]? = some x) (hy : ys[k]? = some y) (h : same x y = false) : false = sameL xs ys := by
  unfold sameL; symm; rw [decide_eq_false_iff_not]; rintro rfl; rw [hx] at hy; injection hy with e; unfold same at h; rw [decide_eq_false_iff_not] at h; exact h e
theorem sameL_yes {xs ys : List (List Int)} (h : xs = ys) : true = sameL xs ys := by unfold sameL; symm; rw [decide_eq_true_eq]; exact h
theorem same_iff {xs ys : List Int} (h : same xs ys = true) : xs = ys := by unfold same at h; rwa [decide_eq_true_eq] at h
theorem RL.at_ {w : World} {A : Option Addr} {c k : Nat} {vs : List Value} {gs : List (List Int)} {n : Nat} (h : RL w vs gs) (hs : Sl w 1 (.slice A n c) n vs) (hk : k < n) (hn : n = gs.length) : ∃ ad u g, A = some ad ∧ gs[k]? = some g ∧ w.cell? (ad.add k) = some u ∧ Sl w 1 u g.length (ints g) := by
  obtain ⟨ad, u, e, _, hu, hc⟩ := hs.at_ hk
  have hg : gs[k]? = some (gs[k]'(by omega)) := List.getElem?_eq_getElem (by omega)
  exact ⟨ad, u, _, e, hg, hc, h.rows k u _ hu hg⟩
end Go.Proofs.Ytcjekbncllccbaa
