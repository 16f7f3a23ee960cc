/-
  The contracts of keep.Same at int, and of keep.SameLists at int.
-/
import Derived.Test.YtdffmkbcjnonaaaProg
import Derived.Test.YtdffmkbcjnonaaaLL
import Derived.Deep.QuietTactic
import Derived.BigQuiet
namespace Go.Proofs.Ytdffmkbcjnonaaa
open Go.RowKit
/-- The call answers the bool b; of the world only the count of draws has turned. -/
def QuietB (w : World) (b : Bool) (e : Ending) (w' : World) : Prop := e = .returned (.bool b) ∧ ∃ n, w' = w.drewN n
theorem QuietB.mk_ {w : World} {b b' : Bool} (n : Nat) (h : b' = b) : QuietB w b (.returned (.bool b')) (w.drewN n) := by subst h; exact ⟨rfl, n, rfl⟩
theorem QuietB.mk0 {w : World} {b b' : Bool} (h : b' = b) : QuietB w b (.returned (.bool b')) w := by subst h; exact ⟨rfl, 0, rfl⟩
def same (xs ys : List Int) : Bool := decide (xs = ys)
theorem same_len {xs ys : List Int} (h : xs.length ≠ ys.length) : false = same xs ys := by unfold same; symm; rw [decide_eq_false_iff_not]; rintro rfl; exact h rfl
theorem same_no {xs ys : List Int} {k : Nat} {x y : Int} (hx : xs[k]? = some x) (hy : ys[k]? = some y) (h : ¬ x = y) : false = same xs ys := by
  unfold same; symm; rw [decide_eq_false_iff_not]; rintro rfl; rw [hx] at hy; injection hy with e; exact h e
theorem same_yes {xs ys : List Int} (h : xs = ys) : true = same xs ys := by unfold same; symm; rw [decide_eq_true_eq]; exact h
/-- The first k elements agree. -/
def Pre {α : Type} (xs ys : List α) (k : Nat) : Prop := ∀ j : Nat, j < k → xs[j]? = ys[j]?
theorem Pre.zero {α : Type} (xs ys : List α) : Pre xs ys 0 := fun j h => by omega
theorem Pre.next {α : Type} {xs ys : List α} {k : Nat} (h : Pre xs ys k) (he : xs[k]? = ys[k]?) : Pre xs ys (k + 1) := fun j hj => by
  by_cases e : j = k
  · subst e; exact he
  · exact h j (by omega)
theorem Pre.all {α : Type} {xs ys : List α} (hl : xs.length = ys.length) (h : Pre xs ys xs.length) : xs = ys := by
  apply List.ext_getElem?
  intro j
  by_cases hj : j < xs.length
  · exact h j hj
  · rw [List.getElem?_eq_none (by omega), List.getElem?_eq_none (by omega)]
set_option maxHeartbeats 400000 in
theorem same_any (a b : Value) (xs ys : List Int) (w : World) (ha : Sl w 1 a xs.length (ints xs)) (hb : Sl w 1 b ys.length (ints ys)) :
    Calls Try.prog 22 #[a, b] w (QuietB w (same xs ys)) := by
  obtain ⟨A, c, rfl, hc1, hc2⟩ := ha.form
  obtain ⟨A', c', rfl, hc1', hc2'⟩ := hb.form
  unfold maxLen at hc2 hc2'
  by_cases hl : xs.length = ys.length
  · have hne : ((xs.length : Int) != (ys.length : Int)) = false := by simp; omega
    have HL := Lib.hid hl
    clear hl
    go_enter Try.func22, Try.ntmps22
    go_wp2
    go_loopw [13] (fun i wr => ∃ (k : Nat), k ≤ xs.length ∧ i = .int .i64 k ∧ (∃ m, wr = w.drewN m) ∧ Pre xs ys k)
      (fun i _ => xs.length - (intOf i).toNat)
    case atStart => exact ⟨0, by omega, rfl, ⟨0, rfl⟩, Pre.zero _ _⟩
    case round =>
      obtain ⟨k, hk, rfl, ⟨m, rfl⟩, hall⟩ := hrel
      by_cases hlt : k < xs.length
      · obtain ⟨ad, x, rfl, hx, hcx⟩ := ha.int_at hlt
        have hlt' : k < ys.length := by rw [← HL.out]; exact hlt
        obtain ⟨bd, y, rfl, hy, hcy⟩ := hb.int_at hlt'
        have Hx := Lib.hid hx
        have Hy := Lib.hid hy
        clear hx hy
        by_cases he : x = y
        · have hne2 : (x != y) = false := by simp [he]
          have HE := Lib.hid he
          clear he
          go_wp2
          go_quiet (fail)
          go_wp2
          go_roundw
          case rel => exact ⟨k + 1, by omega, by go_num, ⟨_, rfl⟩, hall.next (by rw [Hx.out, Hy.out, HE.out])⟩
          case measure => simp [intOf]; omega
        · have hne2 : (x != y) = true := by simp [he]
          go_wp2
          go_quiet (fail)
          go_wp2
          go_ret
          rw [World.drewN_drewN]
          exact QuietB.mk_ _ (same_no Hx.out Hy.out he)
      · go_wp2
        go_ret
        exact QuietB.mk_ _ (same_yes (Pre.all HL.out (by rw [show xs.length = k from by omega]; exact hall)))
  · have hne : ((xs.length : Int) != (ys.length : Int)) = true := by simp; omega
    go_enter Try.func22, Try.ntmps22
    go_wp2
    go_ret
    exact QuietB.mk0 (same_len hl)
/-- The values vs are slices that read as gs. -/
structure RL (w : World) (vs : List Value) (gs : List (List Int)) : Prop where
  len : vs.length = gs.length
  rows : ∀ (j : Nat) (u : Value) (g : List Int), vs[j]? = some u → gs[j]? = some g → Sl w 1 u g.length (ints g)
theorem LL.rl {w : World} {base : Nat} {e : TypeId} {vs : List Value} {gs : List (List Int)} (h : LL w base e vs gs) : RL w vs gs := ⟨h.len, fun j u g hu hg => Sl.of_own (h.rows j u g hu hg)⟩
theorem RL.below {w w' : World} {vs : List Value} {gs : List (List Int)} (h : RL w vs gs) (hb : Below w.heap.size w w') : RL w' vs gs := ⟨h.len, fun j u g hu hg => (h.rows j u g hu hg).below hb⟩
theorem RL.drewN {w : World} {vs : List Value} {gs : List (List Int)} (h : RL w vs gs) (n : Nat) : RL (w.drewN n) vs gs := ⟨h.len, fun j u g hu hg => h.rows j u g hu hg⟩
def sameL (xs ys : List (List Int)) : Bool := decide (xs = ys)
theorem sameL_len {xs ys : List (List Int)} (h : xs.length ≠ ys.length) : false = sameL xs ys := by unfold sameL; symm; rw [decide_eq_false_iff_not]; rintro rfl; exact h rfl
theorem sameL_no {xs ys : List (List Int)} {k : Nat} {x y : List Int} (hx : xs[k]? = some x) (hy : ys[k]? = some y) (h : same x y = false) : false = sameL xs ys := by
  unfold sameL; symm; rw [decide_eq_false_iff_not]; rintro rfl; rw [hx] at hy; injection hy with e; unfold same at h; rw [decide_eq_false_iff_not] at h; exact h e
theorem sameL_yes {xs ys : List (List Int)} (h : xs = ys) : true = sameL xs ys := by unfold sameL; symm; rw [decide_eq_true_eq]; exact h
theorem same_iff {xs ys : List Int} (h : same xs ys = true) : xs = ys := by unfold same at h; rwa [decide_eq_true_eq] at h
theorem RL.at_ {w : World} {A : Option Addr} {c k : Nat} {vs : List Value} {gs : List (List Int)} {n : Nat} (h : RL w vs gs) (hs : Sl w 1 (.slice A n c) n vs) (hk : k < n) (hn : n = gs.length) : ∃ ad u g, A = some ad ∧ gs[k]? = some g ∧ w.cell? (ad.add k) = some u ∧ Sl w 1 u g.length (ints g) := by
  obtain ⟨ad, u, e, _, hu, hc⟩ := hs.at_ hk
  have hg : gs[k]? = some (gs[k]'(by omega)) := List.getElem?_eq_getElem (by omega)
  exact ⟨ad, u, _, e, hg, hc, h.rows k u _ hu hg⟩
theorem quiet_b {P : Program} {f : FuncId} {args : Array Value} {w : World} {n : Nat} {b : Bool} (h : Calls P f args (w.drewN n) (QuietB (w.drewN n) b)) : Calls P f args (w.drewN n) fun e w' => e = .returned (.bool b) ∧ ∃ m, w' = w.drewN m :=
  h.mono fun _ _ ⟨he, m, hm⟩ => ⟨he, n + m, by rw [hm, World.drewN_drewN]⟩
theorem quiet_b2 {P : Program} {f : FuncId} {args : Array Value} {w : World} {a n : Nat} {b : Bool} (h : Calls P f args (w.drewN (a + n)) (QuietB (w.drewN (a + n)) b)) : Calls P f args (w.drewN (a + n)) fun e w' => e = .returned (.bool b) ∧ ∃ m, w' = w.drewN (a + m) :=
  h.mono fun _ _ ⟨he, m, hm⟩ => ⟨he, n + m, by rw [hm, World.drewN_drewN, Nat.add_assoc]⟩
set_option maxHeartbeats 400000 in
theorem sameL_any (a b : Value) (us vs : List Value) (xs ys : List (List Int)) (w : World) (ha : Sl w 1 a xs.length us) (hb : Sl w 1 b ys.length vs) (hx : RL w us xs) (hy : RL w vs ys) :
    Calls Try.prog 20 #[a, b] w (QuietB w (sameL xs ys)) := by
  obtain ⟨A, c, rfl, hc1, hc2⟩ := ha.form
  obtain ⟨A', c', rfl, hc1', hc2'⟩ := hb.form
  unfold maxLen at hc2 hc2'
  by_cases hl : xs.length = ys.length
  · have hne : ((xs.length : Int) != (ys.length : Int)) = false := by simp; omega
    have HL := Lib.hid hl
    clear hl
    go_enter Try.func20, Try.ntmps20
    go_wp2
    go_loopw [13] (fun i wr => ∃ (k : Nat), k ≤ xs.length ∧ i = .int .i64 k ∧ (∃ m, wr = w.drewN m) ∧ Pre xs ys k)
      (fun i _ => xs.length - (intOf i).toNat)
    case atStart => exact ⟨0, by omega, rfl, ⟨0, rfl⟩, Pre.zero _ _⟩
    case round =>
      obtain ⟨k, hk, rfl, ⟨m, rfl⟩, hall⟩ := hrel
      by_cases hlt : k < xs.length
      · obtain ⟨ad, u, g, rfl, hg, hcx, hu⟩ := hx.at_ ha hlt rfl
        have hlt' : k < ys.length := by rw [← HL.out]; exact hlt
        obtain ⟨bd, v, g', rfl, hg', hcy, hv⟩ := hy.at_ hb hlt' rfl
        have Hg := Lib.hid hg
        have Hg' := Lib.hid hg'
        clear hg hg'
        have hcall : ∀ n, Calls Try.prog 22 #[u, v] (w.drewN n) (QuietB (w.drewN n) (same g g')) := fun n => same_any u v g g' _ (hu.drewN n) (hv.drewN n)
        have HC := Lib.hid hcall
        clear hcall
        obtain ⟨A2, c2, hu2, hcu1, hcu2⟩ := hu.form
        obtain ⟨A3, c3, hv2, hcv1, hcv2⟩ := hv.form
        subst hu2
        subst hv2
        by_cases he : same g g' = true
        · go_wp2_with fail
          go_quiet ((go_at_call 22; exact quiet_b2 (HC.out _)))
          go_wp2
          go_roundw
          case rel => exact ⟨k + 1, by omega, by go_num, ⟨_, rfl⟩, hall.next (by rw [Hg.out, Hg'.out, same_iff he])⟩
          case measure => simp [intOf]; omega
        · have he' : same g g' = false := by simpa using he
          go_wp2_with fail
          go_quiet ((go_at_call 22; exact quiet_b2 (HC.out _)))
          go_wp2
          go_ret
          rw [World.drewN_drewN]
          exact QuietB.mk_ _ (sameL_no Hg.out Hg'.out he')
      · go_wp2
        go_ret
        exact QuietB.mk_ _ (sameL_yes (Pre.all HL.out (by rw [show xs.length = k from by omega]; exact hall)))
  · have hne : ((xs.length : Int) != (ys.length : Int)) = true := by simp; omega
    go_enter Try.func20, Try.ntmps20
    go_wp2
    go_ret
    exact QuietB.mk0 (sameL_len hl)
end Go.Proofs.Ytdffmkbcjnonaaa
