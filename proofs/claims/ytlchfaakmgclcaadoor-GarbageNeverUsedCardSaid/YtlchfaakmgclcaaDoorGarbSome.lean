/-
  The contract of the statements' helper some (layer 32): a few short names.
-/
import Derived.Test.YtlchfaakmgclcaaDoorCollect
import Derived.Test.YtlchfaakmgclcaaDoorSrc
namespace Go.Proofs.YtlchfaakmgclcaaDoor
open Go.RowKit
def RetStrs (w : World) (e : Ending) (w' : World) : Prop := ∃ (v : Value) (L : List ByteArray), e = .returned v ∧ L.length ≤ 12 ∧ Below w.heap.size w w' ∧ w'.ownsRow w.heap.size 9 1 v L.length (strV L)
set_option maxRecDepth 100000 in
set_option maxHeartbeats 1000000 in
theorem some_any (v : Value) (zs : List Int) (w : World) (hs : Sl w 1 v zs.length (ints zs)) (hl : zs.length ≤ 9223372036854775807) (hr : ∀ x ∈ zs, -9223372036854775808 ≤ x ∧ x ≤ 9223372036854775807) :
    Calls Tryd.prog 41 #[v] w (RetStrs w) := by
  obtain ⟨A, c, rfl, _, _⟩ := hs.form
  have HR := Lib.hid hr
  clear hr
  go_enter Tryd.func41, Tryd.ntmps41
  go_wp2_with fail
  refine (from_any _ zs w hs hl HR.out).mono ?_
  rintro e w1 ⟨g, rfl, hbel, hsrc⟩
  go_wp2_with fail
  refine (next_any _ g 12 zs w1 hsrc (by omega) (by omega)).mono ?_
  rintro e w2 ⟨rfl, ho, hsrc2⟩
  have hlo := nxt_lo 12 zs (by omega)
  have hhi := nxt_hi 12 zs (by omega)
  have hb2 := below_only hbel ho hsrc.ge hbel.size
  clear hsrc ho hbel
  obtain ⟨m, hm⟩ : ∃ m : Nat, nxt 12 zs = m := ⟨(nxt 12 zs).toNat, by omega⟩
  rw [hm] at hlo hhi ⊢
  clear hm
  go_wp2_with fail
  go_loopw [4, 5] (fun o x wr => ∃ (k : Nat) (l : List Int) (L : List ByteArray), L.length + k ≤ 12 ∧ x = .int .i64 k ∧ wr.ownsRow w.heap.size 9 1 o L.length (strV L) ∧ Below w.heap.size w wr ∧ Src wr w.heap.size 105 g l)
    (fun _ x _ => (intOf x).toNat)
  case atStart => exact ⟨m, zs.tail, [], by simp; omega, rfl, World.ownsRow_nil _ _ _ _, hb2, hsrc2⟩
  case round =>
    obtain ⟨k, l, L, hd, rfl, hown, hbel, hsrc⟩ := hrel
    rcases Nat.eq_zero_or_pos k with h0 | h0
    · subst h0
      go_wp2
      go_ret
      exact ⟨_, L, rfl, by omega, hbel, hown⟩
    · obtain ⟨k, rfl⟩ : ∃ j, k = j + 1 := ⟨k - 1, by omega⟩
      go_wp2_with fail
      refine (next_any _ g 6 l wr hsrc (by omega) (by omega)).mono ?_
      rintro e w3 ⟨rfl, ho, hsrc3⟩
      have hlo := nxt_lo 6 l (by omega)
      have hhi := nxt_hi 6 l (by omega)
      have hown3 := own_only hown hsrc (by decide) ho
      have hbel3 := below_only hbel ho hsrc.ge hbel.size
      clear hown hbel hsrc ho
      obtain ⟨y, hy⟩ : ∃ y : Nat, nxt 6 l = y := ⟨(nxt 6 l).toNat, by omega⟩
      rw [hy] at hlo hhi ⊢
      clear hy
      go_wp2_with (at_builtin; go_must (refine app1 _ _ hown3 hbel3 (Nat.le_refl _) hbel3.size Tryd.underlying33 info_str rfl (by decide) rfl (oneStr _) (by omega) (by omega) rfl rfl rfl rfl ?_))
      intro g' cap' w4 hown4 hbel4 hg4 _
      have hsrc4 := hsrc3.grown hg4 (hsrc3.own_ne hown3 (by decide)) (fun q hq => (hown3.lt q hq).1)
      clear hown3 hbel3 hg4 hsrc3
      go_wp2
      go_roundw
      case rel => exact ⟨k, l.tail, _, by simp; omega, by go_num, own_strV hown4, hbel4, hsrc4⟩
      case measure => simp [intOf]
end Go.Proofs.YtlchfaakmgclcaaDoor
