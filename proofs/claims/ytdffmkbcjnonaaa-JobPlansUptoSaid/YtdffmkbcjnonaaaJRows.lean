/-
  The contract of the statements' helper rows.
-/
import Derived.Test.YtdffmkbcjnonaaaSrc
namespace Go.Proofs.Ytdffmkbcjnonaaa
open Go.RowKit
theorem info_int2 : (Try.prog.info? 3).map (fun i => (i.zero, i.size, i.bytes)) = some (some (.int .i64 0), 1, 8) := by kernel_rfl
def rowsGo : Nat → List Int → List Int
  | 0, _ => []
  | k + 1, l => (1 + nxt 9 l) :: rowsGo k l.tail
def rowsOf (n : Int) (l : List Int) : List Int := rowsGo (nxt (n + 1) l).toNat l.tail
theorem rowsGo_length : ∀ k l, (rowsGo k l).length = k := by
  intro k
  induction k with
  | zero => intro l; rfl
  | succ k ih => intro l; simp [rowsGo, ih]
theorem rowsGo_mem : ∀ k l (x : Int), x ∈ rowsGo k l → 1 ≤ x ∧ x ≤ 9 := by
  intro k
  induction k with
  | zero => intro l x hx; simp [rowsGo] at hx
  | succ k ih =>
    intro l x hx
    simp only [rowsGo, List.mem_cons] at hx
    rcases hx with rfl | hx
    · have := nxt_lo 9 l (by omega); have := nxt_hi 9 l (by omega); omega
    · exact ih _ x hx
theorem rowsOf_length (n : Int) (l : List Int) (h : 0 ≤ n) : (rowsOf n l).length ≤ n := by
  unfold rowsOf
  rw [rowsGo_length]
  have := nxt_lo (n + 1) l (by omega); have := nxt_hi (n + 1) l (by omega); omega
theorem rowsOf_mem (n : Int) (l : List Int) (x : Int) (h : x ∈ rowsOf n l) : 1 ≤ x ∧ x ≤ 9 := rowsGo_mem _ _ x h
theorem rows_next (k : Nat) (l : List Int) (d T : List Int) (h : d ++ rowsGo (k + 1) l = T) : (d ++ [1 + nxt 9 l]) ++ rowsGo k l.tail = T := by
  rw [← h]; simp [rowsGo]
set_option maxHeartbeats 400000 in
theorem rows_any (v : Value) (zs : List Int) (n : Int) (w : World) (hs : Sl w 1 v zs.length (ints zs)) (hl : zs.length ≤ 9223372036854775807) (hn : 0 ≤ n) (hn' : n ≤ 1000) :
    Calls Try.prog 24 #[v, .int .i64 n] w (RetRow w 3 1 (rowsOf n zs).length (ints (rowsOf n zs))) := by
  obtain ⟨A, c, rfl, _, _⟩ := hs.form
  go_enter Try.func24, Try.ntmps24
  go_wp2_with fail
  refine (from_any _ zs w hs hl).mono ?_
  rintro e w1 ⟨g, rfl, hbel, hsrc⟩
  go_wp2_with fail
  refine (next_any _ g (n + 1) zs w1 hsrc (by omega) (by omega)).mono ?_
  rintro e w2 ⟨rfl, ho, hsrc2⟩
  have hlo := nxt_lo (n + 1) zs (by omega)
  have hhi := nxt_hi (n + 1) zs (by omega)
  have hb2 := below_only hbel ho hsrc.ge hbel.size
  have HT := Lib.hid (show rowsOf n zs = rowsGo (nxt (n + 1) zs).toNat zs.tail from rfl)
  clear hsrc ho hbel
  obtain ⟨m, hm⟩ : ∃ m : Nat, nxt (n + 1) zs = m := ⟨(nxt (n + 1) zs).toNat, by omega⟩
  rw [hm] at hlo hhi HT ⊢
  clear hm
  rw [Int.toNat_natCast] at HT
  go_wp2_with fail
  go_loopw [7, 6] (fun x v wr => ∃ (k : Nat) (l d : List Int), d.length + k ≤ 1000 ∧ x = .int .i64 k ∧ wr.ownsRow w.heap.size 3 1 v d.length (ints d) ∧ Below w.heap.size w wr ∧ Src wr w.heap.size 101 g l ∧ Hid (d ++ rowsGo k l = rowsOf n zs))
    (fun x _ _ => (intOf x).toNat)
  case atStart => exact ⟨m, zs.tail, [], by simp; omega, rfl, World.ownsRow_nil _ _ _ _, hb2, hsrc2, HT.out.symm⟩
  case round =>
    obtain ⟨k, l, d, hd, rfl, hown, hbel, hsrc, hh⟩ := hrel
    rcases Nat.eq_zero_or_pos k with h0 | h0
    · subst h0
      go_wp2
      go_ret
      have e := hh.out
      simp only [rowsGo, List.append_nil] at e
      exact RetRow.mk_ hbel hown (by rw [e]) (by rw [e])
    · obtain ⟨k, rfl⟩ : ∃ j, k = j + 1 := ⟨k - 1, by omega⟩
      go_wp2_with fail
      refine (next_any _ g 9 l wr hsrc (by omega) (by omega)).mono ?_
      rintro e w3 ⟨rfl, ho, hsrc3⟩
      have hlo := nxt_lo 9 l (by omega)
      have hhi := nxt_hi 9 l (by omega)
      have hown3 := own_only hown hsrc (by decide) ho
      have hbel3 := below_only hbel ho hsrc.ge hbel.size
      have hN := Lib.hid (rows_next k l d _ hh.out)
      clear hown hbel hsrc ho hh
      obtain ⟨y, hy⟩ : ∃ y, nxt 9 l = y := ⟨_, rfl⟩
      rw [hy] at hlo hhi hN ⊢
      clear hy
      go_wp2_with (at_builtin; go_must (refine app1 _ _ hown3 hbel3 (Nat.le_refl _) hbel3.size Try.underlying25 info_int2 rfl (by decide) rfl (oneInt _ _) (by omega) (by omega) rfl rfl rfl rfl ?_))
      intro g' cap' w4 hown4 hbel4 hg4 _
      have hsrc4 := hsrc3.grown hg4 (hsrc3.own_ne hown3 (by decide)) (fun q hq => (hown3.lt q hq).1)
      clear hown3 hbel3 hg4 hsrc3
      go_wp2
      go_roundw
      case rel => exact ⟨k, l.tail, d ++ [1 + y], by simp; omega, by go_num, own_ints hown4, hbel4, hsrc4, hN.out⟩
      case measure => simp [intOf]
end Go.Proofs.Ytdffmkbcjnonaaa
