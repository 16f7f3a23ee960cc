/-
  The walk of the law JobGroups.
-/
import Derived.Test.YtdffmkbcjnonaaaSteps
import Derived.Test.YtdffmkbcjnonaaaJRows
import Derived.Test.YtdffmkbcjnonaaaGroupsSpec
namespace Go.Proofs.Ytdffmkbcjnonaaa
open Go.RowKit
set_option maxHeartbeats 2000000 in
theorem jobGroups_walk (v : Value) (zs : List Int) (m : Int) (w : World) (hs : Sl w 1 v zs.length (ints zs)) (hl : zs.length ≤ 9223372036854775807) :
    Calls Try.prog 6 #[v, .int .i64 m] w (RetBool w true) := by
  obtain ⟨A, c, rfl, _, _⟩ := hs.form
  go_enter Try.func6, Try.ntmps6
  go_wp2_with fail
  refine (rows_any _ zs 10 w hs hl (by omega) (by omega)).mono ?_
  rintro e w1 ⟨v1, rfl, hbel, hown⟩
  have hlen := rowsOf_length 10 zs (by omega)
  have hmem := fun x h => rowsOf_mem 10 zs x h
  obtain ⟨l, hl⟩ : ∃ l, rowsOf 10 zs = l := ⟨_, rfl⟩
  rw [hl] at hlen hmem hown
  clear hl
  have hsl0 := Sl.of_own hown
  clear hown
  obtain ⟨A1, c1, rfl, _, _⟩ := hsl0.form
  go_wp2_with fail
  refine (pick_any _ 12 w1 (by omega) (by omega)).mono ?_
  rintro e w' ⟨rfl, rfl⟩
  obtain ⟨q, hq⟩ : ∃ q, pick m 12 = q := ⟨_, rfl⟩
  have p1 := pick_lo m 12 (by omega)
  have p2 := pick_hi m 12 (by omega)
  rw [hq] at p1 p2 ⊢
  clear hq
  have hgood : ∀ (k : Nat) (x : Int), l[k]? = some x → 1 ≤ x ∧ x ≤ 1024 ∧ x ≤ 9 + q := fun k x hx => by
    have := hmem x (List.mem_of_getElem? hx); omega
  have h9 : ∀ (k : Nat) (x : Int), l[k]? = some x → 1 ≤ x ∧ x ≤ 9 := fun k x hx => hmem x (List.mem_of_getElem? hx)
  obtain ⟨hGP, hflat⟩ := reads_GP (b := 9 + q) (zs := l) (by omega) hgood
  have hrl := reads_length l (9 + q)
  have H9 := Lib.hid h9
  clear hgood h9 hmem
  go_wp2_with fail
  refine (reads_any _ l (9 + q) w1 hsl0 (by omega) (by omega)).mono ?_
  rintro e w2 ⟨v2, vs, rfl, hbel2, hown2, hll⟩
  obtain ⟨gs, hgs⟩ : ∃ gs, reads l (9 + q) = gs := ⟨_, rfl⟩
  rw [hgs] at hGP hflat hrl hown2 hll
  clear hgs
  have hsl := hsl0.below hbel2
  have hso := Sl.of_own hown2
  have hRL := hll.rl
  have HGP := Lib.hid hGP
  have HF := Lib.hid hflat
  clear hsl0 hown2 hll hGP hflat
  obtain ⟨A2, c2, rfl, _, _⟩ := hso.form
  go_wp2_with fail
  go_loop [8, 24] (fun n i => ∃ k p : Nat, k ≤ gs.length ∧ i = .int .i64 k ∧ n = .int .i64 p ∧ p ≤ l.length ∧ Hid (p = pos gs k)) (fun _ i => gs.length - (intOf i).toNat)
  case atStart => exact ⟨0, 0, by omega, rfl, rfl, by omega, by simp [pos, Hid]⟩
  case round =>
    obtain ⟨k, p, hk, rfl, rfl, hpl, hp⟩ := hrel
    by_cases hlt : k < gs.length
    · obtain ⟨ad, u, g, rfl, hg, hcx, hu⟩ := hRL.at_ hso hlt rfl
      obtain ⟨Au, cu, rfl, hcu1, hcu2⟩ := hu.form
      have Hg := Lib.hid hg
      clear hg
      have hgl : p + g.length ≤ l.length := by
        have e1 := pos_succ Hg.out
        rcases Nat.eq_zero_or_pos g.length with h0 | h0
        · omega
        · have := (pos_get HF.out Hg.out (j := g.length - 1) (x := g[g.length - 1]) (List.getElem?_eq_getElem (by omega))).2
          have := hp.out
          omega
      go_wp2_with fail
      go_loop [8, 11, 31] (fun n s i => ∃ j : Nat, j ≤ g.length ∧ i = .int .i64 j ∧ n = .int .i64 ((p + j : Nat) : Int) ∧ ∃ t : Int, s = .int .i64 t ∧ 0 ≤ t ∧ t ≤ 9 * j ∧ Hid (t = gsum l (g.take j))) (fun _ _ i => g.length - (intOf i).toNat)
      case atStart => exact ⟨0, by omega, rfl, by simp, 0, rfl, by omega, by omega, by simp [gsum, Hid]⟩
      case round =>
        obtain ⟨j, hj, rfl, rfl, t, rfl, ht1, ht2, ht⟩ := hrel
        by_cases hjlt : j < g.length
        · obtain ⟨ad2, x, rfl, hx, hcx2⟩ := hu.int_at hjlt
          obtain ⟨hxv, hxl⟩ := pos_get HF.out Hg.out hx
          rw [← hp.out] at hxv hxl
          obtain ⟨ad3, y, rfl, hy, hcy⟩ := hsl.int_at hxl
          have hy9 := H9.out _ _ hy
          have HS := Lib.hid (show t + y = gsum l (g.take (j + 1)) by rw [gsum_take hx, ← ht.out, hxv, Int.toNat_natCast, List.getD, hy]; rfl)
          subst hxv
          clear hx hy ht
          have hne : (((p + j : Nat) : Int) != ((p + j : Nat) : Int)) = false := by simp
          go_wp2
          go_round
          case rel => exact ⟨j + 1, by omega, by go_num, by go_num, t + y, rfl, by omega, by omega, HS.out⟩
          case measure => simp [intOf]; omega
        · obtain rfl : j = g.length := by omega
          have hts := ht.out
          rw [List.take_length] at hts
          have hle : t ≤ 9 + q := by rw [hts]; exact HGP.out.le k g Hg.out
          have hne : 0 < g.length := by
            rcases Nat.eq_zero_or_pos g.length with h0 | h0
            · exact absurd (List.eq_nil_of_length_eq_zero h0) (HGP.out.ne k g Hg.out)
            · exact h0
          have hz : ((g.length : Int) == 0) = false := beq_eq_false_iff_ne.2 (by omega)
          have HP := Lib.hid (show p + g.length = pos gs (k + 1) by rw [pos_succ Hg.out, hp.out])
          by_cases hk2 : k + 1 < gs.length
          · have hg' : gs[k + 1]? = some (gs[k + 1]) := List.getElem?_eq_getElem hk2
            have hne' := HGP.out.ne (k + 1) _ hg'
            obtain ⟨a, r, hgr⟩ : ∃ a r, gs[k + 1] = a :: r := by
              rcases hc : gs[k + 1] with _ | ⟨a, r⟩
              · exact absurd hc hne'
              · exact ⟨a, r, rfl⟩
            rw [hgr] at hg'
            obtain ⟨ha, hal⟩ := pos_get HF.out hg' (j := 0) (x := a) (by simp)
            have hno := HGP.out.no k g _ Hg.out hg'
            rw [← hts] at hno
            simp only [List.headD_cons, ha, Nat.add_zero, Int.toNat_natCast, ← HP.out] at hno
            have hal' : p + g.length < l.length := by rw [HP.out]; simpa using hal
            obtain ⟨ad3, y, rfl, hy, hcy⟩ := hsl.int_at hal'
            rw [getD_of hy] at hno
            have hy9 := H9.out _ _ hy
            clear hgr ha hal hg' hne' hy hts ht
            have hno' : ¬ t + y ≤ 9 + q := by omega
            go_wp2
            go_round
            case rel => exact ⟨k + 1, p + g.length, by omega, by go_num, by go_num, by omega, HP.out⟩
            case measure => simp [intOf]; omega
          · clear hts ht
            go_wp2
            go_round
            case rel => exact ⟨k + 1, p + g.length, by omega, by go_num, by go_num, by omega, HP.out⟩
            case measure => simp [intOf]; omega
    · obtain rfl : k = gs.length := by omega
      have hall : p = l.length := by rw [hp.out, pos_all HF.out]
      subst hall
      have hee : ((l.length : Int) == (l.length : Int)) = true := by simp
      go_wp2_with fail
      refine (awake_any _).mono ?_
      rintro e w3 ⟨rfl, hbel3⟩
      go_wp2
      go_ret
      exact ⟨rfl, bst (bst hbel hbel2) hbel3⟩
end Go.Proofs.Ytdffmkbcjnonaaa
