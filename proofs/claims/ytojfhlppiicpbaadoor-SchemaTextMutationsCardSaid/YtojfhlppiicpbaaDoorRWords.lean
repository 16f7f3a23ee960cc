/-
  The contract of ref6.Words.
-/
import Derived.Test.YtojfhlppiicpbaaDoorSPar
namespace Go.Proofs.YtojfhlppiicpbaaDoor
open Go.RowKit Go.Sort
set_option linter.unusedVariables false
def pieceW (S : List UInt8) (a i : Nat) : List UInt8 := (S.drop a).take (i - a)
structure WInv (S : List UInt8) (i fr : Nat) (L : List (List UInt8)) : Prop where
  mid : i ≤ S.length → splitC 32 S = L ++ splitC 32 (S.drop fr)
  run : ∀ j, fr ≤ j → j < i → S[j]? ≠ some 32
  fin : S.length < i → splitC 32 S = L
  ne : [] ∉ L
theorem WInv.zero (S : List UInt8) : WInv S 0 0 [] := ⟨fun _ => rfl, fun j _ h => absurd h (Nat.not_lt_zero _), fun h => absurd h (Nat.not_lt_zero _), by simp⟩
theorem WInv.skip {S : List UInt8} {i fr : Nat} {L : List (List UInt8)} (h : WInv S i fr L) (hi : i < S.length) (hc : S[i]? ≠ some 32) : WInv S (i + 1) fr L :=
  ⟨fun _ => h.mid (by omega), fun j h1 h2 => by
    by_cases e : j = i
    · subst e; exact hc
    · exact h.run j h1 (by omega), fun hh => by omega, h.ne⟩
theorem drop_at {S : List UInt8} {i : Nat} (h : S[i]? = some 32) : S.drop i = 32 :: S.drop (i + 1) := by
  have hi := (List.getElem?_eq_some_iff.1 h).1
  rw [List.drop_eq_getElem_cons hi]
  congr 1
  exact (List.getElem?_eq_some_iff.1 h).2
theorem WInv.empty {S : List UInt8} {i : Nat} {L : List (List UInt8)} (h : WInv S i i L) (hi : i ≤ S.length) (hc : i = S.length ∨ S[i]? = some 32) : [] ∈ splitC 32 S := by
  rw [h.mid hi]
  rcases hc with rfl | hc
  · rw [List.drop_length]; simp [splitC]
  · rw [drop_at hc, splitC, if_pos rfl]; simp
theorem piece_no {S : List UInt8} {i fr : Nat} {L : List (List UInt8)} (h : WInv S i fr L) : ∀ x ∈ pieceW S fr i, x ≠ 32 := by
  intro x hx e
  unfold pieceW at hx
  obtain ⟨k, hk⟩ := List.mem_iff_getElem?.1 hx
  have hlt : k < i - fr := by
    have := (List.getElem?_eq_some_iff.1 hk).1
    rw [List.length_take] at this; omega
  rw [List.getElem?_take_of_lt hlt, List.getElem?_drop] at hk
  exact h.run (fr + k) (by omega) (by omega) (by rw [hk, e])
theorem WInv.word {S : List UInt8} {i fr : Nat} {L : List (List UInt8)} (h : WInv S i fr L) (hf : fr < i) (hi : i ≤ S.length) (hc : i = S.length ∨ S[i]? = some 32) : WInv S (i + 1) (i + 1) (L ++ [pieceW S fr i]) := by
  have hn := piece_no h
  have hp : pieceW S fr i ≠ [] := by
    intro e
    have := congrArg List.length e
    unfold pieceW at this
    rw [List.length_take, List.length_drop] at this
    simp at this; omega
  have hs : S.drop fr = pieceW S fr i ++ S.drop i := by
    unfold pieceW
    have := (List.take_append_drop (i - fr) (S.drop fr)).symm
    rw [List.drop_drop, show fr + (i - fr) = i by omega] at this
    exact this
  refine ⟨fun hl => ?_, fun j h1 h2 => by omega, fun hl => ?_, ?_⟩
  · rcases hc with e | hc
    · omega
    · rw [h.mid hi, hs, drop_at hc, splitC_app hn, List.append_assoc]; rfl
  · have e : i = S.length := by omega
    rw [h.mid hi, hs, e, List.drop_length, List.append_nil, ← e, splitC_no hn]
  · rw [List.mem_append, List.mem_singleton]
    rintro (hh | hh)
    · exact h.ne hh
    · exact hp hh.symm
theorem piece_ext (s : ByteArray) (a i : Nat) : s.extract a i = mkS (pieceW s.data.toList a i) := by
  apply strEq
  rw [Lib.extract_data, mkS_data]; rfl
/-- A row of words in memory. -/
def RowAt (w : World) (g : Nat) (W : List (List UInt8)) : Prop := g < w.heap.size ∧ ∀ (i : Nat) (x : List UInt8), W[i]? = some x → w.cell? ⟨g, i, none⟩ = some (.string (mkS x))
theorem RowAt.below {w w' : World} {g : Nat} {W : List (List UInt8)} (h : RowAt w g W) (hb : Below w.heap.size w w') : RowAt w' g W :=
  ⟨Nat.lt_of_lt_of_le h.1 hb.size, fun i x hx => (hb.cell (p := ⟨g, i, none⟩) h.1).trans (h.2 i x hx)⟩
theorem row_own {w : World} {base : Nat} {e : TypeId} {v : Value} {L : List (List UInt8)} (h : w.ownsRow base e 1 v L.length (strV (L.map mkS))) (hn : 0 < L.length) : ∃ g c, v = .slice (some ⟨g, 0, none⟩) L.length c ∧ L.length ≤ c ∧ c ≤ maxLen ∧ RowAt w g L := by
  obtain ⟨A, c, e1, h1, h2, h3, h4⟩ := Sl.of_own h
  obtain ⟨ad, rfl, hb, hc⟩ := h4 hn
  rcases h.2 with ⟨_, h0⟩ | ⟨g, cap, cur, rfl, _⟩
  · omega
  · injection e1 with e2 e3 e4
    injection e2 with e2
    subst e2
    refine ⟨g, cap, rfl, by omega, by omega, hb, fun i x hx => ?_⟩
    have := hc i (.string (mkS x)) (by unfold strV; rw [List.getElem?_map, List.getElem?_map, hx]; rfl)
    have e1 : (⟨g, 0, none⟩ : Addr).add i = ⟨g, i, none⟩ := by unfold Addr.add; split <;> simp_all
    rwa [e1] at this
def RetWd (w : World) (W : List (List UInt8)) (e : Ending) (w' : World) : Prop :=
  ∃ (v : Value) (b : Bool), e = .returned (.tuple #[v, .bool b]) ∧ (∃ A n c, v = .slice A n c) ∧ (b = true → [] ∉ W ∧ ∃ g c, v = .slice (some ⟨g, 0, none⟩) W.length c ∧ W.length ≤ c ∧ c ≤ maxLen ∧ RowAt w' g W) ∧ (b = false → [] ∈ W) ∧ Below w.heap.size w w'
set_option maxRecDepth 100000 in
set_option maxHeartbeats 2000000 in
theorem words_any (s : ByteArray) (w : World) (hs : s.size ≤ 1000000) : Calls Tryd.prog 35 #[.string s] w (RetWd w (splitC 32 s.data.toList)) := by
  have hlen := size_data s
  obtain ⟨W, hW⟩ : ∃ W, W = splitC 32 s.data.toList := ⟨_, rfl⟩
  have HW := Lib.hid hW
  rw [← hW]
  clear hW
  go_enter Tryd.func35, Tryd.ntmps35
  go_wp2
  go_loopw [4, 5, 6] (fun t4 t5 t6 wr => ∃ (i fr : Nat) (L : List (List UInt8)), t5 = .int .i64 fr ∧ t6 = .int .i64 i ∧ i ≤ s.size + 1 ∧ fr ≤ i ∧ L.length ≤ fr ∧ wr.ownsRow w.heap.size 9 1 t4 L.length (strV (L.map mkS)) ∧ Below w.heap.size w wr ∧ Hid (WInv s.data.toList i fr L)) (fun _ _ t6 _ => s.size + 1 - (intOf t6).toNat)
  case atStart => exact ⟨0, 0, [], rfl, rfl, by omega, by omega, by simp, World.ownsRow_nil _ _ _ _, Below.refl _ _, Lib.hid (WInv.zero _)⟩
  case round =>
    obtain ⟨i, fr, L, rfl, rfl, hi, hfr, hLf, hown, hbel, hinv⟩ := hrel
    obtain ⟨A, cp, rfl, hd1, hd2⟩ := (Sl.of_own hown).form
    unfold maxLen at hd2
    by_cases hlast : i = s.size + 1
    · subst hlast
      have HF := Lib.hid (hinv.out.fin (by omega))
      have HNE := Lib.hid hinv.out.ne
      clear hinv
      have hL0 : 0 < L.length := by
        rw [← HF.out]; exact List.length_pos_iff.2 (splitC_ne _ _)
      obtain ⟨g, c, e, hg1, hg2, hg3⟩ := row_own hown hL0
      injection e with e1 _ e3
      subst e1 e3
      clear hown
      go_wp2
      go_ret2
      refine ⟨_, true, rfl, ⟨_, _, _, rfl⟩, fun _ => ?_, nofun, hbel⟩
      rw [HW.out, HF.out]
      exact ⟨HNE.out, g, _, rfl, hg1, hg2, hg3⟩
    · have hi2 : i ≤ s.size := by omega
      by_cases hlt : i < s.size
      · by_cases hc : (s[i].toNat : Int) = 32
        · have HC := Lib.hid (show s.data.toList[i]? = some 32 by rw [get_data s i hlt]; congr 1; exact UInt8.toNat_inj.1 (by show s[i].toNat = 32; omega))
          have q1 : ((s[i].toNat : Int) != 32) = false := by rw [bne_eq_false_iff_eq]; exact hc
          clear hc
          by_cases he : i = fr
          · subst he
            have HO := Lib.hid (hinv.out.empty (by omega) (.inr HC.out))
            clear hinv hlast hown
            go_wp2
            go_ret2
            exact ⟨_, false, rfl, ⟨_, _, _, rfl⟩, nofun, fun _ => by rw [HW.out]; exact HO.out, hbel⟩
          · have HN := Lib.hid (hinv.out.word (by omega) (by omega) (.inr HC.out))
            have hx1 : (fr : Int) ≤ i := by omega
            have q3 : ((i : Int) == fr) = false := by rw [beq_eq_false_iff_ne]; omega
            clear hinv he hlast
            go_wp2_with (at_builtin; go_must (refine app1 _ _ hown hbel (Nat.le_refl _) hbel.size Tryd.underlying23 info_str rfl (by decide) rfl (oneStr _) (by omega) (by omega) rfl rfl rfl rfl ?_))
            intro g' cap' w1 hown' hbel' _ _
            clear hown hbel
            rw [piece_ext] at hown'
            go_wp2
            go_roundw
            case rel => exact ⟨i + 1, i + 1, L ++ [pieceW s.data.toList fr i], by go_num, by go_num, by omega, by omega, by simp; omega, by rw [List.map_append]; simpa [strV] using hown', hbel', HN⟩
            case measure => simp [intOf]; omega
        · have HN := Lib.hid (hinv.out.skip (by omega) (by rw [get_data s i hlt]; intro e; injection e with e; exact hc (by rw [e]; rfl)))
          have q1 : ((s[i].toNat : Int) != 32) = true := by rw [bne_iff_ne]; exact hc
          clear hinv hc hlast
          go_wp2
          go_roundw
          case rel => exact ⟨i + 1, fr, L, rfl, by go_num, by omega, by omega, hLf, hown, hbel, HN⟩
          case measure => simp [intOf]; omega
      · have he0 : i = s.size := by omega
        by_cases he : i = fr
        · have HO := Lib.hid (show [] ∈ splitC 32 s.data.toList from WInv.empty (i := i) (by have := hinv.out; rwa [← he] at this) (by omega) (.inl (by omega)))
          have q3 : ((i : Int) == fr) = true := by rw [beq_iff_eq]; omega
          clear hinv hlast hown he he0
          go_wp2
          go_ret2
          exact ⟨_, false, rfl, ⟨_, _, _, rfl⟩, nofun, fun _ => by rw [HW.out]; exact HO.out, hbel⟩
        · have HN := Lib.hid (hinv.out.word (by omega) (by omega) (.inl (by omega)))
          have hx1 : (fr : Int) ≤ i := by omega
          have q3 : ((i : Int) == fr) = false := by rw [beq_eq_false_iff_ne]; omega
          clear hinv he hlast he0
          go_wp2_with (at_builtin; go_must (refine app1 _ _ hown hbel (Nat.le_refl _) hbel.size Tryd.underlying23 info_str rfl (by decide) rfl (oneStr _) (by omega) (by omega) rfl rfl rfl rfl ?_))
          intro g' cap' w1 hown' hbel' _ _
          clear hown hbel
          rw [piece_ext] at hown'
          go_wp2
          go_roundw
          case rel => exact ⟨i + 1, i + 1, L ++ [pieceW s.data.toList fr i], by go_num, by go_num, by omega, by omega, by simp; omega, by rw [List.map_append]; simpa [strV] using hown', hbel', HN⟩
          case measure => simp [intOf]; omega
end Go.Proofs.YtojfhlppiicpbaaDoor
