/-
  The contract of schema.scale.
-/
import Derived.Test.YtojfhlppiicpbaaDoorSParSpec
import Derived.Test.YtojfhlppiicpbaaDoorAtoi
import Derived.Test.YtojfhlppiicpbaaDoorSameS
namespace Go.Proofs.YtojfhlppiicpbaaDoor
open Go.RowKit Go.Sort
set_option linter.unusedVariables false
theorem dd_bd (l : List UInt8) (h : l.all digB = true) : valN l < 10 ^ l.length := by
  have : ∀ (n : Nat) (l : List UInt8), l.length = n → l.all digB = true → valN l < 10 ^ n := by
    intro n
    induction n with
    | zero => intro l hl _; obtain rfl := List.eq_nil_of_length_eq_zero hl; decide
    | succ n ih =>
      intro l hl ha
      obtain ⟨r, c, rfl⟩ := list_snoc l (by rintro rfl; simp at hl)
      rw [List.length_append, List.length_singleton] at hl
      rw [List.all_append, Bool.and_eq_true] at ha
      have h1 := ih r (by omega) ha.1
      have h2 : digB c = true := by simpa using ha.2
      unfold digB at h2
      rw [decide_eq_true_eq] at h2
      rw [valN_snoc, Nat.pow_succ]
      omega
  exact this _ l rfl h
theorem scaV_itoa {w : List UInt8} {n : Int} : scaV w = some n ↔ 0 ≤ n ∧ n ≤ 99 ∧ w = Lib.itoa n := by
  constructor
  · intro h
    unfold scaV at h
    split at h
    · rename_i hc
      obtain ⟨h1, h2, h3⟩ := hc
      obtain rfl := Option.some.inj h
      have e : readV w = ((readV w).1, 0) := by rw [← h2]
      obtain ⟨e1, _, _⟩ := readV_inv e
      refine ⟨h3, ?_, e1⟩
      have e2 : w = Lib.decDigits (readV w).1.toNat := by
        refine e1.trans ?_
        unfold Lib.itoa; rw [if_neg (by omega)]
      have h4 := dd_bd (Lib.decDigits (readV w).1.toNat) (dd_all _)
      rw [valN_dd, ← e2] at h4
      have h5 : 10 ^ w.length ≤ 10 ^ 2 := Nat.pow_le_pow_right (by omega) h1
      omega
    · cases h
  · rintro ⟨h0, h1, rfl⟩
    have : ∀ k : Fin 100, scaV (Lib.itoa (k.val : Int)) = some (k.val : Int) := by decide +kernel
    obtain ⟨j, rfl⟩ : ∃ j : Nat, n = j := ⟨n.toNat, by omega⟩
    exact this ⟨j, by omega⟩
theorem sca_atoi {w : List UInt8} (h : okV (Lib.atoiAll w) = none) : scaV w = none := by
  cases hs : scaV w with
  | none => rfl
  | some n =>
    obtain ⟨h0, h1, rfl⟩ := scaV_itoa.1 hs
    rw [atoi_itoa n (by omega) (by omega)] at h; simp [okV] at h
theorem sca_no {w : List UInt8} {v : Int} (h : okV (Lib.atoiAll w) = some v) (hn : ¬(0 ≤ v ∧ v ≤ 99 ∧ w = Lib.itoa v)) : scaV w = none := by
  cases hs : scaV w with
  | none => rfl
  | some n =>
    obtain ⟨h0, h1, rfl⟩ := scaV_itoa.1 hs
    rw [atoi_itoa n (by omega) (by omega)] at h
    obtain rfl := Option.some.inj h
    exact absurd ⟨h0, h1, rfl⟩ hn
/-- A number and whether it is one. -/
def RetSca (w : World) (r : Option Int) (e : Ending) (w' : World) : Prop := ∃ (n : Int) (b : Bool), e = .returned (.tuple #[.int .i64 n, .bool b]) ∧ (b = true → r = some n) ∧ (b = false → r = none) ∧ Below w.heap.size w w'
theorem RetSca.no {w w' : World} {r : Option Int} {n : Int} (h : r = none) (hb : Below w.heap.size w w') : RetSca w r (.returned (.tuple #[.int .i64 n, .bool false])) w' := ⟨n, false, rfl, nofun, fun _ => h, hb⟩
theorem RetSca.yes {w w' : World} {r : Option Int} {n : Int} {b : Bool} (hb1 : b = true) (h : r = some n) (hb : Below w.heap.size w w') : RetSca w r (.returned (.tuple #[.int .i64 n, .bool b])) w' := by subst hb1; exact ⟨n, true, rfl, fun _ => h, nofun, hb⟩
set_option maxHeartbeats 1000000 in
theorem scale_any' (s : ByteArray) (w : World) (hE : Env w) (hs : s.size ≤ 281474976710656) : Calls Tryd.prog 43 #[.string s] w (RetSca w (scaV s.data.toList)) := by
  cases hv : okV (Lib.atoiAll s.data.toList) with
  | none =>
    have HN := Lib.hid (sca_atoi hv)
    have C := Lib.hid (atoi_bad s w hs hv hE)
    clear hv hE
    go_enter Tryd.func43, Tryd.ntmps43
    go_wp2_with fail
    refine C.out.mono ?_
    rintro _ w1 ⟨x, N, rfl, hb⟩
    have HB := Lib.hid hb
    clear hb
    go_wp2
    go_ret2
    exact RetSca.no HN.out HB.out
  | some v =>
    have C := Lib.hid (atoi_ok s v w hs hv)
    have HV := Lib.hid hv
    have HT := Lib.hid hE.tab
    clear hv hE
    by_cases h0 : 0 ≤ v
    · by_cases h1 : v ≤ 99
      · have CI := Lib.hid (fun X (h : Tab X) => Tryd.strconv_Itoa v (by omega) (by omega) X h)
        obtain ⟨T, hT⟩ : ∃ T : ByteArray, T = ⟨(Lib.itoa v).toArray⟩ := ⟨_, rfl⟩
        rw [← hT] at CI
        by_cases he : T = s
        · have HY := Lib.hid (show scaV s.data.toList = some v from scaV_itoa.2 ⟨h0, h1, by rw [← he, hT]⟩)
          have q := strq_eq he
          clear hT he
          go_enter Tryd.func43, Tryd.ntmps43
          go_wp2_with fail
          refine C.out.mono ?_
          rintro _ w1 ⟨rfl, hb⟩
          have HB := Lib.hid hb
          have HT1 := Lib.hid (HT.out.below hb)
          clear hb
          go_wp2_with fail
          refine (CI.out _ HT1.out).mono ?_
          rintro _ w2 ⟨rfl, hk2⟩
          have HB2 := Lib.hid (show Below w.heap.size w w2 by obtain ⟨n2, os2, rfl⟩ := hk2; exact bst HB.out (below_gd w1 n2 os2))
          clear hk2
          go_wp2
          go_ret2
          exact RetSca.yes (by simp) HY.out HB2.out
        · have HN := Lib.hid (sca_no HV.out (fun h => he (strEq (by rw [hT, h.2.2]))))
          have q := strq_ne he
          clear hT he
          go_enter Tryd.func43, Tryd.ntmps43
          go_wp2_with fail
          refine C.out.mono ?_
          rintro _ w1 ⟨rfl, hb⟩
          have HB := Lib.hid hb
          have HT1 := Lib.hid (HT.out.below hb)
          clear hb
          go_wp2_with fail
          refine (CI.out _ HT1.out).mono ?_
          rintro _ w2 ⟨rfl, hk2⟩
          have HB2 := Lib.hid (show Below w.heap.size w w2 by obtain ⟨n2, os2, rfl⟩ := hk2; exact bst HB.out (below_gd w1 n2 os2))
          clear hk2
          go_wp2
          go_ret2
          exact RetSca.no HN.out HB2.out
      · have HN := Lib.hid (sca_no HV.out (fun h => h1 h.2.1))
        go_enter Tryd.func43, Tryd.ntmps43
        go_wp2_with fail
        refine C.out.mono ?_
        rintro _ w1 ⟨rfl, hb⟩
        have HB := Lib.hid hb
        clear hb
        go_wp2
        go_ret2
        exact RetSca.no HN.out HB.out
    · have HN := Lib.hid (sca_no HV.out (fun h => h0 h.1))
      go_enter Tryd.func43, Tryd.ntmps43
      go_wp2_with fail
      refine C.out.mono ?_
      rintro _ w1 ⟨rfl, hb⟩
      have HB := Lib.hid hb
      clear hb
      go_wp2
      go_ret2
      exact RetSca.no HN.out HB.out
end Go.Proofs.YtojfhlppiicpbaaDoor
