/-
  The contracts of garbage.Number and of the reference's.
-/
import Derived.Test.YtjfnpklknehiiaaDoorGarbNames
import Derived.Test.YtjfnpklknehiiaaDoorRReadNum
import Derived.Test.YtjfnpklknehiiaaDoorBase
namespace Go.Proofs.YtjfnpklknehiiaaDoor
open Go.RowKit Go.Sort
def RetNB (w : World) (n : Int) (e : Ending) (w' : World) : Prop := e = .returned (.int .i64 n) ∧ Below w.heap.size w w'
theorem RetNB.mk_ {w w' : World} {n m : Int} (h : n = m) (hb : Below w.heap.size w w') : RetNB w n (.returned (.int .i64 m)) w' := by subst h; exact ⟨rfl, hb⟩
def RetN0 (w : World) (n : Int) (e : Ending) (w' : World) : Prop := e = .returned (.int .i64 n) ∧ w = w'
theorem RetN0.mk_ {w : World} {n m : Int} (h : n = m) : RetN0 w n (.returned (.int .i64 m)) w := by subst h; exact ⟨rfl, rfl⟩
theorem numG_cons {s : ByteArray} (h : 0 < s.size) : numG s.data.toList = match okV (Lib.atoiAll (s.extract 1 s.size).data.toList) with
    | some v => if s.data.toList = nameL 80 v ∨ s.data.toList = nameL 68 v ∨ s.data.toList = nameL 77 v then v else 0
    | none => 0 := by
  rw [ext_tail]
  cases hl : s.data.toList with
  | nil => have := size_data s; rw [hl] at this; simp at this; omega
  | cons a r => rfl
theorem numG_at {s : ByteArray} {v : Int} (h : 0 < s.size) (hv : okV (Lib.atoiAll (s.extract 1 s.size).data.toList) = some v) : numG s.data.toList = if s.data.toList = nameL 80 v ∨ s.data.toList = nameL 68 v ∨ s.data.toList = nameL 77 v then v else 0 := by
  rw [numG_cons h, hv]
theorem numG_none {s : ByteArray} (h : 0 < s.size) (hv : okV (Lib.atoiAll (s.extract 1 s.size).data.toList) = none) : numG s.data.toList = 0 := by
  rw [numG_cons h, hv]
theorem retSB_ex (l : List UInt8) : ∃ P : ByteArray, P.data.toList = l ∧ ∀ (Q : Program) (f : FuncId) (args : Array Value) (w : World), Calls Q f args w (RetSB w l) → Calls Q f args w fun e w' => e = .returned (.string P) ∧ Below w.heap.size w w' := ⟨⟨l.toArray⟩, rfl, fun _ _ _ _ h => h⟩
set_option maxRecDepth 100000 in
set_option maxHeartbeats 2000000 in
theorem gnumber_any (s : ByteArray) (w : World) (hs : s.size ≤ 281474976710656) (hE : Env w) : Calls Tryd.prog 22 #[.string s] w (RetNB w (numG s.data.toList)) := by
  have HE0 := Lib.hid hE
  clear hE
  by_cases h0 : s.size = 0
  · have HF := Lib.hid (show numG s.data.toList = 0 by
      rw [show s.data.toList = [] from List.eq_nil_of_length_eq_zero (by rw [size_data]; exact h0)]; rfl)
    have hn := toList_nil h0
    go_enter Tryd.func22, Tryd.ntmps22
    go_wp2
    go_ret
    exact RetNB.mk_ HF.out (Below.refl _ _)
  · have hp : 0 < s.size := by omega
    have hn := toList_ne hp
    obtain ⟨T, hT⟩ : ∃ T : ByteArray, s.extract 1 s.size = T := ⟨_, rfl⟩
    have hTs : T.size ≤ 281474976710656 := by rw [← hT]; simp; omega
    have HG := Lib.hid (fun v (h : okV (Lib.atoiAll T.data.toList) = some v) => numG_at (s := s) (v := v) hp (by rw [hT]; exact h))
    have HN := Lib.hid (fun (h : okV (Lib.atoiAll T.data.toList) = none) => numG_none (s := s) hp (by rw [hT]; exact h))
    cases hv : okV (Lib.atoiAll T.data.toList) with
    | none =>
      have HF := Lib.hid (HN.out hv)
      have C := Lib.hid (atoi_bad T w hTs hv HE0.out)
      clear hv HG HN hTs
      go_enter Tryd.func22, Tryd.ntmps22
      go_wp2_with fail
      refine C.out.mono ?_
      rintro _ w1 ⟨x, N, rfl, hb⟩
      have HB := Lib.hid hb
      clear hb
      go_wp2
      go_ret
      exact RetNB.mk_ HF.out HB.out
    | some v =>
      have HF := Lib.hid (HG.out v hv)
      have C := Lib.hid (atoi_ok T v w hTs hv)
      clear hv HG HN hTs
      obtain ⟨P, hP, CP⟩ := retSB_ex (nameL 80 v)
      obtain ⟨D, hD, CD⟩ := retSB_ex (nameL 68 v)
      obtain ⟨M, hM, CM⟩ := retSB_ex (nameL 77 v)
      have FP := Lib.hid (fun X (h : Tab X) => CP _ _ _ _ (part_any v X h))
      have FD := Lib.hid (fun X (h : Tab X) => CD _ _ _ _ (del_any v X h))
      have FM := Lib.hid (fun X (h : Tab X) => CM _ _ _ _ (log_any v X h))
      rw [← hP, ← hD, ← hM] at HF
      clear hP hD hM CP CD CM
      by_cases e1 : s = P
      · have q1 := strq_eq e1
        have HX := Lib.hid (show numG s.data.toList = v by rw [HF.out, if_pos (.inl (by rw [e1]))])
        clear e1
        go_enter Tryd.func22, Tryd.ntmps22
        go_wp2_with fail
        refine C.out.mono ?_
        rintro _ w1 ⟨rfl, hb1⟩
        have HB1 := Lib.hid hb1
        have HE1 := Lib.hid (HE0.out.below hb1)
        clear hb1
        go_wp2_with fail
        refine (FP.out _ HE1.out.tab).mono ?_
        rintro _ w2 ⟨rfl, hb2⟩
        have HB2 := Lib.hid (bst HB1.out hb2)
        clear hb2
        go_wp2
        go_ret
        exact RetNB.mk_ HX.out HB2.out
      · have q1 := strq_ne e1
        by_cases e2 : s = D
        · have q2 := strq_eq e2
          have HX := Lib.hid (show numG s.data.toList = v by rw [HF.out, if_pos (.inr (.inl (by rw [e2])))])
          clear e1 e2
          go_enter Tryd.func22, Tryd.ntmps22
          go_wp2_with fail
          refine C.out.mono ?_
          rintro _ w1 ⟨rfl, hb1⟩
          have HB1 := Lib.hid hb1
          have HE1 := Lib.hid (HE0.out.below hb1)
          clear hb1
          go_wp2_with fail
          refine (FP.out _ HE1.out.tab).mono ?_
          rintro _ w2 ⟨rfl, hb2⟩
          have HB2 := Lib.hid (bst HB1.out hb2)
          have HE2 := Lib.hid (HE1.out.below hb2)
          clear hb2
          go_wp2_with fail
          refine (FD.out _ HE2.out.tab).mono ?_
          rintro _ w3 ⟨rfl, hb3⟩
          have HB3 := Lib.hid (bst HB2.out hb3)
          clear hb3
          go_wp2
          go_ret
          exact RetNB.mk_ HX.out HB3.out
        · have q2 := strq_ne e2
          have HX := Lib.hid (show numG s.data.toList = if s.data.toList = M.data.toList then v else 0 by
            rw [HF.out]
            by_cases e3 : s.data.toList = M.data.toList
            · rw [if_pos (.inr (.inr e3)), if_pos e3]
            · rw [if_neg, if_neg e3]
              rintro (h | h | h)
              · exact e1 (strEq h)
              · exact e2 (strEq h)
              · exact e3 h)
          clear e1 e2
          by_cases e3 : s = M
          · have q3 := strq_eq e3
            have HY := Lib.hid (show numG s.data.toList = v by rw [HX.out, if_pos (by rw [e3])])
            clear e3
            go_enter Tryd.func22, Tryd.ntmps22
            go_wp2_with fail
            refine C.out.mono ?_
            rintro _ w1 ⟨rfl, hb1⟩
            have HB1 := Lib.hid hb1
            have HE1 := Lib.hid (HE0.out.below hb1)
            clear hb1
            go_wp2_with fail
            refine (FP.out _ HE1.out.tab).mono ?_
            rintro _ w2 ⟨rfl, hb2⟩
            have HB2 := Lib.hid (bst HB1.out hb2)
            have HE2 := Lib.hid (HE1.out.below hb2)
            clear hb2
            go_wp2_with fail
            refine (FD.out _ HE2.out.tab).mono ?_
            rintro _ w3 ⟨rfl, hb3⟩
            have HB3 := Lib.hid (bst HB2.out hb3)
            have HE3 := Lib.hid (HE2.out.below hb3)
            clear hb3
            go_wp2_with fail
            refine (FM.out _ HE3.out.tab).mono ?_
            rintro _ w4 ⟨rfl, hb4⟩
            have HB4 := Lib.hid (bst HB3.out hb4)
            clear hb4
            go_wp2
            go_ret
            exact RetNB.mk_ HY.out HB4.out
          · have q3 := strq_ne e3
            have HY := Lib.hid (show numG s.data.toList = 0 by rw [HX.out, if_neg (fun h => e3 (strEq h))])
            clear e3
            go_enter Tryd.func22, Tryd.ntmps22
            go_wp2_with fail
            refine C.out.mono ?_
            rintro _ w1 ⟨rfl, hb1⟩
            have HB1 := Lib.hid hb1
            have HE1 := Lib.hid (HE0.out.below hb1)
            clear hb1
            go_wp2_with fail
            refine (FP.out _ HE1.out.tab).mono ?_
            rintro _ w2 ⟨rfl, hb2⟩
            have HB2 := Lib.hid (bst HB1.out hb2)
            have HE2 := Lib.hid (HE1.out.below hb2)
            clear hb2
            go_wp2_with fail
            refine (FD.out _ HE2.out.tab).mono ?_
            rintro _ w3 ⟨rfl, hb3⟩
            have HB3 := Lib.hid (bst HB2.out hb3)
            have HE3 := Lib.hid (HE2.out.below hb3)
            clear hb3
            go_wp2_with fail
            refine (FM.out _ HE3.out.tab).mono ?_
            rintro _ w4 ⟨rfl, hb4⟩
            have HB4 := Lib.hid (bst HB3.out hb4)
            clear hb4
            go_wp2
            go_ret
            exact RetNB.mk_ HY.out HB4.out
theorem numR_small {s : ByteArray} (h : s.size < 2) : numR s.data.toList = 0 := by
  unfold numR; rw [if_pos (.inl (by rw [size_data]; exact h))]
theorem numR_head {s : ByteArray} (h : 0 < s.size) (h1 : (s[0].toNat : Int) ≠ 80) (h2 : (s[0].toNat : Int) ≠ 68) (h3 : (s[0].toNat : Int) ≠ 77) : numR s.data.toList = 0 := by
  unfold numR
  rw [if_pos]
  refine .inr ⟨?_, ?_, ?_⟩
  all_goals
    rw [head_data s h]
    intro e
    rw [e] at h1 h2 h3
    simp at h1 h2 h3
theorem numR_on {s : ByteArray} (h : 2 ≤ s.size) (h1 : (s[0].toNat : Int) = 80 ∨ (s[0].toNat : Int) = 68 ∨ (s[0].toNat : Int) = 77) {v e : Int} (hr : readV (s.extract 1 s.size).data.toList = (v, e)) :
    numR s.data.toList = if e ≠ 0 ∨ v < 1 ∨ 2147483647 < v then 0 else v := by
  unfold numR
  rw [ext_tail] at hr
  rw [if_neg, hr]
  rintro (a | ⟨a, b, c⟩)
  · rw [size_data] at a; omega
  · rw [head_data s (by omega)] at a b c
    rcases h1 with h1 | h1 | h1
    · exact a (UInt8.toNat.inj (by show _ = 80; omega))
    · exact b (UInt8.toNat.inj (by show _ = 68; omega))
    · exact c (UInt8.toNat.inj (by show _ = 77; omega))
end Go.Proofs.YtjfnpklknehiiaaDoor
