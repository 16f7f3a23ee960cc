/-
  The walk of the law GarbageInverse.
-/
import Derived.Test.YtlchfaakmgclcaaDoorGarbAwake
import Derived.Test.YtlchfaakmgclcaaDoorPick
namespace Go.Proofs.YtlchfaakmgclcaaDoor
open Go.RowKit Go.Sort
theorem name_ne {c d : UInt8} (h : c ≠ d) {a b : Int} (ha : 1 ≤ a ∧ a ≤ 2147483647) {S T : ByteArray} (hs : S.data.toList = nameL c a) (ht : T.data.toList = nameL d b) : (S.toList == T.toList) = false := by
  refine strq_ne fun e => ?_
  subst e
  rw [hs] at ht
  exact h (nameL_inj ha ht).1
theorem name_eqb {c : UInt8} {a b : Int} (ha : 1 ≤ a ∧ a ≤ 2147483647) {S T : ByteArray} (hs : S.data.toList = nameL c a) (ht : T.data.toList = nameL c b) : (S.toList == T.toList) = (a == b) := by
  by_cases e : a = b
  · subst e
    rw [strq_eq (strEq (hs.trans ht.symm))]; simp
  · rw [strq_ne (fun h => e (nameL_inj ha (by rw [← hs, ← ht, h])).2)]
    symm; simpa using e
set_option maxRecDepth 100000 in
set_option maxHeartbeats 2000000 in
theorem garbageInverse_walk (n m : Int) (w : World) (hE : Env w) : Calls Tryd.prog 11 #[.int .i64 n, .int .i64 m] w fun e w' => e = .returned (.bool true) ∧ Below w.heap.size w w' := by
  have HE0 := Lib.hid hE
  have P1 := Lib.hid (fun X => pick_any n 2147483647 X (by omega) (by omega))
  have P2 := Lib.hid (fun X => pick_any m 2147483647 X (by omega) (by omega))
  have p1 := pick_lo n 2147483647 (by omega)
  have p2 := pick_hi n 2147483647 (by omega)
  have p3 := pick_lo m 2147483647 (by omega)
  have p4 := pick_hi m 2147483647 (by omega)
  obtain ⟨x, hx⟩ : ∃ x, pick n 2147483647 = x := ⟨_, rfl⟩
  obtain ⟨y, hy⟩ : ∃ y, pick m 2147483647 = y := ⟨_, rfl⟩
  rw [hx] at P1 p1 p2
  rw [hy] at P2 p3 p4
  have ha : 1 ≤ 1 + x ∧ 1 + x ≤ 2147483647 := by omega
  have hb : 1 ≤ 1 + y ∧ 1 + y ≤ 2147483647 := by omega
  clear hx hy hE
  obtain ⟨PA, hPA, CPA⟩ := retSB_ex (nameL 80 (1 + x))
  obtain ⟨DA, hDA, CDA⟩ := retSB_ex (nameL 68 (1 + x))
  obtain ⟨MA, hMA, CMA⟩ := retSB_ex (nameL 77 (1 + x))
  obtain ⟨PB, hPB, CPB⟩ := retSB_ex (nameL 80 (1 + y))
  obtain ⟨DB, hDB, CDB⟩ := retSB_ex (nameL 68 (1 + y))
  obtain ⟨MB, hMB, CMB⟩ := retSB_ex (nameL 77 (1 + y))
  have hsz : ∀ (S : ByteArray) (c : UInt8) (v : Int), S.data.toList = nameL c v → S.size ≤ 140737488351232 := fun S c v h => by
    have := nameL_len c v; rw [← h, sizeD] at this; omega
  have F1 := Lib.hid (fun X (h : Env X) => CPA _ _ _ _ (part_any (1 + x) X h.tab))
  have F2 := Lib.hid (fun X (h : Env X) => CDA _ _ _ _ (del_any (1 + x) X h.tab))
  have F3 := Lib.hid (fun X (h : Env X) => CMA _ _ _ _ (log_any (1 + x) X h.tab))
  have F4 := Lib.hid (fun X (h : Env X) => CPB _ _ _ _ (part_any (1 + y) X h.tab))
  have F5 := Lib.hid (fun X (h : Env X) => CDB _ _ _ _ (del_any (1 + y) X h.tab))
  have F6 := Lib.hid (fun X (h : Env X) => CMB _ _ _ _ (log_any (1 + y) X h.tab))
  have N1 := Lib.hid (fun X (h : Env X) => retNB_at (v := 1 + x) (gnumber_any PA X (hsz _ _ _ hPA) h) (by rw [hPA]; exact numG_name (.inl rfl) ha))
  have N2 := Lib.hid (fun X (h : Env X) => retNB_at (v := 1 + x) (gnumber_any DA X (hsz _ _ _ hDA) h) (by rw [hDA]; exact numG_name (.inr (.inl rfl)) ha))
  have N3 := Lib.hid (fun X (h : Env X) => retNB_at (v := 1 + x) (gnumber_any MA X (hsz _ _ _ hMA) h) (by rw [hMA]; exact numG_name (.inr (.inr rfl)) ha))
  have q1 := name_eqb ha hPA hPB
  have q2 : (PA.toList == DB.toList) = false := name_ne (by decide) ha hPA hDB
  have q3 : (PA.toList == MB.toList) = false := name_ne (by decide) ha hPA hMB
  have q4 : (DA.toList == MB.toList) = false := name_ne (by decide) ha hDA hMB
  clear hPA hDA hMA hPB hDB hMB CPA CDA CMA CPB CDB CMB hsz
  have HA := Lib.hid (awake32_any w HE0.out)
  obtain ⟨bb, hbb⟩ : ∃ bb : Bool, ((1 + x : Int) == 1 + y) = bb := ⟨_, rfl⟩
  rw [hbb] at q1
  go_enter Tryd.func11, Tryd.ntmps11
  go_wp2_with fail
  refine (P1.out _).mono ?_
  rintro _ _ ⟨rfl, rfl⟩
  go_wp2_with fail
  refine (P2.out _).mono ?_
  rintro _ _ ⟨rfl, rfl⟩
  go_wp2_with fail
  refine HA.out.mono ?_
  rintro _ w1 ⟨rfl, hb⟩
  have HB := Lib.hid hb
  have HE := Lib.hid (HE0.out.below hb)
  clear hb HE0
  go_wp2_with fail
  refine (F1.out _ HE.out).mono ?_
  rintro _ v ⟨rfl, hb⟩
  replace HB := Lib.hid (bst HB.out hb)
  replace HE := Lib.hid (HE.out.below hb)
  clear hb
  go_wp2_with fail
  refine (N1.out _ HE.out).mono ?_
  rintro _ v ⟨rfl, hb⟩
  replace HB := Lib.hid (bst HB.out hb)
  replace HE := Lib.hid (HE.out.below hb)
  clear hb
  go_wp2_with fail
  refine (F2.out _ HE.out).mono ?_
  rintro _ v ⟨rfl, hb⟩
  replace HB := Lib.hid (bst HB.out hb)
  replace HE := Lib.hid (HE.out.below hb)
  clear hb
  go_wp2_with fail
  refine (N2.out _ HE.out).mono ?_
  rintro _ v ⟨rfl, hb⟩
  replace HB := Lib.hid (bst HB.out hb)
  replace HE := Lib.hid (HE.out.below hb)
  clear hb
  go_wp2_with fail
  refine (F3.out _ HE.out).mono ?_
  rintro _ v ⟨rfl, hb⟩
  replace HB := Lib.hid (bst HB.out hb)
  replace HE := Lib.hid (HE.out.below hb)
  clear hb
  go_wp2_with fail
  refine (N3.out _ HE.out).mono ?_
  rintro _ v ⟨rfl, hb⟩
  replace HB := Lib.hid (bst HB.out hb)
  replace HE := Lib.hid (HE.out.below hb)
  clear hb
  go_wp2_with fail
  refine (F1.out _ HE.out).mono ?_
  rintro _ v ⟨rfl, hb⟩
  replace HB := Lib.hid (bst HB.out hb)
  replace HE := Lib.hid (HE.out.below hb)
  clear hb
  go_wp2_with fail
  refine (F4.out _ HE.out).mono ?_
  rintro _ v ⟨rfl, hb⟩
  replace HB := Lib.hid (bst HB.out hb)
  replace HE := Lib.hid (HE.out.below hb)
  clear hb
  go_wp2_with fail
  refine (F1.out _ HE.out).mono ?_
  rintro _ v ⟨rfl, hb⟩
  replace HB := Lib.hid (bst HB.out hb)
  replace HE := Lib.hid (HE.out.below hb)
  clear hb
  go_wp2_with fail
  refine (F5.out _ HE.out).mono ?_
  rintro _ v ⟨rfl, hb⟩
  replace HB := Lib.hid (bst HB.out hb)
  replace HE := Lib.hid (HE.out.below hb)
  clear hb
  go_wp2_with fail
  refine (F1.out _ HE.out).mono ?_
  rintro _ v ⟨rfl, hb⟩
  replace HB := Lib.hid (bst HB.out hb)
  replace HE := Lib.hid (HE.out.below hb)
  clear hb
  go_wp2_with fail
  refine (F6.out _ HE.out).mono ?_
  rintro _ v ⟨rfl, hb⟩
  replace HB := Lib.hid (bst HB.out hb)
  replace HE := Lib.hid (HE.out.below hb)
  clear hb
  go_wp2_with fail
  refine (F2.out _ HE.out).mono ?_
  rintro _ v ⟨rfl, hb⟩
  replace HB := Lib.hid (bst HB.out hb)
  replace HE := Lib.hid (HE.out.below hb)
  clear hb
  go_wp2_with fail
  refine (F6.out _ HE.out).mono ?_
  rintro _ v ⟨rfl, hb⟩
  replace HB := Lib.hid (bst HB.out hb)
  replace HE := Lib.hid (HE.out.below hb)
  clear hb
  go_wp2
  go_ret
  exact ⟨by simp, HB.out⟩
end Go.Proofs.YtlchfaakmgclcaaDoor
