/-
  The contracts of the statements' helpers awake and some (layer 32), and the walk of the law GarbageExamples.
-/
import Derived.Test.YtjfnpklknehiiaaDoorGarbNumber
import Derived.Test.YtjfnpklknehiiaaDoorCollect
import Derived.Test.YtjfnpklknehiiaaDoorSrc
namespace Go.Proofs.YtjfnpklknehiiaaDoor
open Go.RowKit Go.Sort
theorem retNB_at {P : Program} {f : FuncId} {args : Array Value} {w : World} {l : List UInt8} {v : Int} (h : Calls P f args w (RetNB w (numG l))) (e : numG l = v) : Calls P f args w fun d w' => d = .returned (.int .i64 v) ∧ Below w.heap.size w w' := by
  subst e; exact h
theorem retSB_at {P : Program} {f : FuncId} {args : Array Value} {w : World} {l : List UInt8} {S : ByteArray} (h : Calls P f args w (RetSB w l)) (e : l = S.data.toList) : Calls P f args w fun d w' => d = .returned (.string S) ∧ Below w.heap.size w w' := by
  subst e; exact h
/-- A literal row of strings, just made. -/
theorem lit_strs (w : World) (t : TypeId) (l : List ByteArray) (hl : l.length ≤ 1000) : (w.alloc (.cells (strV l).toArray t)).ownsRow w.heap.size t 1 (.slice (some ⟨w.heap.size, 0, none⟩) l.length l.length) l.length (strV l) := by
  have := World.ownsRow_lit (e := t) (size := 1) w (strV l).toArray l.length (Nat.le_refl _) (by unfold maxLen; omega) (by simp [strV])
  simpa using this
theorem lit_strs_sl (w : World) (t : TypeId) (l : List ByteArray) (hl : l.length ≤ 1000) : Sl (w.alloc (.cells (strV l).toArray t)) 1 (.slice (some ⟨w.heap.size, 0, none⟩) l.length l.length) l.length (strV l) := Sl.of_own (lit_strs w t l hl)
theorem coll_ex : coll [⟨#[97]⟩, ⟨#[98]⟩] [⟨#[97]⟩] 5 = [⟨#[98]⟩] := by decide +kernel
set_option maxRecDepth 100000 in
set_option maxHeartbeats 1000000 in
theorem awake32_any (w : World) (hE : Env w) : Calls Tryd.prog 7 #[] w fun e w' => e = .returned (.bool true) ∧ Below w.heap.size w w' := by
  have HE0 := Lib.hid hE
  have C1 := Lib.hid (retSB_at (S := { data := #[80, 49, 50] }) (part_any 12 w hE.tab) (by decide +kernel))
  have C2 := Lib.hid (fun X (h : Env X) => retNB_at (v := 3) (gnumber_any { data := #[77, 51] } X (by decide) h) (by decide +kernel))
  clear hE
  go_enter Tryd.func7, Tryd.ntmps7
  go_wp2_with fail
  refine C1.out.mono ?_
  rintro _ w1 ⟨rfl, hb⟩
  have HB1 := Lib.hid hb
  have HE1 := Lib.hid (HE0.out.below hb)
  clear hb
  go_wp2_with fail
  refine (C2.out _ HE1.out).mono ?_
  rintro _ w2 ⟨rfl, hb⟩
  have HB2 := Lib.hid (bst HB1.out hb)
  clear hb C1 C2
  go_wp2_with fail
  have s1 := (lit_strs_sl w2 9 [{ data := #[97] }, { data := #[98] }] (by decide)).alloc (.cells #[.string { data := #[97] }] 9)
  have s2 := lit_strs_sl (w2.alloc (.cells #[.string { data := #[97] }, .string { data := #[98] }] 9)) 9 [{ data := #[97] }] (by decide)
  have hb0 : Below w2.heap.size w2 ((w2.alloc (.cells #[.string { data := #[97] }, .string { data := #[98] }] 9)).alloc (.cells #[.string { data := #[97] }] 9)) := ((Below.refl _ _).alloc (Nat.le_refl _) _).alloc (by simp) _
  obtain ⟨W, hW⟩ : ∃ W, W = ((w2.alloc (.cells #[.string { data := #[97] }, .string { data := #[98] }] 9)).alloc (.cells #[.string { data := #[97] }] 9)) := ⟨_, rfl⟩
  have s1' : Sl W 1 (.slice (some ⟨w2.heap.size, 0, none⟩) 2 2) [({ data := #[97] } : ByteArray), { data := #[98] }].length (strV [{ data := #[97] }, { data := #[98] }]) := by rw [hW]; exact s1
  have s2' : Sl W 1 (.slice (some ⟨w2.heap.size + 1, 0, none⟩) 1 1) [({ data := #[97] } : ByteArray)].length (strV [{ data := #[97] }]) := by rw [hW]; have h := s2; rw [show (w2.alloc (.cells #[.string { data := #[97] }, .string { data := #[98] }] 9)).heap.size = w2.heap.size + 1 by simp] at h; exact h
  rw [← hW] at hb0 ⊢
  have HB3 := Lib.hid (bst HB2.out hb0)
  have CC := Lib.hid (collect_any _ _ [{ data := #[97] }, { data := #[98] }] [{ data := #[97] }] 5 W s1' s2' (by decide))
  rw [coll_ex] at CC
  clear hW s1 s2 s1' s2' hb0
  refine CC.out.mono ?_
  rintro _ w3 ⟨v, rfl, hb, hown⟩
  have HB4 := Lib.hid (bst HB3.out hb)
  have hs := Sl.of_own hown
  obtain ⟨A, c, rfl, _, _⟩ := hs.form
  have s3 := lit_strs_sl w3 9 [{ data := #[98] }] (by decide)
  have CS := Lib.hid (sameS_any _ _ _ _ _ (hs.alloc (.cells #[.string { data := #[98] }] 9)) s3)
  rw [show sameS [({ data := #[98] } : ByteArray)] [{ data := #[98] }] = true by decide +kernel] at CS
  clear hown hs hb s3 CC
  go_wp2_with fail
  refine CS.out.mono ?_
  rintro _ w4 ⟨rfl, n, rfl⟩
  go_wp2
  go_ret
  exact ⟨by simp, below_drewN (HB4.out.alloc HB4.out.size _) _⟩
end Go.Proofs.YtjfnpklknehiiaaDoor
