/-
  The contracts of garbage.Part, Del, Log and of the reference's.
-/
import Derived.Test.YtjfnpklknehiiaaDoorAtoi
import Derived.Test.YtjfnpklknehiiaaDoorRNumber
namespace Go.Proofs.YtjfnpklknehiiaaDoor
open Go.RowKit Go.Sort
/-- The call answers the string l; nothing that was there has turned. -/
def RetSB (w : World) (l : List UInt8) (e : Ending) (w' : World) : Prop := e = .returned (.string ⟨l.toArray⟩) ∧ Below w.heap.size w w'
theorem RetSB.mk_ {w w' : World} {l : List UInt8} {s : ByteArray} (h : s.data.toList = l) (hb : Below w.heap.size w w') : RetSB w l (.returned (.string s)) w' := by
  subst h; exact ⟨rfl, hb⟩
theorem itoa_len (n : Int) (h0 : -9223372036854775808 ≤ n) (h1 : n ≤ 9223372036854775807) : (Lib.itoa n).length ≤ 20 := by
  unfold Lib.itoa
  split
  · rw [List.length_cons]; have := itoa_len64 n.natAbs (by omega); omega
  · have := itoa_len64 n.toNat (by omega); omega
theorem nameL_bad (c : UInt8) {n : Int} (h : ¬(1 ≤ n ∧ n ≤ 2147483647)) : nameL c n = [] := by unfold nameL; rw [if_neg h]
theorem nameL_good (c : UInt8) {n : Int} (h : 1 ≤ n ∧ n ≤ 2147483647) : nameL c n = c :: Lib.itoa n := by unfold nameL; rw [if_pos h]
theorem nameL_len (c : UInt8) (n : Int) : (nameL c n).length ≤ 30 := by
  by_cases h : 1 ≤ n ∧ n ≤ 2147483647
  · rw [nameL_good c h, List.length_cons]; have := itoa_len n (by omega) (by omega); omega
  · rw [nameL_bad c h]; simp
set_option maxRecDepth 100000 in
set_option maxHeartbeats 1000000 in
theorem gname_any (c : UInt8) (n : Int) (w : World) (hE : Tab w) : Calls Tryd.prog 35 #[.string { data := #[c] }, .int .i64 n] w (RetSB w (nameL c n)) := by
  by_cases h : 1 ≤ n ∧ n ≤ 2147483647
  · have HL := Lib.hid (nameL_good c h)
    obtain ⟨h1, h2⟩ := h
    have CI := Lib.hid (Tryd.strconv_Itoa n (by omega) (by omega) w hE)
    have hl := itoa_len n (by omega) (by omega)
    obtain ⟨D, hD⟩ : ∃ D : ByteArray, (⟨(Lib.itoa n).toArray⟩ : ByteArray) = D := ⟨_, rfl⟩
    rw [hD] at CI
    have HD := Lib.hid (show D.data.toList = Lib.itoa n by rw [← hD])
    have hs : D.size ≤ 20 := by rw [← sizeD, HD.out]; exact hl
    clear hD hl hE
    go_enter Tryd.func35, Tryd.ntmps35
    go_wp2_with fail
    refine CI.out.mono ?_
    rintro _ w1 ⟨rfl, dk, os, rfl⟩
    have HB := Lib.hid (below_gd w dk os)
    obtain ⟨W1, hW1⟩ : ∃ W1, W1 = grow (w.drewN dk) os := ⟨_, rfl⟩
    rw [← hW1] at HB ⊢
    clear hW1
    go_wp2
    go_ret
    exact RetSB.mk_ (by rw [ByteArray.data_append, Array.toList_append, HD.out, HL.out]; rfl) HB.out
  · have HL := Lib.hid (nameL_bad c h)
    by_cases h1 : n < 1
    · clear h
      go_enter Tryd.func35, Tryd.ntmps35
      go_wp2
      go_ret
      exact RetSB.mk_ (by rw [HL.out]) (Below.refl _ _)
    · have h2 : 2147483647 < n := by omega
      clear h
      go_enter Tryd.func35, Tryd.ntmps35
      go_wp2
      go_ret
      exact RetSB.mk_ (by rw [HL.out]) (Below.refl _ _)
set_option maxRecDepth 100000 in
set_option maxHeartbeats 1000000 in
theorem rname_any27 (c : UInt8) (n : Int) (w : World) : Calls Tryd.prog 32 #[.string { data := #[c] }, .int .i64 n] w (RetS w (nameL c n)) := by
  by_cases h : 1 ≤ n ∧ n ≤ 2147483647
  · have HL := Lib.hid (nameL_good c h)
    obtain ⟨h1, h2⟩ := h
    have hl := itoa_len n (by omega) (by omega)
    obtain ⟨D, hD⟩ : ∃ D : ByteArray, D.data.toList = Lib.itoa n := ⟨⟨(Lib.itoa n).toArray⟩, rfl⟩
    have CI := Lib.hid (retS_of hD (number6_any n w (by omega) (by omega)))
    have HD := Lib.hid hD
    have hs : D.size ≤ 20 := by rw [← sizeD, hD]; exact hl
    clear hD hl
    go_enter Tryd.func32, Tryd.ntmps32
    go_wp2_with fail
    refine CI.out.mono ?_
    rintro _ _ ⟨rfl, rfl⟩
    go_wp2
    go_ret
    exact RetS.mk_ (by rw [ByteArray.data_append, Array.toList_append, HD.out, HL.out]; rfl)
  · have HL := Lib.hid (nameL_bad c h)
    by_cases h1 : n < 1
    · clear h
      go_enter Tryd.func32, Tryd.ntmps32
      go_wp2
      go_ret
      exact RetS.mk_ (by rw [HL.out])
    · have h2 : 2147483647 < n := by omega
      clear h
      go_enter Tryd.func32, Tryd.ntmps32
      go_wp2
      go_ret
      exact RetS.mk_ (by rw [HL.out])
theorem part_any (n : Int) (w : World) (hE : Tab w) : Calls Tryd.prog 21 #[.int .i64 n] w (RetSB w (nameL 80 n)) := by
  have C := Lib.hid (gname_any 80 n w hE)
  unfold RetSB at *
  go_enter Tryd.func21, Tryd.ntmps21
  go_wp2_with fail
  refine C.out.mono ?_
  rintro _ w1 ⟨rfl, hb⟩
  have HB := Lib.hid hb
  clear hb
  go_wp2
  go_ret
  exact ⟨rfl, HB.out⟩
theorem del_any (n : Int) (w : World) (hE : Tab w) : Calls Tryd.prog 26 #[.int .i64 n] w (RetSB w (nameL 68 n)) := by
  have C := Lib.hid (gname_any 68 n w hE)
  unfold RetSB at *
  go_enter Tryd.func26, Tryd.ntmps26
  go_wp2_with fail
  refine C.out.mono ?_
  rintro _ w1 ⟨rfl, hb⟩
  have HB := Lib.hid hb
  clear hb
  go_wp2
  go_ret
  exact ⟨rfl, HB.out⟩
theorem log_any (n : Int) (w : World) (hE : Tab w) : Calls Tryd.prog 24 #[.int .i64 n] w (RetSB w (nameL 77 n)) := by
  have C := Lib.hid (gname_any 77 n w hE)
  unfold RetSB at *
  go_enter Tryd.func24, Tryd.ntmps24
  go_wp2_with fail
  refine C.out.mono ?_
  rintro _ w1 ⟨rfl, hb⟩
  have HB := Lib.hid hb
  clear hb
  go_wp2
  go_ret
  exact ⟨rfl, HB.out⟩
theorem rpart_any (n : Int) (w : World) : Calls Tryd.prog 13 #[.int .i64 n] w (RetS w (nameL 80 n)) := by
  have C := Lib.hid (rname_any27 80 n w)
  unfold RetS at *
  go_enter Tryd.func13, Tryd.ntmps13
  go_wp2_with fail
  refine C.out.mono ?_
  rintro _ _ ⟨rfl, rfl⟩
  go_wp2
  go_ret
  exact ⟨rfl, rfl⟩
theorem rdel_any (n : Int) (w : World) : Calls Tryd.prog 14 #[.int .i64 n] w (RetS w (nameL 68 n)) := by
  have C := Lib.hid (rname_any27 68 n w)
  unfold RetS at *
  go_enter Tryd.func14, Tryd.ntmps14
  go_wp2_with fail
  refine C.out.mono ?_
  rintro _ _ ⟨rfl, rfl⟩
  go_wp2
  go_ret
  exact ⟨rfl, rfl⟩
theorem rlog_any (n : Int) (w : World) : Calls Tryd.prog 15 #[.int .i64 n] w (RetS w (nameL 77 n)) := by
  have C := Lib.hid (rname_any27 77 n w)
  unfold RetS at *
  go_enter Tryd.func15, Tryd.ntmps15
  go_wp2_with fail
  refine C.out.mono ?_
  rintro _ _ ⟨rfl, rfl⟩
  go_wp2
  go_ret
  exact ⟨rfl, rfl⟩
end Go.Proofs.YtjfnpklknehiiaaDoor
