/-
  The contract of ref6.Get.
-/
import Derived.Test.YtdffmkbcjnonaaaValGet
import Derived.Test.YtdffmkbcjnonaaaRVGs
namespace Go.Proofs.Ytdffmkbcjnonaaa
open Go.RowKit
set_option maxRecDepth 100000 in
set_option maxHeartbeats 4000000 in
theorem rvalget_any (s : ByteArray) (n : Int) (w : World) (hs : s.size ≤ 9223372036854775807) (h0 : -9223372036854775808 ≤ n) (h1 : n ≤ 9223372036854775807) :
    Calls Try.prog 44 #[.string s, .int .i64 n] w (RetGV w (getV s n)) := by
  have hbel := (Below.refl w.heap.size w).alloc (Nat.le_refl _) (.cells #[.bool false, .int .i64 0, .string { data := #[] }] 30)
  by_cases hneg : n < 0
  · have H := Lib.hid (show getV s n = (aggV false 0 { data := #[] }, 0, 4) by unfold getV; rw [if_pos (.inl hneg)])
    go_enter Try.func44, Try.ntmps44
    go_wp2
    exact bodyPost_ret (v := .tuple #[.agg #[.bool false, .int .i64 0, .string { data := #[] }], .int .i64 0, .int .i64 4]) (by simp [results, Try.results44, go_sem]) rfl (RetGV.mk_ H.out hbel)
  by_cases hbig : (s.size : Int) < n
  · have H := Lib.hid (show getV s n = (aggV false 0 { data := #[] }, 0, 4) by unfold getV; rw [if_pos (.inr hbig)])
    go_enter Try.func44, Try.ntmps44
    go_wp2
    exact bodyPost_ret (v := .tuple #[.agg #[.bool false, .int .i64 0, .string { data := #[] }], .int .i64 0, .int .i64 4]) (by simp [results, Try.results44, go_sem]) rfl (RetGV.mk_ H.out hbel)
  obtain ⟨m, rfl⟩ := Int.eq_ofNat_of_zero_le (Int.not_lt.1 hneg)
  have hor : ¬((m : Int) < 0 ∨ (s.size : Int) < (m : Int)) := by omega
  have t1 : decide ((m : Int) < 0) = false := by simp
  have t2 : decide ((s.size : Int) < (m : Int)) = false := by simp; omega
  have t3 : decide (s.size < m) = false := by simp; omega
  by_cases hend : m = s.size
  · have H := Lib.hid (show getV s m = (aggV false 0 { data := #[] }, 0, 10) by unfold getV; rw [if_neg hor, if_pos (by omega)])
    have t4 : ((m : Int) == (s.size : Int)) = true := by simp; omega
    clear hneg hbig hor hend
    go_enter Try.func44, Try.ntmps44
    go_wp2
    exact bodyPost_ret (v := .tuple #[.agg #[.bool false, .int .i64 0, .string { data := #[] }], .int .i64 0, .int .i64 10]) (by simp [results, Try.results44, go_sem]) rfl (RetGV.mk_ H.out hbel)
  have hlt : m < s.size := by omega
  have t4 : ((m : Int) == (s.size : Int)) = false := by simp; omega
  have hb := s[m].toNat_lt
  have hget : s.data.toList.getD (m : Int).toNat 0 = s[m] := by
    rw [Int.toNat_natCast, List.getD_eq_getElem?_getD, get_data s m hlt]; rfl
  by_cases h1b : 1 < s[m].toNat
  · have H := Lib.hid (show getV s m = (aggV false 0 { data := #[] }, 0, 2) by unfold getV; rw [if_neg hor, if_neg (by omega), hget, if_pos h1b])
    have t6 : ((s[m].toNat : Int) == 0) = false := by simp; omega
    have t7 : ((s[m].toNat : Int) != 1) = true := by simp; omega
    clear hneg hbig hor hend hget
    go_enter Try.func44, Try.ntmps44
    go_wp2
    exact bodyPost_ret (v := .tuple #[.agg #[.bool false, .int .i64 0, .string { data := #[] }], .int .i64 0, .int .i64 2]) (by simp [results, Try.results44, go_sem]) rfl (RetGV.mk_ H.out hbel)
  have h1c : (s[m].toNat : Int) ≤ 1 := by omega
  by_cases hz : s[m].toNat = 0
  · have H := Lib.hid (show getV s m = (aggV true 0 { data := #[] }, (m : Int) + 1, 0) by unfold getV; rw [if_neg hor, if_neg (by omega), hget, if_neg h1b, if_pos hz])
    have t5 : ((s[m].toNat : Int) == 0) = true := by simp [hz]
    clear hneg hbig hor hend hget hz
    go_enter Try.func44, Try.ntmps44
    go_wp2
    exact bodyPost_ret (v := .tuple #[.agg #[.bool true, .int .i64 0, .string { data := #[] }], .int .i64 (m + 1), .int .i64 0]) (by simp [results, Try.results44, go_sem]) rfl (RetGV.mk_ H.out ((Below.refl _ _).alloc (Nat.le_refl _) _))
  have t5 : ((s[m].toNat : Int) == 0) = false := by simp; omega
  have t7 : ((s[m].toNat : Int) != 1) = false := by simp; omega
  obtain ⟨v, p, e, hr, hv, hp, hE⟩ := vgetAt_ok s.data.toList ((m : Int) + 1)
  have hsz : s.data.toList.length = s.size := by rw [Array.length_toList]; rfl
  have C1 := Lib.hid (fun X => by have := rvget_any s ((m : Int) + 1) X hs (by omega) (by omega); rw [hr] at this; exact this)
  by_cases he : e = 0
  · subst he
    obtain ⟨hp1, hp2, hp3⟩ := hp rfl
    obtain ⟨u, q, f, hr2, hu, hq, hF⟩ := vgetAt_ok s.data.toList p
    have C2 := Lib.hid (fun X => by have := rvget_any s p X hs (by omega) (by omega); rw [hr2] at this; exact this)
    by_cases hf : f = 0
    · subst hf
      obtain ⟨hq1, hq2, hq3⟩ := hq rfl
      obtain ⟨p', rfl⟩ := Int.eq_ofNat_of_zero_le (show 0 ≤ p by omega)
      obtain ⟨q', rfl⟩ := Int.eq_ofNat_of_zero_le (show 0 ≤ q by omega)
      by_cases hlong : (s.size : Int) - q' < u
      · have H := Lib.hid (show getV s m = (aggV false 0 { data := #[] }, 0, 10) by unfold getV; rw [if_neg hor, if_neg (by omega), hget, if_neg h1b, if_neg hz, hr]; simp [hr2]; omega)
        clear hneg hbig hor hend hget hz
        go_enter Try.func44, Try.ntmps44
        go_wp2_with fail
        refine (C1.out _).mono ?_
        rintro _ _ ⟨rfl, rfl⟩
        go_wp2_with fail
        refine (C2.out _).mono ?_
        rintro _ _ ⟨rfl, rfl⟩
        go_wp2
        exact bodyPost_ret (v := .tuple #[.agg #[.bool false, .int .i64 0, .string { data := #[] }], .int .i64 0, .int .i64 10]) (by simp [results, Try.results44, go_sem]) rfl (RetGV.mk_ H.out hbel)
      · exact rvalget_ok s m v p' u q' w hs hlt h1b hz hv hr hr2 (by omega) (by omega) hlong
    · have H := Lib.hid (show getV s m = (aggV false 0 { data := #[] }, 0, f) by unfold getV; rw [if_neg hor, if_neg (by omega), hget, if_neg h1b, if_neg hz, hr]; simp [hr2, hf])
      have t6 : (f != 0) = true := by simp [hf]
      clear hneg hbig hor hend hget hz hf
      go_enter Try.func44, Try.ntmps44
      go_wp2_with fail
      refine (C1.out _).mono ?_
      rintro _ _ ⟨rfl, rfl⟩
      go_wp2_with fail
      refine (C2.out _).mono ?_
      rintro _ _ ⟨rfl, rfl⟩
      go_wp2
      exact bodyPost_ret (v := .tuple #[.agg #[.bool false, .int .i64 0, .string { data := #[] }], .int .i64 0, .int .i64 f]) (by simp [results, Try.results44, go_sem]) rfl (RetGV.mk_ H.out hbel)
  · have H := Lib.hid (show getV s m = (aggV false 0 { data := #[] }, 0, e) by unfold getV; rw [if_neg hor, if_neg (by omega), hget, if_neg h1b, if_neg hz, hr]; simp [he])
    have t6 : (e != 0) = true := by simp [he]
    clear hneg hbig hor hend hget hz he
    go_enter Try.func44, Try.ntmps44
    go_wp2_with fail
    refine (C1.out _).mono ?_
    rintro _ _ ⟨rfl, rfl⟩
    go_wp2
    exact bodyPost_ret (v := .tuple #[.agg #[.bool false, .int .i64 0, .string { data := #[] }], .int .i64 0, .int .i64 e]) (by simp [results, Try.results44, go_sem]) rfl (RetGV.mk_ H.out hbel)
end Go.Proofs.Ytdffmkbcjnonaaa
