/-
  The contract of ref6.Get where it succeeds.
-/
import Derived.Test.YtdffmkbcjnonaaaValGet
import Derived.Test.YtdffmkbcjnonaaaRVarGet
import Derived.IntWalk
namespace Go.Proofs.Ytdffmkbcjnonaaa
open Go.RowKit
set_option maxRecDepth 100000 in
set_option maxHeartbeats 4000000 in
theorem rvalget_ok (s : ByteArray) (m v p' u q' : Nat) (w : World) (hs : s.size ≤ 9223372036854775807) (hlt : m < s.size) (h1b : ¬1 < s[m].toNat) (hz : ¬s[m].toNat = 0)
    (hv : v < 18446744073709551616) (hr : vgetAt s.data.toList ((m : Int) + 1) = ((v : Int), (p' : Int), 0)) (hr2 : vgetAt s.data.toList (p' : Int) = ((u : Int), (q' : Int), 0))
    (hp : m + 1 ≤ p' ∧ p' ≤ s.size) (hq : p' ≤ q' ∧ q' ≤ s.size) (hlong : ¬(s.size : Int) - q' < u) :
    Calls Try.prog 44 #[.string s, .int .i64 m] w (RetGV w (getV s m)) := by
  have hqu : q' + u ≤ s.size := by omega
  have hb := s[m].toNat_lt
  have hor : ¬((m : Int) < 0 ∨ (s.size : Int) < (m : Int)) := by omega
  have hget : s.data.toList.getD (m : Int).toNat 0 = s[m] := by
    rw [Int.toNat_natCast, List.getD_eq_getElem?_getD, get_data s m hlt]; rfl
  have t1 : decide ((m : Int) < 0) = false := by simp
  have t2 : decide ((s.size : Int) < (m : Int)) = false := by simp; omega
  have t3 : decide (s.size < m) = false := by simp; omega
  have t4 : ((m : Int) == (s.size : Int)) = false := by simp; omega
  have t5 : ((s[m].toNat : Int) == 0) = false := by simp; omega
  have t7 : ((s[m].toNat : Int) != 1) = false := by simp; omega
  have H := Lib.hid (show getV s m = (aggV false (Lib.unzigzag v) (s.extract q' (q' + u)), (q' : Int) + u, 0) by
    have e4 : ((q' : Int) + u).toNat = q' + u := by omega
    unfold getV; rw [if_neg hor, if_neg (by omega), hget, if_neg h1b, if_neg hz, hr]; simp [hr2, hlong, e4])
  have C1 := Lib.hid (fun X => by have := rvget_any s ((m : Int) + 1) X hs (by omega) (by omega); rw [hr] at this; exact this)
  have C2 := Lib.hid (fun X => by have := rvget_any s p' X hs (by omega) (by omega); rw [hr2] at this; exact this)
  have CZ := Lib.hid (fun X => rzag_any v hv X)
  clear hor hget hz hr hr2
  go_enter Try.func44, Try.ntmps44
  go_wp2_with fail
  refine (C1.out _).mono ?_
  rintro _ _ ⟨rfl, rfl⟩
  go_wp2_with fail
  refine (C2.out _).mono ?_
  rintro _ _ ⟨rfl, rfl⟩
  go_wp2_with fail
  have hw1 : IntKind.i64.wrap (u : Int) = (u : Int) := IntWalk.i64_in _ (by omega)
  have hw2 : IntKind.i64.wrap ((q' : Int) + (u : Int)) = (q' : Int) + (u : Int) := IntWalk.i64_in _ (by omega)
  have hw5 : 0 ≤ (q' : Int) + (u : Int) := by omega
  have hw6 : ((q' : Int) + (u : Int)).toNat = q' + u := by omega
  go_region_with (first
    | (go_at_call 64; refine (CZ.out _).mono ?_; rintro _ _ ⟨rfl, rfl⟩))
  all_goals
    go_wp2
    refine bodyPost_ret (v := .tuple #[.agg #[.bool false, .int .i64 (Lib.unzigzag v), .string (s.extract q' (q' + u))], .int .i64 (q' + u), .int .i64 0]) ?_ ?_ ?_
    · simp [results, Try.results44, go_sem]
    · rfl
    · refine RetGV.mk_ H.out ?_
      exact ((Below.refl _ _).alloc (Nat.le_refl _) _).drew
end Go.Proofs.Ytdffmkbcjnonaaa
