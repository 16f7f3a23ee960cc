/-
  The contracts of value.Check and ref6.Check.
-/
import Derived.Test.YtjnamjkdjcndiaaDoorBase
namespace Go.Proofs.YtjnamjkdjcndiaaDoor
open Go.RowKit
set_option linter.unusedSimpArgs false
set_option maxHeartbeats 4000000 in
theorem vcheck_any (sc : ByteArray) (t k : Int) (cn : Bool) (nul : Bool) (n : Int) (s : ByteArray) (w : World) (hs : s.size ≤ 9223372036854775807) :
    Calls Tryd.prog 40 #[.agg #[.string sc, .int .i64 t, .int .i64 k, .bool cn], .agg #[.bool nul, .int .i64 n, .string s]] w (RetN w (checkV t cn nul n s)) := by
  have hb := ((Below.refl w.heap.size w).alloc (Nat.le_refl _) (.cells #[.string sc, .int .i64 t, .int .i64 k, .bool cn] 47)).alloc (by simp) (.cells #[.bool nul, .int .i64 n, .string s] 33)
  by_cases ht : t < 1 ∨ 5 < t
  · rcases ht with ht | ht
    · have H := Lib.hid (show checkV t cn nul n s = 1 by simp [checkV, ht])
      go_enter Tryd.func40, Tryd.ntmps40
      go_wp2_with fail
      refine (known_any _ false (by first | (simp; done) | (simp; omega)) _).mono ?_
      rintro e w1 ⟨rfl, rfl⟩
      go_wp2
      go_ret
      exact RetN.mk_ H.out hb
    · have H := Lib.hid (show checkV t cn nul n s = 1 by simp [checkV, ht])
      go_enter Tryd.func40, Tryd.ntmps40
      go_wp2_with fail
      refine (known_any _ false (by first | (simp; done) | (simp; omega)) _).mono ?_
      rintro e w1 ⟨rfl, rfl⟩
      go_wp2
      go_ret
      exact RetN.mk_ H.out hb
  have ht1 : ¬ t < 1 := by omega
  have ht2 : ¬ 5 < t := by omega
  clear ht
  cases nul
  · by_cases h3 : t = 3
    · have q1 : (t == 3) = true := by simpa using h3
      have q2 : (t != 3) = false := by simpa using h3
      by_cases hn : n = 0
      · have z0 : (n != 0) = false := by simpa using hn
        have z1 : (n == 0) = true := by simpa using hn
        by_cases hp : permB t n s = true
        · have HP := Lib.hid hp
          have H := Lib.hid (show checkV t cn false n s = 0 by simp [checkV, ht1, ht2, h3, hn, show permB 3 0 s = true by rw [← h3, ← hn]; exact hp])
          clear h3 hn hp
          go_enter Tryd.func40, Tryd.ntmps40
          go_wp2_with fail
          refine (known_any _ true (by first | (simp; done) | (simp; omega)) _).mono ?_
          rintro e w1 ⟨rfl, rfl⟩
          go_wp2_with fail
          refine (perm_any _ _ _ _ _ hs).mono ?_
          rw [HP.out]
          rintro e w2 ⟨rfl, hb3⟩
          go_wp2
          go_ret
          exact RetN.mk_ H.out (bst hb hb3)
        · have hp : permB t n s = false := by simpa using hp
          have HP := Lib.hid hp
          have H := Lib.hid (show checkV t cn false n s = 4 by simp [checkV, ht1, ht2, h3, hn, show permB 3 0 s = false by rw [← h3, ← hn]; exact hp])
          clear h3 hn hp
          go_enter Tryd.func40, Tryd.ntmps40
          go_wp2_with fail
          refine (known_any _ true (by first | (simp; done) | (simp; omega)) _).mono ?_
          rintro e w1 ⟨rfl, rfl⟩
          go_wp2_with fail
          refine (perm_any _ _ _ _ _ hs).mono ?_
          rw [HP.out]
          rintro e w2 ⟨rfl, hb3⟩
          go_wp2
          go_ret
          exact RetN.mk_ H.out (bst hb hb3)
      · have z0 : (n != 0) = true := by simpa using hn
        have z1 : (n == 0) = false := by simpa using hn
        have H := Lib.hid (show checkV t cn false n s = 11 by simp [checkV, ht1, ht2, h3, hn])
        clear h3 hn
        go_enter Tryd.func40, Tryd.ntmps40
        go_wp2_with fail
        refine (known_any _ true (by first | (simp; done) | (simp; omega)) _).mono ?_
        rintro e w1 ⟨rfl, rfl⟩
        go_wp2
        go_ret
        exact RetN.mk_ H.out hb
    · have q1 : (t == 3) = false := by simpa using h3
      have q2 : (t != 3) = true := by simpa using h3
      by_cases hs0 : s.size = 0
      · have e0 : s.toList.isEmpty = true := by rw [toList_nil hs0]; rfl
        have e1 : s.toList = [] := toList_nil hs0
        by_cases hp : permB t n s = true
        · have HP := Lib.hid hp
          have H := Lib.hid (show checkV t cn false n s = 0 by simp [checkV, ht1, ht2, h3, hs0, hp])
          clear h3 hs0 hp
          go_enter Tryd.func40, Tryd.ntmps40
          go_wp2_with fail
          refine (known_any _ true (by first | (simp; done) | (simp; omega)) _).mono ?_
          rintro e w1 ⟨rfl, rfl⟩
          go_wp2_with fail
          refine (perm_any _ _ _ _ _ hs).mono ?_
          rw [HP.out]
          rintro e w2 ⟨rfl, hb3⟩
          go_wp2
          go_ret
          exact RetN.mk_ H.out (bst hb hb3)
        · have hp : permB t n s = false := by simpa using hp
          have HP := Lib.hid hp
          have H := Lib.hid (show checkV t cn false n s = 4 by simp [checkV, ht1, ht2, h3, hs0, hp])
          clear h3 hs0 hp
          go_enter Tryd.func40, Tryd.ntmps40
          go_wp2_with fail
          refine (known_any _ true (by first | (simp; done) | (simp; omega)) _).mono ?_
          rintro e w1 ⟨rfl, rfl⟩
          go_wp2_with fail
          refine (perm_any _ _ _ _ _ hs).mono ?_
          rw [HP.out]
          rintro e w2 ⟨rfl, hb3⟩
          go_wp2
          go_ret
          exact RetN.mk_ H.out (bst hb hb3)
      · have e0 : s.toList.isEmpty = false := toList_ne (by omega)
        have H := Lib.hid (show checkV t cn false n s = 11 by simp [checkV, ht1, ht2, h3, hs0])
        clear h3 hs0
        go_enter Tryd.func40, Tryd.ntmps40
        go_wp2_with fail
        refine (known_any _ true (by first | (simp; done) | (simp; omega)) _).mono ?_
        rintro e w1 ⟨rfl, rfl⟩
        go_wp2
        go_ret
        exact RetN.mk_ H.out hb
  · by_cases hs0 : s.size = 0
    · have e0 : s.toList.isEmpty = true := by rw [toList_nil hs0]; rfl
      have e1 : s.toList = [] := toList_nil hs0
      by_cases hn : n = 0
      · have z0 : (n != 0) = false := by simpa using hn
        have z1 : (n == 0) = true := by simpa using hn
        cases cn
        · have H := Lib.hid (show checkV t false true n s = 12 by simp [checkV, ht1, ht2, hs0, hn])
          clear hs0 hn
          go_enter Tryd.func40, Tryd.ntmps40
          go_wp2_with fail
          refine (known_any _ true (by first | (simp; done) | (simp; omega)) _).mono ?_
          rintro e w1 ⟨rfl, rfl⟩
          go_wp2
          go_ret
          exact RetN.mk_ H.out hb
        · have H := Lib.hid (show checkV t true true n s = 0 by simp [checkV, ht1, ht2, hs0, hn])
          clear hs0 hn
          go_enter Tryd.func40, Tryd.ntmps40
          go_wp2_with fail
          refine (known_any _ true (by first | (simp; done) | (simp; omega)) _).mono ?_
          rintro e w1 ⟨rfl, rfl⟩
          go_wp2
          go_ret
          exact RetN.mk_ H.out hb
      · have z0 : (n != 0) = true := by simpa using hn
        have z1 : (n == 0) = false := by simpa using hn
        have H := Lib.hid (show checkV t cn true n s = 11 by simp [checkV, ht1, ht2, hs0, hn])
        clear hs0 hn
        go_enter Tryd.func40, Tryd.ntmps40
        go_wp2_with fail
        refine (known_any _ true (by first | (simp; done) | (simp; omega)) _).mono ?_
        rintro e w1 ⟨rfl, rfl⟩
        go_wp2
        go_ret
        exact RetN.mk_ H.out hb
    · have e0 : s.toList.isEmpty = false := toList_ne (by omega)
      have H := Lib.hid (show checkV t cn true n s = 11 by simp [checkV, ht1, ht2, hs0])
      clear hs0
      go_enter Tryd.func40, Tryd.ntmps40
      go_wp2_with fail
      refine (known_any _ true (by first | (simp; done) | (simp; omega)) _).mono ?_
      rintro e w1 ⟨rfl, rfl⟩
      go_wp2
      go_ret
      exact RetN.mk_ H.out hb
set_option maxHeartbeats 4000000 in
theorem rvcheck_any (sc : ByteArray) (t k : Int) (cn : Bool) (nul : Bool) (n : Int) (s : ByteArray) (w : World) (hs : s.size ≤ 9223372036854775807) :
    Calls Tryd.prog 47 #[.agg #[.string sc, .int .i64 t, .int .i64 k, .bool cn], .agg #[.bool nul, .int .i64 n, .string s]] w (RetN w (checkV t cn nul n s)) := by
  have hb := ((Below.refl w.heap.size w).alloc (Nat.le_refl _) (.cells #[.string sc, .int .i64 t, .int .i64 k, .bool cn] 47)).alloc (by simp) (.cells #[.bool nul, .int .i64 n, .string s] 33)
  by_cases ht : t < 1 ∨ 5 < t
  · rcases ht with ht | ht
    · have H := Lib.hid (show checkV t cn nul n s = 1 by simp [checkV, ht])
      go_enter Tryd.func47, Tryd.ntmps47
      go_wp2_with fail
      refine (typed_any _ false (by first | (simp; done) | (simp; omega)) _).mono ?_
      rintro e w1 ⟨rfl, rfl⟩
      go_wp2
      go_ret
      exact RetN.mk_ H.out hb
    · have H := Lib.hid (show checkV t cn nul n s = 1 by simp [checkV, ht])
      go_enter Tryd.func47, Tryd.ntmps47
      go_wp2_with fail
      refine (typed_any _ false (by first | (simp; done) | (simp; omega)) _).mono ?_
      rintro e w1 ⟨rfl, rfl⟩
      go_wp2
      go_ret
      exact RetN.mk_ H.out hb
  have ht1 : ¬ t < 1 := by omega
  have ht2 : ¬ 5 < t := by omega
  clear ht
  cases nul
  · by_cases hs0 : s.size = 0
    · have e0 : s.toList.isEmpty = true := by rw [toList_nil hs0]; rfl
      have e1 : s.toList = [] := toList_nil hs0
      have ht : t = 1 ∨ t = 2 ∨ t = 3 ∨ t = 4 ∨ t = 5 := by omega
      rcases ht with rfl | rfl | rfl | rfl | rfl
      · have H := Lib.hid (show checkV 1 cn false n s = 0 by simp [checkV, permB, hs0])
        clear hs0
        go_enter Tryd.func47, Tryd.ntmps47
        go_wp2_with fail
        refine (typed_any _ true (by first | (simp; done) | (simp; omega)) _).mono ?_
        rintro e w1 ⟨rfl, rfl⟩
        go_wp2
        go_ret
        exact RetN.mk_ H.out hb
      · by_cases hn : n = 0
        · have z0 : (n != 0) = false := by simpa using hn
          have z1 : (n == 0) = true := by simpa using hn
          have H := Lib.hid (show checkV 2 cn false n s = 0 by simp [checkV, permB, hs0, hn])
          clear hs0 hn
          go_enter Tryd.func47, Tryd.ntmps47
          go_wp2_with fail
          refine (typed_any _ true (by first | (simp; done) | (simp; omega)) _).mono ?_
          rintro e w1 ⟨rfl, rfl⟩
          go_wp2
          go_ret
          exact RetN.mk_ H.out hb
        · have z0 : (n != 0) = true := by simpa using hn
          have z1 : (n == 0) = false := by simpa using hn
          by_cases hn1 : n = 1
          · have z2 : (n == 1) = true := by simpa using hn1
            have H := Lib.hid (show checkV 2 cn false n s = 0 by simp [checkV, permB, hs0, hn1])
            clear hs0 hn hn1
            go_enter Tryd.func47, Tryd.ntmps47
            go_wp2_with fail
            refine (typed_any _ true (by first | (simp; done) | (simp; omega)) _).mono ?_
            rintro e w1 ⟨rfl, rfl⟩
            go_wp2
            go_ret
            exact RetN.mk_ H.out hb
          · have z2 : (n == 1) = false := by simpa using hn1
            have H := Lib.hid (show checkV 2 cn false n s = 4 by simp [checkV, permB, hs0, hn, hn1])
            clear hs0 hn hn1
            go_enter Tryd.func47, Tryd.ntmps47
            go_wp2_with fail
            refine (typed_any _ true (by first | (simp; done) | (simp; omega)) _).mono ?_
            rintro e w1 ⟨rfl, rfl⟩
            go_wp2
            go_ret
            exact RetN.mk_ H.out hb
      · by_cases hn : n = 0
        · have z0 : (n != 0) = false := by simpa using hn
          have z1 : (n == 0) = true := by simpa using hn
          have hd : decide ((s.size : Int) ≤ 64) = true := by simp; omega
          have H := Lib.hid (show checkV 3 cn false n s = 0 by simp [checkV, permB, hs0, hn])
          clear hs0 hn
          go_enter Tryd.func47, Tryd.ntmps47
          go_wp2_with fail
          refine (typed_any _ true (by first | (simp; done) | (simp; omega)) _).mono ?_
          rintro e w1 ⟨rfl, rfl⟩
          go_wp2
          go_ret
          exact RetN.mk_ H.out hb
        · have z0 : (n != 0) = true := by simpa using hn
          have z1 : (n == 0) = false := by simpa using hn
          have H := Lib.hid (show checkV 3 cn false n s = 11 by simp [checkV, permB, hs0, hn])
          clear hs0 hn
          go_enter Tryd.func47, Tryd.ntmps47
          go_wp2_with fail
          refine (typed_any _ true (by first | (simp; done) | (simp; omega)) _).mono ?_
          rintro e w1 ⟨rfl, rfl⟩
          go_wp2
          go_ret
          exact RetN.mk_ H.out hb
      · by_cases r1 : n < -719162
        · have H := Lib.hid (show checkV 4 cn false n s = 4 by simp [checkV, permB, hs0, show ¬ (-719162 ≤ n ∧ n ≤ 2932896) by omega])
          clear hs0
          go_enter Tryd.func47, Tryd.ntmps47
          go_wp2_with fail
          refine (typed_any _ true (by first | (simp; done) | (simp; omega)) _).mono ?_
          rintro e w1 ⟨rfl, rfl⟩
          go_wp2
          go_ret
          exact RetN.mk_ H.out hb
        by_cases r2 : 2932896 < n
        · have hd : decide (n ≤ 2932896) = false := by simp; omega
          have H := Lib.hid (show checkV 4 cn false n s = 4 by simp [checkV, permB, hs0, show ¬ (-719162 ≤ n ∧ n ≤ 2932896) by omega])
          clear hs0
          go_enter Tryd.func47, Tryd.ntmps47
          go_wp2_with fail
          refine (typed_any _ true (by first | (simp; done) | (simp; omega)) _).mono ?_
          rintro e w1 ⟨rfl, rfl⟩
          go_wp2
          go_ret
          exact RetN.mk_ H.out hb
        · have hd : decide (n ≤ 2932896) = true := by simp; omega
          have H := Lib.hid (show checkV 4 cn false n s = 0 by simp [checkV, permB, hs0, show (-719162 ≤ n ∧ n ≤ 2932896) by omega])
          clear hs0
          go_enter Tryd.func47, Tryd.ntmps47
          go_wp2_with fail
          refine (typed_any _ true (by first | (simp; done) | (simp; omega)) _).mono ?_
          rintro e w1 ⟨rfl, rfl⟩
          go_wp2
          go_ret
          exact RetN.mk_ H.out hb
      · by_cases r1 : n < -999999999999999999
        · have H := Lib.hid (show checkV 5 cn false n s = 4 by simp [checkV, permB, hs0, show ¬ (-999999999999999999 ≤ n ∧ n ≤ 999999999999999999) by omega])
          clear hs0
          go_enter Tryd.func47, Tryd.ntmps47
          go_wp2_with fail
          refine (typed_any _ true (by first | (simp; done) | (simp; omega)) _).mono ?_
          rintro e w1 ⟨rfl, rfl⟩
          go_wp2
          go_ret
          exact RetN.mk_ H.out hb
        by_cases r2 : 999999999999999999 < n
        · have hd : decide (n ≤ 999999999999999999) = false := by simp; omega
          have H := Lib.hid (show checkV 5 cn false n s = 4 by simp [checkV, permB, hs0, show ¬ (-999999999999999999 ≤ n ∧ n ≤ 999999999999999999) by omega])
          clear hs0
          go_enter Tryd.func47, Tryd.ntmps47
          go_wp2_with fail
          refine (typed_any _ true (by first | (simp; done) | (simp; omega)) _).mono ?_
          rintro e w1 ⟨rfl, rfl⟩
          go_wp2
          go_ret
          exact RetN.mk_ H.out hb
        · have hd : decide (n ≤ 999999999999999999) = true := by simp; omega
          have H := Lib.hid (show checkV 5 cn false n s = 0 by simp [checkV, permB, hs0, show (-999999999999999999 ≤ n ∧ n ≤ 999999999999999999) by omega])
          clear hs0
          go_enter Tryd.func47, Tryd.ntmps47
          go_wp2_with fail
          refine (typed_any _ true (by first | (simp; done) | (simp; omega)) _).mono ?_
          rintro e w1 ⟨rfl, rfl⟩
          go_wp2
          go_ret
          exact RetN.mk_ H.out hb
    · have e0 : s.toList.isEmpty = false := toList_ne (by omega)
      by_cases h3 : t = 3
      · subst h3
        by_cases hn : n = 0
        · have z0 : (n != 0) = false := by simpa using hn
          have z1 : (n == 0) = true := by simpa using hn
          by_cases h64 : s.size ≤ 64
          · have hd : decide ((s.size : Int) ≤ 64) = true := by simp; omega
            have H := Lib.hid (show checkV 3 cn false n s = 0 by simp [checkV, permB, hs0, hn, h64])
            clear hs0 hn
            go_enter Tryd.func47, Tryd.ntmps47
            go_wp2_with fail
            refine (typed_any _ true (by first | (simp; done) | (simp; omega)) _).mono ?_
            rintro e w1 ⟨rfl, rfl⟩
            go_wp2
            go_ret
            exact RetN.mk_ H.out hb
          · have hd : decide ((s.size : Int) ≤ 64) = false := by simp; omega
            have H := Lib.hid (show checkV 3 cn false n s = 4 by simp [checkV, permB, hs0, hn, h64])
            clear hs0 hn
            go_enter Tryd.func47, Tryd.ntmps47
            go_wp2_with fail
            refine (typed_any _ true (by first | (simp; done) | (simp; omega)) _).mono ?_
            rintro e w1 ⟨rfl, rfl⟩
            go_wp2
            go_ret
            exact RetN.mk_ H.out hb
        · have z0 : (n != 0) = true := by simpa using hn
          have z1 : (n == 0) = false := by simpa using hn
          have H := Lib.hid (show checkV 3 cn false n s = 11 by simp [checkV, permB, hs0, hn])
          clear hs0 hn
          go_enter Tryd.func47, Tryd.ntmps47
          go_wp2_with fail
          refine (typed_any _ true (by first | (simp; done) | (simp; omega)) _).mono ?_
          rintro e w1 ⟨rfl, rfl⟩
          go_wp2
          go_ret
          exact RetN.mk_ H.out hb
      · have q1 : (t == 3) = false := by simpa using h3
        have q2 : (t != 3) = true := by simpa using h3
        have H := Lib.hid (show checkV t cn false n s = 11 by simp [checkV, ht1, ht2, h3, hs0])
        clear h3 hs0
        go_enter Tryd.func47, Tryd.ntmps47
        go_wp2_with fail
        refine (typed_any _ true (by first | (simp; done) | (simp; omega)) _).mono ?_
        rintro e w1 ⟨rfl, rfl⟩
        go_wp2
        go_ret
        exact RetN.mk_ H.out hb
  · by_cases hs0 : s.size = 0
    · have e0 : s.toList.isEmpty = true := by rw [toList_nil hs0]; rfl
      have e1 : s.toList = [] := toList_nil hs0
      by_cases hn : n = 0
      · have z0 : (n != 0) = false := by simpa using hn
        have z1 : (n == 0) = true := by simpa using hn
        cases cn
        · have H := Lib.hid (show checkV t false true n s = 12 by simp [checkV, ht1, ht2, hs0, hn])
          clear hs0 hn
          go_enter Tryd.func47, Tryd.ntmps47
          go_wp2_with fail
          refine (typed_any _ true (by first | (simp; done) | (simp; omega)) _).mono ?_
          rintro e w1 ⟨rfl, rfl⟩
          go_wp2
          go_ret
          exact RetN.mk_ H.out hb
        · have H := Lib.hid (show checkV t true true n s = 0 by simp [checkV, ht1, ht2, hs0, hn])
          clear hs0 hn
          go_enter Tryd.func47, Tryd.ntmps47
          go_wp2_with fail
          refine (typed_any _ true (by first | (simp; done) | (simp; omega)) _).mono ?_
          rintro e w1 ⟨rfl, rfl⟩
          go_wp2
          go_ret
          exact RetN.mk_ H.out hb
      · have z0 : (n != 0) = true := by simpa using hn
        have z1 : (n == 0) = false := by simpa using hn
        have H := Lib.hid (show checkV t cn true n s = 11 by simp [checkV, ht1, ht2, hs0, hn])
        clear hs0 hn
        go_enter Tryd.func47, Tryd.ntmps47
        go_wp2_with fail
        refine (typed_any _ true (by first | (simp; done) | (simp; omega)) _).mono ?_
        rintro e w1 ⟨rfl, rfl⟩
        go_wp2
        go_ret
        exact RetN.mk_ H.out hb
    · have e0 : s.toList.isEmpty = false := toList_ne (by omega)
      by_cases hn : n = 0
      · have z0 : (n != 0) = false := by simpa using hn
        have z1 : (n == 0) = true := by simpa using hn
        have H := Lib.hid (show checkV t cn true n s = 11 by simp [checkV, ht1, ht2, hs0, hn])
        clear hs0 hn
        go_enter Tryd.func47, Tryd.ntmps47
        go_wp2_with fail
        refine (typed_any _ true (by first | (simp; done) | (simp; omega)) _).mono ?_
        rintro e w1 ⟨rfl, rfl⟩
        go_wp2
        go_ret
        exact RetN.mk_ H.out hb
      · have z0 : (n != 0) = true := by simpa using hn
        have z1 : (n == 0) = false := by simpa using hn
        have H := Lib.hid (show checkV t cn true n s = 11 by simp [checkV, ht1, ht2, hs0, hn])
        clear hs0 hn
        go_enter Tryd.func47, Tryd.ntmps47
        go_wp2_with fail
        refine (typed_any _ true (by first | (simp; done) | (simp; omega)) _).mono ?_
        rintro e w1 ⟨rfl, rfl⟩
        go_wp2
        go_ret
        exact RetN.mk_ H.out hb
end Go.Proofs.YtjnamjkdjcndiaaDoor
