/-
  Texts of days in plain Lean: the day of a year, a month and a day; that Parse reads what Format writes.
-/
import Derived.Test.YtgdahafokjdafaaGreatDoorDecPar
import Derived.Test.YtgdahafokjdafaaGreatDoorCal
namespace Go.Proofs.YtgdahafokjdafaaGreatDoor
/-- The number of a day. -/
def daysV (y m d : Int) : Int × Int := if y < 1 ∨ 9999 < y ∨ m < 1 ∨ 12 < m ∨ d < 1 ∨ monL y m < d then (0, 4) else (jan y + cum y (m.toNat - 1) + d - 1, 0)
def pieY (l : List UInt8) : List UInt8 := l.take 4
def pieM (l : List UInt8) : List UInt8 := (l.drop 5).take 2
def pieD (l : List UInt8) : List UInt8 := l.drop 8
def dparV (l : List UInt8) : Int × Int :=
  if l.length ≠ 10 ∨ l.getD 4 0 ≠ 45 ∨ l.getD 7 0 ≠ 45 then (0, 2)
  else if ((pieY l).all digB && (pieM l).all digB && (pieD l).all digB) = false then (0, 2)
  else daysV (valN (pieY l)) (valN (pieM l)) (valN (pieD l))
theorem daysV_civ {n y m d : Int} (h : IsCiv n y m d) : daysV y m d = (n, 0) := by
  obtain ⟨h1, h2, k, rfl, hk, hn, h3, h4⟩ := h
  unfold daysV
  rw [if_neg (by omega), show ((k : Int) + 1).toNat - 1 = k by omega, ← hn]
theorem date_back {n y m d : Int} {Y M D : Nat} (h : IsCiv n y m d) (hy : y = Y) (hm : m = M) (hd : d = D) (hY : Y < 10000) (hM : M < 100) (hD : D < 100) : dparV (dateL Y M D) = (n, 0) := by
  have v4 := digL_val Y 4
  have v2 := digL_val M 2
  have v3 := digL_val D 2
  have a4 := digL_all Y 4
  have a2 := digL_all M 2
  have a3 := digL_all D 2
  have e : dateL Y M D = digL Y 4 ++ [45] ++ digL M 2 ++ [45] ++ digL D 2 := rfl
  rw [e]
  rw [digL_4 Y hY] at v4 a4 ⊢
  rw [digL_2 M hM] at v2 a2 ⊢
  rw [digL_2 D hD] at v3 a3 ⊢
  generalize UInt8.ofNat (48 + Y / 1000 % 10) = y0 at v4 a4 ⊢
  generalize UInt8.ofNat (48 + Y / 100 % 10) = y1 at v4 a4 ⊢
  generalize UInt8.ofNat (48 + Y / 10 % 10) = y2 at v4 a4 ⊢
  generalize UInt8.ofNat (48 + Y % 10) = y3 at v4 a4 ⊢
  generalize UInt8.ofNat (48 + M / 10 % 10) = m0 at v2 a2 ⊢
  generalize UInt8.ofNat (48 + M % 10) = m1 at v2 a2 ⊢
  generalize UInt8.ofNat (48 + D / 10 % 10) = d0 at v3 a3 ⊢
  generalize UInt8.ofNat (48 + D % 10) = d1 at v3 a3 ⊢
  have pY : pieY ([y0, y1, y2, y3] ++ [45] ++ [m0, m1] ++ [45] ++ [d0, d1]) = [y0, y1, y2, y3] := rfl
  have pM : pieM ([y0, y1, y2, y3] ++ [45] ++ [m0, m1] ++ [45] ++ [d0, d1]) = [m0, m1] := rfl
  have pD : pieD ([y0, y1, y2, y3] ++ [45] ++ [m0, m1] ++ [45] ++ [d0, d1]) = [d0, d1] := rfl
  unfold dparV
  rw [if_neg (by rintro (h1 | h1 | h1) <;> exact h1 rfl), pY, pM, pD, a4, a2, a3, if_neg (by decide), v4, v2, v3, ← hy, ← hm, ← hd]
  exact daysV_civ h
end Go.Proofs.YtgdahafokjdafaaGreatDoor
