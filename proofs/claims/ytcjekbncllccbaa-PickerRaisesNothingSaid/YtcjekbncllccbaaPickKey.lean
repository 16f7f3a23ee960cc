/-
  Law 28 in plain Lean: ranks that the statements make are ordered as integers.
-/
import Derived.Test.YtcjekbncllccbaaPickSort
namespace Go.Proofs.Ytcjekbncllccbaa
/-- Ranks of integers whose sequence numbers are 0 to 3. -/
def Rk.low (r : Rk) : Prop := r.null = false ∧ r.s = { data := #[] } ∧ 0 ≤ r.seq ∧ r.seq ≤ 3
def keyR (r : Rk) : Int := 4 * r.n + r.seq
theorem low_eq {r : Rk} (h : r.low) : r = rk0 r.n r.seq := by
  obtain ⟨b, n, s, q⟩ := r
  obtain ⟨h1, h2, _⟩ := h
  simp only at h1 h2
  subst h1 h2
  rfl
theorem cmp_key {a b : Rk} (ha : a.low) (hb : b.low) : (cmpR 1 a b ≤ 0 ↔ keyR a ≤ keyR b) ∧ (cmpR 1 a b < 0 ↔ keyR a < keyR b) ∧ (0 < cmpR 1 a b ↔ keyR b < keyR a) := by
  have e := cmpR_gen a.n a.seq b.n b.seq
  rw [← low_eq ha, ← low_eq hb] at e
  rw [e]
  obtain ⟨_, _, h1, h2⟩ := ha
  obtain ⟨_, _, h3, h4⟩ := hb
  unfold keyR ordI
  split
  · refine ⟨?_, ?_, ?_⟩ <;> constructor <;> intro _ <;> omega
  split
  · refine ⟨?_, ?_, ?_⟩ <;> constructor <;> intro _ <;> omega
  split
  · refine ⟨?_, ?_, ?_⟩ <;> constructor <;> intro _ <;> omega
  split
  · refine ⟨?_, ?_, ?_⟩ <;> constructor <;> intro _ <;> omega
  · refine ⟨?_, ?_, ?_⟩ <;> constructor <;> intro _ <;> omega
end Go.Proofs.Ytcjekbncllccbaa
