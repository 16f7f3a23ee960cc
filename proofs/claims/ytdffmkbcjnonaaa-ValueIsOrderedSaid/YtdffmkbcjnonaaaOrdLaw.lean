import Derived.Test.YtdffmkbcjnonaaaCmp
import Derived.Test.YtdffmkbcjnonaaaVGen
namespace Go.Proofs.Ytdffmkbcjnonaaa
theorem ordS_cases (a b : List UInt8) : (a < b ∧ ordS a b = -1 ∧ ordS b a = 1) ∨ (a = b ∧ ordS a b = 0 ∧ ordS b a = 0) ∨ (b < a ∧ ordS a b = 1 ∧ ordS b a = -1) := by
  by_cases h1 : a < b
  · have h2 : ¬ b < a := List.lt_asymm h1
    have h3 : b ≠ a := fun h => List.lt_irrefl a (h ▸ h1)
    exact .inl ⟨h1, by simp [ordS, h1], by simp [ordS, h2, h3]⟩
  · by_cases h2 : b < a
    · have h3 : a ≠ b := fun h => List.lt_irrefl b (by rw [h] at h2; exact h2)
      exact .inr (.inr ⟨h2, by simp [ordS, h1, h3], by simp [ordS, h2]⟩)
    · have h3 : a = b := List.le_antisymm h2 h1
      subst h3
      exact .inr (.inl ⟨rfl, by simp [ordS, h1], by simp [ordS, h1]⟩)
theorem ordI_cases (a b : Int) : (a < b ∧ ordI a b = -1 ∧ ordI b a = 1) ∨ (a = b ∧ ordI a b = 0 ∧ ordI b a = 0) ∨ (b < a ∧ ordI a b = 1 ∧ ordI b a = -1) := by
  unfold ordI
  rcases Int.lt_trichotomy a b with h | h | h
  · exact .inl ⟨h, by simp [h], by rw [if_neg (by omega), if_pos h]⟩
  · subst h; exact .inr (.inl ⟨rfl, by simp, by simp⟩)
  · exact .inr (.inr ⟨h, by rw [if_neg (by omega), if_pos h], by simp [h]⟩)
theorem cmpV_neg (t : Int) (na : Bool) (xa : Int) (sa : ByteArray) (nb : Bool) (xb : Int) (sb : ByteArray) : cmpV t nb xb sb na xa sa = -cmpV t na xa sa nb xb sb := by
  unfold cmpV
  cases na <;> cases nb <;> simp
  split
  · rcases ordS_cases sa.data.toList sb.data.toList with ⟨_, h1, h2⟩ | ⟨_, h1, h2⟩ | ⟨_, h1, h2⟩ <;> rw [h1, h2] <;> rfl
  · rcases ordI_cases xa xb with ⟨_, h1, h2⟩ | ⟨_, h1, h2⟩ | ⟨_, h1, h2⟩ <;> rw [h1, h2] <;> rfl
theorem ordS_trans (a b c : List UInt8) : (ordS a b ≤ 0 → ordS b c ≤ 0 → ordS a c ≤ 0) ∧ (ordS a b = 0 → ordS b c = 0 → ordS a c = 0) := by
  rcases ordS_cases a b with ⟨h1, e1, _⟩ | ⟨h1, e1, _⟩ | ⟨h1, e1, _⟩ <;> rcases ordS_cases b c with ⟨h2, e2, _⟩ | ⟨h2, e2, _⟩ | ⟨h2, e2, _⟩ <;>
    rcases ordS_cases a c with ⟨h3, e3, _⟩ | ⟨h3, e3, _⟩ | ⟨h3, e3, _⟩ <;> rw [e1, e2, e3] <;> first | decide | (exfalso; subst_vars; first | exact List.lt_asymm h3 (List.lt_trans h1 h2) | exact List.lt_asymm h1 h2 | exact List.lt_asymm h1 h3 | exact List.lt_asymm h2 h3 | exact List.lt_irrefl _ h1 | exact List.lt_irrefl _ h2 | exact List.lt_irrefl _ h3)
theorem ordI_trans (a b c : Int) : (ordI a b ≤ 0 → ordI b c ≤ 0 → ordI a c ≤ 0) ∧ (ordI a b = 0 → ordI b c = 0 → ordI a c = 0) := by
  rcases ordI_cases a b with ⟨h1, e1, _⟩ | ⟨h1, e1, _⟩ | ⟨h1, e1, _⟩ <;> rcases ordI_cases b c with ⟨h2, e2, _⟩ | ⟨h2, e2, _⟩ | ⟨h2, e2, _⟩ <;>
    rcases ordI_cases a c with ⟨h3, e3, _⟩ | ⟨h3, e3, _⟩ | ⟨h3, e3, _⟩ <;> rw [e1, e2, e3] <;> first | decide | (exfalso; omega)
theorem cmpV_trans (t : Int) (bA bB bC : Bool) (nA nB nC : Int) (sA sB sC : ByteArray) :
    (cmpV t bA nA sA bB nB sB ≤ 0 → cmpV t bB nB sB bC nC sC ≤ 0 → cmpV t bA nA sA bC nC sC ≤ 0) ∧ (cmpV t bA nA sA bB nB sB = 0 → cmpV t bB nB sB bC nC sC = 0 → cmpV t bA nA sA bC nC sC = 0) := by
  unfold cmpV
  cases bA <;> cases bB <;> cases bC <;> simp
  split
  · exact ordS_trans _ _ _
  · exact ordI_trans _ _ _
theorem cmpV_range (t : Int) (bA bB : Bool) (nA nB : Int) (sA sB : ByteArray) : cmpV t bA nA sA bB nB sB = -1 ∨ cmpV t bA nA sA bB nB sB = 0 ∨ cmpV t bA nA sA bB nB sB = 1 := by
  unfold cmpV
  cases bA <;> cases bB <;> simp
  split
  · rcases ordS_cases sA.data.toList sB.data.toList with ⟨_, h1, _⟩ | ⟨_, h1, _⟩ | ⟨_, h1, _⟩ <;> rw [h1] <;> decide
  · rcases ordI_cases nA nB with ⟨_, h1, _⟩ | ⟨_, h1, _⟩ | ⟨_, h1, _⟩ <;> rw [h1] <;> decide
theorem bytes_of_empty {s : ByteArray} (h : s.size = 0) : s = ByteArray.empty := by
  obtain ⟨⟨l⟩⟩ := s
  cases l with
  | nil => rfl
  | cons a r => simp [ByteArray.size] at h
theorem cmpV_zero {t : Int} {cn bA bB : Bool} {nA nB : Int} {sA sB : ByteArray} (hA : ValOk t cn bA nA sA) (hB : ValOk t cn bB nB sB) :
    cmpV t bA nA sA bB nB sB = 0 ↔ bA = bB ∧ nA = nB ∧ sA = sB := by
  obtain ⟨a1, a2, _⟩ := hA
  obtain ⟨b1, b2, _⟩ := hB
  unfold cmpV
  cases bA <;> cases bB <;> simp
  · obtain ⟨a3, a4, _⟩ := a2 rfl
    obtain ⟨b3, b4, _⟩ := b2 rfl
    split
    · next ht =>
      obtain ⟨a5, _⟩ := a3 ht
      obtain ⟨b5, _⟩ := b3 ht
      subst a5 b5
      constructor
      · intro h
        rcases ordS_cases sA.data.toList sB.data.toList with ⟨_, h1, _⟩ | ⟨h0, h1, _⟩ | ⟨_, h1, _⟩
        · rw [h1] at h; cases h
        · refine ⟨rfl, ?_⟩
          obtain ⟨⟨l⟩⟩ := sA
          obtain ⟨⟨m⟩⟩ := sB
          simp at h0
          rw [h0]
        · rw [h1] at h; cases h
      · rintro ⟨_, rfl⟩
        simp [ordS, List.lt_irrefl]
    · next ht =>
      have a5 := bytes_of_empty (a4 ht)
      have b5 := bytes_of_empty (b4 ht)
      subst a5 b5
      constructor
      · intro h
        rcases ordI_cases nA nB with ⟨_, h1, _⟩ | ⟨h0, h1, _⟩ | ⟨_, h1, _⟩
        · rw [h1] at h; cases h
        · exact ⟨h0, rfl⟩
        · rw [h1] at h; cases h
      · rintro ⟨rfl, _⟩
        simp [ordI]
  · obtain ⟨_, a3, a4⟩ := a1 rfl
    obtain ⟨_, b3, b4⟩ := b1 rfl
    exact ⟨a3.trans b3.symm, (bytes_of_empty a4).trans (bytes_of_empty b4).symm⟩
theorem ord_cases {t : Int} {cn bA bB bC : Bool} {nA nB nC : Int} {sA sB sC : ByteArray} (hA : ValOk t cn bA nA sA) (hB : ValOk t cn bB nB sB) (_hC : ValOk t cn bC nC sC)
    {p q r : Int} (hp : p = cmpV t bA nA sA bB nB sB) (hq : q = cmpV t bB nB sB bC nC sC) (hr : r = cmpV t bA nA sA bC nC sC) :
    ((p = -1 ∨ p = 1) ∧ ((bA == bB) = false ∨ ((bA == bB) = true ∧ (nA == nB) = false) ∨ ((bA == bB) = true ∧ (nA == nB) = true ∧ (sA.toList == sB.toList) = false)) ∨
     (p = 0 ∧ (bA == bB) = true ∧ (nA == nB) = true ∧ (sA.toList == sB.toList) = true)) ∧
    ((p = 1) ∨ (p = -1 ∧ decide (q ≤ 0) = false) ∨ (p = -1 ∧ decide (q ≤ 0) = true ∧ decide (0 < r) = false) ∨
     (p = 0 ∧ decide (q ≤ 0) = false ∧ (q == 0) = false) ∨ (p = 0 ∧ decide (q ≤ 0) = true ∧ decide (0 < r) = false ∧ (q == 0) = false) ∨
     (p = 0 ∧ decide (q ≤ 0) = true ∧ decide (0 < r) = false ∧ (q == 0) = true ∧ (r == 0) = true)) := by
  have hz := cmpV_zero hA hB
  obtain ⟨t1, t2⟩ := cmpV_trans t bA bB bC nA nB nC sA sB sC
  have h1 := cmpV_range t bA bB nA nB sA sB
  rw [← hp] at hz t1 t2 h1
  rw [← hq, ← hr] at t1 t2
  simp only [decide_eq_false_iff_not, decide_eq_true_eq, beq_eq_false_iff_ne, beq_iff_eq, ne_eq]
  constructor
  · rcases h1 with h | h | h
    · left
      refine ⟨.inl h, ?_⟩
      have : ¬(bA = bB ∧ nA = nB ∧ sA = sB) := fun hx => by have := hz.2 hx; omega
      have hs : sA.toList = sB.toList → sA = sB := fun hh => by
        rw [ByteArray.toList_eq, ByteArray.toList_eq] at hh
        obtain ⟨⟨l⟩⟩ := sA; obtain ⟨⟨m⟩⟩ := sB; simp at hh; rw [hh]
      by_cases ha : bA = bB <;> by_cases hb : nA = nB <;> by_cases hc : sA.toList = sB.toList <;> simp_all
    · right
      obtain ⟨e1, e2, e3⟩ := hz.1 h
      exact ⟨h, e1, e2, by rw [e3]⟩
    · left
      refine ⟨.inr h, ?_⟩
      have : ¬(bA = bB ∧ nA = nB ∧ sA = sB) := fun hx => by have := hz.2 hx; omega
      have hs : sA.toList = sB.toList → sA = sB := fun hh => by
        rw [ByteArray.toList_eq, ByteArray.toList_eq] at hh
        obtain ⟨⟨l⟩⟩ := sA; obtain ⟨⟨m⟩⟩ := sB; simp at hh; rw [hh]
      by_cases ha : bA = bB <;> by_cases hb : nA = nB <;> by_cases hc : sA.toList = sB.toList <;> simp_all
  · rcases h1 with h | h | h
    · by_cases hq0 : q ≤ 0
      · have := t1 (by omega) hq0; exact .inr (.inr (.inl ⟨h, hq0, by omega⟩))
      · exact .inr (.inl ⟨h, hq0⟩)
    · by_cases hq0 : q ≤ 0
      · have hr0 := t1 (by omega) hq0
        by_cases hq1 : q = 0
        · exact .inr (.inr (.inr (.inr (.inr ⟨h, hq0, by omega, hq1, t2 h hq1⟩))))
        · exact .inr (.inr (.inr (.inr (.inl ⟨h, hq0, by omega, hq1⟩))))
      · exact .inr (.inr (.inr (.inl ⟨h, hq0, by omega⟩)))
    · exact .inl h
end Go.Proofs.Ytdffmkbcjnonaaa
