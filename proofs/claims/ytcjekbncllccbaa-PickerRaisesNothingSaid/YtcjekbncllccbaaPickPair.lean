/-
  Law 28 in plain Lean: the order of pairs of entries.
-/
import Derived.Test.YtcjekbncllccbaaPickMin
import Derived.Test.YtcjekbncllccbaaChkSpec
namespace Go.Proofs.Ytcjekbncllccbaa
def beforeB (t : Int) (a b : Ent) : Bool := decide (cmpR t a.lo b.lo < 0) || (decide (cmpR t a.lo b.lo = 0) && decide (a.id < b.id))
def pairLt (t : Int) (x a : Ent × Ent) : Bool := beforeB t x.1 a.1 || (decide (x.1.id = a.1.id) && beforeB t x.2 a.2)
/-- Entries of which the lower ends are generated ranks. -/
def LowL (l : List Ent) : Prop := ∀ e ∈ l, e.lo.low ∧ e.hi.low
theorem before_key {a b : Ent} (ha : a.lo.low) (hb : b.lo.low) : beforeB 1 a b = true ↔ keyR a.lo < keyR b.lo ∨ keyR a.lo = keyR b.lo ∧ a.id < b.id := by
  obtain ⟨h1, h2, h3⟩ := cmp_key ha hb
  have h0 : cmpR 1 a.lo b.lo = 0 ↔ keyR a.lo = keyR b.lo := by
    constructor
    · intro h; have := h1.1 (by omega); have h4 : ¬ keyR a.lo < keyR b.lo := fun h' => by have := h2.2 h'; omega
      omega
    · intro h
      have h4 := h1.2 (by omega)
      have h5 : ¬ cmpR 1 a.lo b.lo < 0 := fun h' => by have := h2.1 h'; omega
      omega
  unfold beforeB
  simp only [Bool.or_eq_true, Bool.and_eq_true, decide_eq_true_eq, h2, h0]
theorem pair_key {x a : Ent × Ent} (h1 : x.1.lo.low) (h2 : x.2.lo.low) (h3 : a.1.lo.low) (h4 : a.2.lo.low) :
    pairLt 1 x a = true ↔ (keyR x.1.lo < keyR a.1.lo ∨ keyR x.1.lo = keyR a.1.lo ∧ x.1.id < a.1.id) ∨ x.1.id = a.1.id ∧ (keyR x.2.lo < keyR a.2.lo ∨ keyR x.2.lo = keyR a.2.lo ∧ x.2.id < a.2.id) := by
  unfold pairLt
  simp only [Bool.or_eq_true, Bool.and_eq_true, decide_eq_true_eq, before_key h1 h3, before_key h2 h4]
theorem pair_tells {l : List Ent} (ha : Asc l) (hl : LowL l) {L : List (Ent × Ent)} (hL : ∀ p ∈ L, p.1 ∈ l ∧ p.2 ∈ l) : Tells (pairLt 1) L where
  irr := fun a h => by
    obtain ⟨h1, h2⟩ := hL a h
    rw [← Bool.not_eq_true, pair_key (hl _ h1).1 (hl _ h2).1 (hl _ h1).1 (hl _ h2).1]
    omega
  tr := fun a h b h' c h'' h1 h2 => by
    obtain ⟨a1, a2⟩ := hL a h
    obtain ⟨b1, b2⟩ := hL b h'
    obtain ⟨c1, c2⟩ := hL c h''
    rw [pair_key (hl _ a1).1 (hl _ a2).1 (hl _ b1).1 (hl _ b2).1] at h1
    rw [pair_key (hl _ b1).1 (hl _ b2).1 (hl _ c1).1 (hl _ c2).1] at h2
    rw [pair_key (hl _ a1).1 (hl _ a2).1 (hl _ c1).1 (hl _ c2).1]
    have e1 : a.1.id = b.1.id → keyR a.1.lo = keyR b.1.lo := fun e => by rw [asc_inj ha a1 b1 e]
    have e2 : b.1.id = c.1.id → keyR b.1.lo = keyR c.1.lo := fun e => by rw [asc_inj ha b1 c1 e]
    omega
  tot := fun a h b h' => by
    obtain ⟨a1, a2⟩ := hL a h
    obtain ⟨b1, b2⟩ := hL b h'
    rw [pair_key (hl _ a1).1 (hl _ a2).1 (hl _ b1).1 (hl _ b2).1, pair_key (hl _ b1).1 (hl _ b2).1 (hl _ a1).1 (hl _ a2).1]
    by_cases e1 : a.1.id = b.1.id
    · by_cases e2 : a.2.id = b.2.id
      · exact .inl (Prod.ext (asc_inj ha a1 b1 e1) (asc_inj ha a2 b2 e2))
      · right; omega
    · right
      have : keyR a.1.lo = keyR b.1.lo ∨ keyR a.1.lo < keyR b.1.lo ∨ keyR b.1.lo < keyR a.1.lo := by omega
      omega
end Go.Proofs.Ytcjekbncllccbaa
