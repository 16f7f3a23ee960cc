/-
  Texts of decimals in plain Lean: the cut at the point; what ParseInt answers at digits; Parse by its cases.
-/
import Derived.Test.YtgdahafokjdafaaGreatDoorDecPar
import Derived.Lib.IndexLaws
import Derived.Lib.ParseIntBTie
import Derived.Lib.TrimByte
namespace Go.Proofs.YtgdahafokjdafaaGreatDoor
def dotF (c : UInt8) : Bool := decide (c ≠ 46)
def cutW (t : List UInt8) : List UInt8 := t.takeWhile dotF
def cutR (t : List UInt8) : List UInt8 := t.dropWhile dotF
def digsB (l : List UInt8) : Bool := l.all digB && decide (l ≠ [])
def leadB (a : List UInt8) : Bool := decide (1 < a.length) && decide (a.headD 0 = 48)
theorem cut_of {a r : List UInt8} (ha : ∀ c ∈ a, c ≠ 46) (hr : r.headD 0 = 46 ∨ r = []) : cutW (a ++ r) = a ∧ cutR (a ++ r) = r := by
  have e1 : r.takeWhile dotF = [] ∧ r.dropWhile dotF = r := by
    rcases hr with h | rfl
    · cases r with
      | nil => exact ⟨rfl, rfl⟩
      | cons c q =>
        rw [List.headD_cons] at h
        subst h
        exact ⟨rfl, rfl⟩
    · exact ⟨rfl, rfl⟩
  have hd : ∀ c ∈ a, dotF c = true := fun c hc => decide_eq_true (ha c hc)
  unfold cutW cutR
  rw [List.takeWhile_append_of_pos hd, List.dropWhile_append_of_pos hd, e1.1, e1.2, List.append_nil]
  exact ⟨rfl, rfl⟩
theorem dig_dot {a : List UInt8} (h : a.all digB = true) : ∀ c ∈ a, c ≠ 46 := by
  intro c hc e
  subst e
  exact absurd (all_mem h 46 hc) (by decide)
theorem cut_whole (t : List UInt8) : t = cutW t ++ cutR t := List.takeWhile_append_dropWhile.symm
theorem cutR_head : ∀ (t : List UInt8), (cutR t).headD 0 = 46 ∨ cutR t = []
  | [] => .inr rfl
  | c :: r => by
    by_cases h : c = 46
    · subst h; exact .inl rfl
    · have : cutR (c :: r) = cutR r := by unfold cutR; rw [List.dropWhile_cons_of_pos (show dotF c = true from decide_eq_true h)]
      rw [this]; exact cutR_head r
theorem spW_all : ∀ (t : List UInt8), (spW t).all digB = true
  | [] => rfl
  | c :: r => by
    unfold spW
    by_cases h : digB c = true
    · rw [List.takeWhile_cons_of_pos h, List.all_cons, h]; exact spW_all r
    · rw [List.takeWhile_cons_of_neg h]; rfl
theorem sp_whole (t : List UInt8) : t = spW t ++ spR t := List.takeWhile_append_dropWhile.symm
theorem restOk_head {r : List UInt8} (h : restOk r = true) : r.headD 0 = 46 ∨ r = [] := by
  cases r with
  | nil => exact .inr rfl
  | cons c p =>
    simp only [restOk, Bool.and_eq_true, decide_eq_true_eq] at h
    exact .inl h.1
theorem form_cut {t : List UInt8} (h : formB t = true) : spW t = cutW t ∧ spR t = cutR t := by
  unfold formB at h
  rw [Bool.and_eq_true] at h
  obtain ⟨e1, e2⟩ := cut_of (dig_dot (spW_all t)) (restOk_head h.2)
  rw [← sp_whole t] at e1 e2
  exact ⟨e1.symm, e2.symm⟩
theorem cut_form {t : List UInt8} (h : (cutW t).all digB = true) : spW t = cutW t ∧ spR t = cutR t := by
  obtain ⟨e1, e2⟩ := sp_of h (cutR_head t)
  rw [← cut_whole t] at e1 e2
  exact ⟨e1, e2⟩
theorem form_bad1 {t : List UInt8} (h : digsB (cutW t) = false) : formB t = false := by
  cases hf : formB t with
  | false => rfl
  | true =>
    obtain ⟨e1, _⟩ := form_cut hf
    unfold formB wholeOk at hf
    simp only [Bool.and_eq_true, decide_eq_true_eq] at hf
    unfold digsB at h
    rw [← e1, spW_all t, decide_eq_true hf.1.1] at h
    cases h
theorem form_bad2 {t : List UInt8} (h : leadB (cutW t) = true) : formB t = false := by
  cases hf : formB t with
  | false => rfl
  | true =>
    obtain ⟨e1, _⟩ := form_cut hf
    unfold formB wholeOk at hf
    simp only [Bool.and_eq_true, Bool.or_eq_true, decide_eq_true_eq] at hf
    unfold leadB at h
    simp only [Bool.and_eq_true, decide_eq_true_eq] at h
    rw [e1] at hf
    rcases hf.1.2 with h2 | h2
    · omega
    · exact absurd h.2 h2
theorem restOk_tail {r : List UInt8} (h : restOk r = true) (hne : r ≠ []) : digsB r.tail = true := by
  cases r with
  | nil => exact absurd rfl hne
  | cons c p =>
    simp only [restOk, Bool.and_eq_true, decide_eq_true_eq] at h
    unfold digsB
    rw [List.tail_cons, h.2.2, decide_eq_true h.2.1]; rfl
theorem form_bad3 {t : List UInt8} (hne : cutR t ≠ []) (h : digsB (cutR t).tail = false) : formB t = false := by
  cases hf : formB t with
  | false => rfl
  | true =>
    obtain ⟨_, e2⟩ := form_cut hf
    unfold formB at hf
    rw [Bool.and_eq_true] at hf
    rw [← e2] at h hne
    rw [restOk_tail hf.2 hne] at h
    cases h
structure FormOk (t : List UInt8) : Prop where
  w : digsB (cutW t) = true
  l : leadB (cutW t) = false
  f : cutR t = [] ∨ digsB (cutR t).tail = true
theorem FormOk.form {t : List UInt8} (h : FormOk t) : formB t = true ∧ spW t = cutW t ∧ spR t = cutR t := by
  have hw := h.w
  unfold digsB at hw
  rw [Bool.and_eq_true, decide_eq_true_eq] at hw
  obtain ⟨e1, e2⟩ := cut_form hw.1
  refine ⟨?_, e1, e2⟩
  unfold formB
  rw [e1, e2, Bool.and_eq_true]
  constructor
  · have hl := h.l
    unfold leadB at hl
    rw [Bool.and_eq_false_iff, decide_eq_false_iff_not, decide_eq_false_iff_not] at hl
    unfold wholeOk
    simp only [Bool.and_eq_true, Bool.or_eq_true, decide_eq_true_eq]
    exact ⟨hw.2, hl.imp (fun h => by omega) id⟩
  · rcases h.f with h0 | h0
    · rw [h0]; rfl
    · rcases cutR_head t with h1 | h1
      · cases hc : cutR t with
        | nil => rfl
        | cons c p =>
          rw [hc, List.headD_cons] at h1
          rw [hc, List.tail_cons] at h0
          unfold digsB at h0
          rw [Bool.and_eq_true, decide_eq_true_eq] at h0
          simp [restOk, h1, h0.1, h0.2]
      · rw [h1]; rfl
theorem FormOk.fdig {t : List UInt8} (h : FormOk t) : (cutR t).tail.all digB = true := by
  rcases h.f with h0 | h0
  · rw [h0]; rfl
  · unfold digsB at h0; rw [Bool.and_eq_true] at h0; exact h0.1
theorem decP_range {l : List UInt8} {k : Int} (h : scaB k = false) : decP l k = (0, 4) := by unfold decP; rw [if_pos h]
theorem decP_form {l : List UInt8} {k : Int} (h : scaB k = true) (hf : formB (bodyL l) = false) : decP l k = (0, 2) := by
  unfold decP; rw [if_neg (by rw [h]; decide), if_pos hf]
theorem decP_zero {l : List UInt8} {k : Int} (h : scaB k = true) (hf : FormOk (bodyL l)) (hn : negB l = true) (hz : zeroB (cutW (bodyL l) ++ (cutR (bodyL l)).tail) = true) : decP l k = (0, 2) := by
  obtain ⟨e0, e1, e2⟩ := hf.form
  unfold decP; rw [if_neg (by rw [h]; decide), if_neg (by rw [e0]; decide), e1, e2, if_pos (by rw [hn, hz]; rfl)]
theorem decP_out {l : List UInt8} {k : Int} (h : scaB k = true) (hf : FormOk (bodyL l)) (hz : (negB l && zeroB (cutW (bodyL l) ++ (cutR (bodyL l)).tail)) = false) :
    decP l k = if k < ((cutR (bodyL l)).tail.length : Int) then (0, 8) else outP (negB l) (valP (cutW (bodyL l)) (cutR (bodyL l)).tail (k.toNat - (cutR (bodyL l)).tail.length)) := by
  obtain ⟨e0, e1, e2⟩ := hf.form
  unfold decP; rw [if_neg (by rw [h]; decide), if_neg (by rw [e0]; decide), e1, e2, if_neg (by rw [hz]; decide)]
theorem cut_none {t : List UInt8} (h : Lib.indexByte t 46 = -1) : cutW t = t ∧ cutR t = [] := by
  have := cut_of (a := t) (r := []) (fun c hc e => by
    obtain ⟨k, hk⟩ := List.mem_iff_getElem?.1 hc
    exact Lib.indexByte_none h k (by rw [hk, e])) (.inr rfl)
  rwa [List.append_nil] at this
theorem cut_some {t : List UInt8} {i : Nat} (h : Lib.indexByte t 46 = (i : Int)) : cutW t = t.take i ∧ cutR t = 46 :: t.drop (i + 1) ∧ i < t.length := by
  obtain ⟨h1, h2⟩ := Lib.indexByte_some h
  have hi := (List.getElem?_eq_some_iff.1 h1).1
  have e : t = t.take i ++ (46 :: t.drop (i + 1)) := by
    have h3 : t.drop i = 46 :: t.drop (i + 1) := by
      rw [List.drop_eq_getElem_cons hi]
      congr 1
      exact (List.getElem?_eq_some_iff.1 h1).2
    rw [← h3, List.take_append_drop]
  have := cut_of (a := t.take i) (r := 46 :: t.drop (i + 1)) (fun c hc e => by
    obtain ⟨k, hk⟩ := List.mem_iff_getElem?.1 hc
    have hki : k < i := by
      have := (List.getElem?_eq_some_iff.1 hk).1
      rw [List.length_take] at this; omega
    rw [List.getElem?_take_of_lt hki] at hk
    exact h2 k hki (by rw [hk, e])) (.inl rfl)
  rw [← e] at this
  exact ⟨this.1, this.2, hi⟩
theorem parse10_ok : ∀ (l : List UInt8) (a u : Nat), l.all digB = true → Lib.parseUint10 a l = .ok u → u = l.foldl stepN a
  | [], a, u, _, h => by
    simp only [Lib.parseUint10] at h
    injection h with h
    exact h.symm
  | c :: r, a, u, hd, h => by
    simp only [List.all_cons, Bool.and_eq_true] at hd
    have hc := hd.1
    unfold digB at hc
    rw [decide_eq_true_eq] at hc
    simp only [Lib.parseUint10] at h
    rw [if_pos hc] at h
    split at h
    · cases h
    · split at h
      · cases h
      · exact parse10_ok r _ u hd.2 h
theorem pint_shape {l : List UInt8} (h : l.all digB = true) (hne : l ≠ []) : ∀ v, Lib.parseIntB 64 l = .ok v → ∃ u, Lib.parseUint10 0 l = .ok u ∧ v = (u : Int) := by
  intro v hv
  rw [Lib.parseIntB_64] at hv
  cases l with
  | nil => exact absurd rfl hne
  | cons c r =>
    have hc : digB c = true := by simp only [List.all_cons, Bool.and_eq_true] at h; exact h.1
    unfold digB at hc
    rw [decide_eq_true_eq] at hc
    unfold Lib.atoiAll at hv
    dsimp only at hv
    rw [if_neg (show ¬(c.toNat = 43 ∨ c.toNat = 45) by omega)] at hv
    simp only [show ¬(c.toNat = 45) by omega, Lib.parseMag, if_neg (List.cons_ne_nil c r), not_false_eq_true, true_and, false_and, if_false] at hv
    rcases hh : Lib.parseUint10 0 (c :: r) with u | _ | _
    · rw [hh] at hv
      simp only at hv
      split at hv
      · cases hv
      · injection hv with hv
        exact ⟨u, rfl, hv.symm⟩
    · rw [hh] at hv; cases hv
    · rw [hh] at hv; cases hv
theorem pint_sound {l : List UInt8} (h : l.all digB = true) (hne : l ≠ []) {v : Int} (hv : Lib.parseIntB 64 l = .ok v) : v = (valN l : Int) := by
  obtain ⟨u, h1, h2⟩ := pint_shape h hne v hv
  rw [h2, parse10_ok l 0 u h h1]; rfl
theorem pint_small {l : List UInt8} (h : l.all digB = true) (hne : l ≠ []) (hv : valN l ≤ 999999999999999999) : Lib.parseIntB 64 l = .ok (valN l : Int) := by
  have h1 := parse10_dig l 0 h (show l.foldl stepN 0 < 18446744073709551616 from Nat.lt_of_le_of_lt (show l.foldl stepN 0 ≤ 999999999999999999 from hv) (by decide))
  rw [show l.foldl stepN 0 = valN l from rfl] at h1
  rw [Lib.parseIntB_64]
  cases l with
  | nil => exact absurd rfl hne
  | cons c r =>
    have hc : digB c = true := by simp only [List.all_cons, Bool.and_eq_true] at h; exact h.1
    unfold digB at hc
    rw [decide_eq_true_eq] at hc
    unfold Lib.atoiAll
    dsimp only
    rw [if_neg (show ¬(c.toNat = 43 ∨ c.toNat = 45) by omega)]
    simp only [show ¬(c.toNat = 45) by omega, Lib.parseMag, if_neg (List.cons_ne_nil c r), not_false_eq_true, true_and, false_and, if_false, h1]
    rw [if_neg (by omega)]
theorem dw_nil (p : UInt8 → Bool) : ∀ l : List UInt8, l.dropWhile p = [] → ∀ x ∈ l, p x = true
  | [], _, x, hx => by cases hx
  | c :: r, h, x, hx => by
    by_cases hc : p c = true
    · rw [List.dropWhile_cons_of_pos hc] at h
      rcases List.mem_cons.1 hx with rfl | hx
      · exact hc
      · exact dw_nil p r h x hx
    · rw [List.dropWhile_cons_of_neg hc] at h; cases h
theorem nil_dw (p : UInt8 → Bool) : ∀ l : List UInt8, (∀ x ∈ l, p x = true) → l.dropWhile p = []
  | [], _ => rfl
  | c :: r, h => by
    rw [List.dropWhile_cons_of_pos (h c (List.mem_cons_self ..))]
    exact nil_dw p r fun x hx => h x (List.mem_cons_of_mem _ hx)
theorem dw_head (p : UInt8 → Bool) : ∀ (l : List UInt8) (y : UInt8) (r : List UInt8), l.dropWhile p = y :: r → p y = false
  | [], y, r, h => by cases h
  | c :: q, y, r, h => by
    by_cases hc : p c = true
    · rw [List.dropWhile_cons_of_pos hc] at h; exact dw_head p q y r h
    · rw [List.dropWhile_cons_of_neg hc] at h
      injection h with h1 _
      subst h1
      simpa using hc
theorem zeroB_mem {l : List UInt8} : zeroB l = true ↔ ∀ x ∈ l, (x == (48 : UInt8)) = true := by
  unfold zeroB
  rw [List.all_eq_true]
  constructor
  · intro h x hx
    have := h x hx
    rw [decide_eq_true_eq] at this
    rw [beq_iff_eq]
    exact UInt8.toNat_inj.1 this
  · intro h x hx
    have := h x hx
    rw [beq_iff_eq] at this
    subst this; rfl
theorem trim_yes {l : List UInt8} (h : zeroB l = true) : Lib.trimB l 48 = [] := by
  unfold Lib.trimB Lib.trimLeftB Lib.trimRightB
  rw [nil_dw _ l.reverse (fun x hx => zeroB_mem.1 h x (List.mem_reverse.1 hx))]; rfl
theorem trim_no {l : List UInt8} (h : zeroB l = false) : Lib.trimB l 48 ≠ [] := by
  intro e
  unfold Lib.trimB Lib.trimLeftB Lib.trimRightB at e
  have h1 := dw_nil _ _ e
  cases hd : l.reverse.dropWhile (· == (48 : UInt8)) with
  | nil =>
    have h2 := dw_nil _ _ hd
    rw [zeroB_mem.2 (fun x hx => h2 x (List.mem_reverse.2 hx))] at h
    cases h
  | cons y r =>
    have h3 := dw_head _ _ y r hd
    have h4 := h1 y (by rw [hd, List.mem_reverse]; exact List.mem_cons_self ..)
    rw [h4] at h3; cases h3
end Go.Proofs.YtgdahafokjdafaaGreatDoor
