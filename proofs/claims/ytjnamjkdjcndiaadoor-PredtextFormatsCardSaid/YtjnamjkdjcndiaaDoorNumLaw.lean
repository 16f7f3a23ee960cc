/-
  Numerals in plain Lean: what the reference's ReadNumber decides, and that it reads exactly the numerals of Itoa.
-/
import Derived.Lib.AtoiAll
import Derived.Lib.ItoaNum
import Derived.Lib.ItoaMem
namespace Go.Proofs.YtjnamjkdjcndiaaDoor
open Go
def digB (c : UInt8) : Bool := decide (48 ≤ c.toNat ∧ c.toNat ≤ 57)
def stepN (u : Nat) (c : UInt8) : Nat := u * 10 + (c.toNat - 48)
def valN (l : List UInt8) : Nat := l.foldl stepN 0
/-- What ReadNumber answers of what stands behind the sign. -/
def readT (neg : Bool) (t : List UInt8) : Int × Int :=
  if t = [] ∨ (t.headD 0 = 48 ∧ (1 < t.length ∨ neg = true)) then (0, 2) else if t.all digB = false then (0, 2) else if 19 < t.length then (0, 8)
  else if neg = true then (if valN t ≤ 9223372036854775808 then (-(valN t : Int), 0) else (0, 8)) else if valN t < 9223372036854775808 then ((valN t : Int), 0) else (0, 8)
def readV (l : List UInt8) : Int × Int := if l.headD 0 = 45 then readT true l.tail else readT false l
theorem dd_one {c : Nat} (h : c < 10) : Lib.decDigits c = [UInt8.ofNat (48 + c)] := by rw [Lib.decDigits.eq_def, dif_pos h]
theorem dd_more {a c : Nat} (ha : 1 ≤ a) (hc : c < 10) : Lib.decDigits (a * 10 + c) = Lib.decDigits a ++ [UInt8.ofNat (48 + c)] := by
  rw [Lib.decDigits.eq_def (a * 10 + c), dif_neg (by omega), show (a * 10 + c) / 10 = a by omega, show (a * 10 + c) % 10 = c by omega]
theorem ofNat_dig {c : Nat} (h : c < 10) : (UInt8.ofNat (48 + c)).toNat = 48 + c := by
  rw [UInt8.toNat_ofNat']; omega
theorem valN_snoc (l : List UInt8) (c : UInt8) : valN (l ++ [c]) = valN l * 10 + (c.toNat - 48) := by simp [valN, stepN]
theorem dd_ind {Q : Nat → Prop} (h0 : ∀ c, c < 10 → Q c) (h1 : ∀ a c, 1 ≤ a → c < 10 → Q a → Q (a * 10 + c)) : ∀ u, Q u := by
  intro u
  induction u using Nat.strongRecOn with
  | ind u ih =>
    by_cases h : u < 10
    · exact h0 u h
    · have := h1 (u / 10) (u % 10) (by omega) (by omega) (ih (u / 10) (by omega))
      rwa [show u / 10 * 10 + u % 10 = u by omega] at this
theorem valN_dd : ∀ u, valN (Lib.decDigits u) = u := by
  refine dd_ind (fun c h => ?_) (fun a c ha hc ih => ?_)
  · rw [dd_one h]; simp only [valN, stepN, List.foldl_cons, List.foldl_nil]; rw [ofNat_dig h]; omega
  · rw [dd_more ha hc, valN_snoc, ih, ofNat_dig hc]; omega
theorem digB_of {c : Nat} (h : c < 10) : digB (UInt8.ofNat (48 + c)) = true := by unfold digB; rw [ofNat_dig h, decide_eq_true_eq]; omega
theorem dd_all : ∀ u, (Lib.decDigits u).all digB = true := by
  refine dd_ind (fun c h => ?_) (fun a c ha hc ih => ?_)
  · rw [dd_one h, List.all_cons, digB_of h]; rfl
  · rw [dd_more ha hc, List.all_append, ih, List.all_cons, digB_of hc]; rfl
theorem dd_ne : ∀ u, Lib.decDigits u ≠ [] := by
  refine dd_ind (fun c h => ?_) (fun a c ha hc ih => ?_)
  · rw [dd_one h]; simp
  · rw [dd_more ha hc]; simp
theorem headD_append {l : List UInt8} (h : l ≠ []) (r : List UInt8) : (l ++ r).headD 0 = l.headD 0 := by
  cases l with
  | nil => exact absurd rfl h
  | cons a l => rfl
theorem dd_head : ∀ u, 1 ≤ u → (Lib.decDigits u).headD 0 ≠ 48 := by
  refine dd_ind (fun c h h1 => ?_) (fun a c ha hc ih _ => ?_)
  · rw [dd_one h]; simp only [List.headD_cons]
    intro e; have := congrArg UInt8.toNat e; rw [ofNat_dig h] at this; simp at this; omega
  · rw [dd_more ha hc, headD_append (dd_ne a)]; exact ih ha
theorem list_snoc {α : Type} (l : List α) (h : l ≠ []) : ∃ r c, l = r ++ [c] := ⟨l.dropLast, l.getLast h, (List.dropLast_concat_getLast h).symm⟩
theorem valN_pos : ∀ (l : List UInt8) (n : Nat), l.length = n → l ≠ [] → l.all digB = true → l.headD 0 ≠ 48 → 1 ≤ valN l ∧ Lib.decDigits (valN l) = l := by
  intro l n
  induction n generalizing l with
  | zero => intro h hne; exact absurd (List.eq_nil_of_length_eq_zero h) hne
  | succ n ih =>
    intro hl hne hd hh
    obtain ⟨r, c, rfl⟩ := list_snoc l hne
    rw [List.all_append, Bool.and_eq_true] at hd
    have hc : digB c = true := by simpa using hd.2
    unfold digB at hc
    rw [decide_eq_true_eq] at hc
    have ec : UInt8.ofNat (48 + (c.toNat - 48)) = c := by
      apply UInt8.toNat.inj; rw [ofNat_dig (by omega)]; omega
    rw [valN_snoc]
    by_cases hr : r = []
    · subst hr
      have h48 : c ≠ 48 := by simpa using hh
      have : c.toNat ≠ 48 := fun e => h48 (UInt8.toNat.inj e)
      simp only [valN, List.foldl_nil, Nat.zero_mul, Nat.zero_add, List.nil_append]
      refine ⟨by omega, ?_⟩
      rw [dd_one (by omega), ec]
    · rw [headD_append hr] at hh
      obtain ⟨p, q⟩ := ih r (by simpa using hl) hr hd.1 hh
      refine ⟨by omega, ?_⟩
      rw [dd_more p (by omega), q, ec]
theorem dd_len_lt (u k : Nat) (hk : 1 ≤ k) (h : u < 10 ^ k) : (Lib.decDigits u).length ≤ k := by
  rw [Lib.decDigits_length]
  induction k generalizing u with
  | zero => omega
  | succ k ih =>
    by_cases hu : u < 10
    · rw [Lib.nDigits_small hu]; omega
    · rw [Lib.nDigits_big hu]
      rw [Nat.pow_succ] at h
      by_cases hk0 : k = 0
      · subst hk0; omega
      · have := ih (u / 10) (by omega) (by omega); omega
theorem readT_dd (neg : Bool) (u : Nat) (hu : u ≤ 9223372036854775808) (h0 : neg = false → u < 9223372036854775808) (h1 : neg = true → 1 ≤ u) : readT neg (Lib.decDigits u) = (if neg = true then -(u : Int) else (u : Int), 0) := by
  have hl : (Lib.decDigits u).length ≤ 19 := dd_len_lt u 19 (by omega) (Nat.lt_of_le_of_lt hu (by decide))
  unfold readT
  rw [if_neg, if_neg (by rw [dd_all]; decide), if_neg (by omega), valN_dd]
  · cases neg with
    | true => simp [hu]
    | false => simp [h0 rfl]
  · intro h
    rcases h with h | ⟨h, h'⟩
    · exact dd_ne u h
    · by_cases h1' : 1 ≤ u
      · exact dd_head u h1' h
      · obtain rfl : u = 0 := by omega
        rcases h' with h' | h'
        · rw [dd_one (by omega)] at h'; simp at h'
        · have := h1 h'; omega
/-- ReadNumber reads every numeral. -/
theorem readV_itoa (n : Int) (h0 : -9223372036854775808 ≤ n) (h1 : n ≤ 9223372036854775807) : readV (Lib.itoa n) = (n, 0) := by
  unfold readV Lib.itoa
  by_cases hn : n < 0
  · rw [if_pos hn, if_pos (show (45 :: Lib.decDigits n.natAbs).headD 0 = 45 from rfl), List.tail_cons, readT_dd true _ (by omega) (by simp) (by intro _; omega)]
    simp; omega
  · rw [if_neg hn, if_neg, readT_dd false _ (by omega) (by intro _; omega) (by simp)]
    · simp; omega
    · intro h
      have := dd_all n.toNat
      cases hd : Lib.decDigits n.toNat with
      | nil => exact dd_ne _ hd
      | cons a r =>
        rw [hd] at h this
        simp only [List.headD_cons] at h
        subst h
        simp [digB] at this
/-- What ReadNumber reads is a numeral. -/
theorem readT_inv {neg : Bool} {t : List UInt8} {v : Int} (h : readT neg t = (v, 0)) : (neg = true → v ≤ -1 ∧ t = Lib.decDigits v.natAbs) ∧ (neg = false → 0 ≤ v ∧ t = Lib.decDigits v.toNat) ∧ -9223372036854775808 ≤ v ∧ v ≤ 9223372036854775807 := by
  unfold readT at h
  split at h
  · simp at h
  · rename_i hf
    split at h
    · simp at h
    · rename_i hd
      have hd : t.all digB = true := by simpa using hd
      split at h
      · simp at h
      · have hne : t ≠ [] := fun e => hf (.inl e)
        by_cases h48 : t.headD 0 = 48
        · have hlen : t.length = 1 ∧ neg = false := by
            have h1 : ¬(1 < t.length ∨ neg = true) := fun e => hf (.inr ⟨h48, e⟩)
            have := List.length_pos_iff.2 hne
            refine ⟨by omega, by cases neg with | false => rfl | true => exact absurd (.inr rfl) h1⟩
          obtain ⟨c, rfl⟩ : ∃ c, t = [c] := List.length_eq_one_iff.1 hlen.1
          have : c = 48 := by simpa using h48
          subst this
          rw [hlen.2] at h ⊢
          have h0 : valN [48] = 0 := by decide
          simp [h0] at h
          subst h
          refine ⟨by simp, fun _ => ⟨by omega, ?_⟩, by omega, by omega⟩
          rw [show (0 : Int).toNat = 0 from rfl, dd_one (by omega)]; rfl
        · obtain ⟨p, q⟩ := valN_pos t _ rfl hne hd h48
          cases neg with
          | true =>
            simp only [if_true] at h
            split at h
            · simp only [Prod.mk.injEq] at h
              obtain ⟨rfl, _⟩ := h
              refine ⟨fun _ => ⟨by omega, ?_⟩, by simp, by omega, by omega⟩
              rw [Int.natAbs_neg, Int.natAbs_natCast, q]
            · simp at h
          | false =>
            simp only [Bool.false_eq_true, if_false] at h
            split at h
            · simp only [Prod.mk.injEq] at h
              obtain ⟨rfl, _⟩ := h
              refine ⟨by simp, fun _ => ⟨by omega, ?_⟩, by omega, by omega⟩
              rw [Int.toNat_natCast, q]
            · simp at h
theorem readV_inv {l : List UInt8} {v : Int} (h : readV l = (v, 0)) : l = Lib.itoa v ∧ -9223372036854775808 ≤ v ∧ v ≤ 9223372036854775807 := by
  unfold readV at h
  split at h
  · rename_i h45
    obtain ⟨a, _, b⟩ := readT_inv h
    obtain ⟨a1, a2⟩ := a rfl
    refine ⟨?_, b⟩
    unfold Lib.itoa
    rw [if_pos (by omega), ← a2]
    cases l with
    | nil => simp at h45
    | cons c r => simp only [List.headD_cons] at h45; subst h45; rfl
  · obtain ⟨_, a, b⟩ := readT_inv h
    obtain ⟨a1, a2⟩ := a rfl
    exact ⟨by unfold Lib.itoa; rw [if_neg (by omega)]; exact a2, b⟩
theorem readT_err (neg : Bool) (t : List UInt8) : (readT neg t).2 = 0 ∨ readT neg t = (0, 2) ∨ readT neg t = (0, 8) := by
  unfold readT
  split
  · simp
  · split
    · simp
    · split
      · simp
      · cases neg with
        | true => simp only [if_true]; split <;> simp
        | false => simp only [Bool.false_eq_true, if_false]; split <;> simp
/-! strconv.Atoi at the same numerals -/
def okV {α : Type} : Lib.NumEnd α → Option α
  | .ok v => some v
  | _ => none
theorem parse10_dig : ∀ (l : List UInt8) (a : Nat), l.all digB = true → l.foldl stepN a < 18446744073709551616 → Lib.parseUint10 a l = .ok (l.foldl stepN a)
  | [], a, _, _ => rfl
  | c :: r, a, hd, hv => by
    simp only [List.all_cons, Bool.and_eq_true] at hd
    have hc := hd.1
    unfold digB at hc
    rw [decide_eq_true_eq] at hc
    have mono : ∀ (l : List UInt8) (a : Nat), a ≤ l.foldl stepN a := by
      intro l
      induction l with
      | nil => intro a; exact Nat.le_refl _
      | cons c r ih => intro a; exact Nat.le_trans (by unfold stepN; omega) (ih (stepN a c))
    have h1 := mono r (stepN a c)
    simp only [List.foldl_cons] at hv ⊢
    have h2 : stepN a c < 18446744073709551616 := Nat.lt_of_le_of_lt h1 hv
    unfold stepN at h2
    simp only [Lib.parseUint10]
    rw [if_pos hc, if_neg (by omega), if_neg (by omega)]
    exact parse10_dig r _ hd.2 hv
/-- Atoi reads every numeral. -/
theorem atoi_itoa (n : Int) (h0 : -9223372036854775808 ≤ n) (h1 : n ≤ 9223372036854775807) : Lib.atoiAll (Lib.itoa n) = .ok n := by
  have pm : ∀ u : Nat, u < 18446744073709551616 → Lib.parseMag (Lib.decDigits u) = .ok u := fun u hu => by
    unfold Lib.parseMag
    rw [if_neg (dd_ne u), parse10_dig _ _ (dd_all u) (by have := valN_dd u; unfold valN at this; rw [this]; exact hu)]
    have := valN_dd u; unfold valN at this; rw [this]
  unfold Lib.itoa
  by_cases hn : n < 0
  · rw [if_pos hn]
    have e : (45 : UInt8).toNat = 45 := rfl
    simp only [Lib.atoiAll, e]
    rw [if_pos (.inr trivial), pm _ (by omega)]
    simp only [not_true_eq_false, false_and, if_false, true_and, if_true]
    rw [if_neg (by omega)]
    congr 1; omega
  · rw [if_neg hn]
    have hp := pm n.toNat (by omega)
    have hal := dd_all n.toNat
    cases hd : Lib.decDigits n.toNat with
    | nil => exact absurd hd (dd_ne _)
    | cons c r =>
      rw [hd] at hp hal
      simp only [List.all_cons, Bool.and_eq_true] at hal
      have hc := hal.1
      unfold digB at hc
      rw [decide_eq_true_eq] at hc
      simp only [Lib.atoiAll]
      rw [if_neg (by omega), hp]
      simp only [show ¬c.toNat = 45 by omega, not_false_eq_true, true_and, false_and, if_false]
      rw [if_neg (by omega)]
      congr 1; omega
/-! names of objects -/
def nameL (c : UInt8) (n : Int) : List UInt8 := if 1 ≤ n ∧ n ≤ 2147483647 then c :: Lib.itoa n else []
def numG (l : List UInt8) : Int :=
  match l with
  | [] => 0
  | _ :: t => match okV (Lib.atoiAll t) with
    | some v => if l = nameL 80 v ∨ l = nameL 68 v ∨ l = nameL 77 v then v else 0
    | none => 0
def numR (l : List UInt8) : Int :=
  if l.length < 2 ∨ (l.headD 0 ≠ 80 ∧ l.headD 0 ≠ 68 ∧ l.headD 0 ≠ 77) then 0
  else if (readV l.tail).2 ≠ 0 ∨ (readV l.tail).1 < 1 ∨ 2147483647 < (readV l.tail).1 then 0 else (readV l.tail).1
theorem nameL_inj {c d : UInt8} {a b : Int} (ha : 1 ≤ a ∧ a ≤ 2147483647) (h : nameL c a = nameL d b) : c = d ∧ a = b := by
  unfold nameL at h
  rw [if_pos ha] at h
  split at h
  · rename_i hb
    injection h with h1 h2
    refine ⟨h1, ?_⟩
    have e1 := readV_itoa a (by omega) (by omega)
    have e2 := readV_itoa b (by omega) (by omega)
    rw [h2, e2] at e1
    exact (Prod.mk.inj e1).1.symm
  · cases h
theorem numG_name {c : UInt8} (hc : c = 80 ∨ c = 68 ∨ c = 77) {n : Int} (hn : 1 ≤ n ∧ n ≤ 2147483647) : numG (nameL c n) = n := by
  unfold numG nameL
  rw [if_pos hn]
  simp only [atoi_itoa n (by omega) (by omega), okV]
  rw [if_pos]
  rcases hc with rfl | rfl | rfl
  · left; rw [if_pos hn]
  · right; left; rw [if_pos hn]
  · right; right; rw [if_pos hn]
theorem numR_name {c : UInt8} (hc : c = 80 ∨ c = 68 ∨ c = 77) {n : Int} (hn : 1 ≤ n ∧ n ≤ 2147483647) : numR (nameL c n) = n := by
  unfold numR nameL
  rw [if_pos hn]
  have hl : 1 ≤ (Lib.itoa n).length := by
    cases h : Lib.itoa n with
    | nil => unfold Lib.itoa at h; rw [if_neg (by omega)] at h; exact absurd h (dd_ne _)
    | cons a r => simp
  simp only [List.headD_cons, List.tail_cons, List.length_cons, readV_itoa n (by omega) (by omega)]
  rw [if_neg, if_neg (by simp; omega)]
  rintro (h | ⟨a, b, d⟩)
  · omega
  · rcases hc with rfl | rfl | rfl
    · exact a rfl
    · exact b rfl
    · exact d rfl
theorem numG_no {l : List UInt8} (h : ∀ (c : UInt8) (n : Int), (c = 80 ∨ c = 68 ∨ c = 77) → 1 ≤ n ∧ n ≤ 2147483647 → l ≠ nameL c n) : numG l = 0 := by
  unfold numG
  match l, h with
  | [], _ => rfl
  | x :: t, h =>
    simp only []
    cases okV (Lib.atoiAll t) with
    | none => rfl
    | some v =>
      simp only []
      by_cases hv : 1 ≤ v ∧ v ≤ 2147483647
      · rw [if_neg]
        rintro (e | e | e)
        · exact h 80 v (.inl rfl) hv e
        · exact h 68 v (.inr (.inl rfl)) hv e
        · exact h 77 v (.inr (.inr rfl)) hv e
      · have e : ∀ c, nameL c v = [] := fun c => by unfold nameL; rw [if_neg hv]
        rw [e, e, e, if_neg (by simp)]
theorem numR_no {l : List UInt8} (h : ∀ (c : UInt8) (n : Int), (c = 80 ∨ c = 68 ∨ c = 77) → 1 ≤ n ∧ n ≤ 2147483647 → l ≠ nameL c n) : numR l = 0 := by
  unfold numR
  split
  · rfl
  · rename_i h1
    split
    · rfl
    · rename_i h2
      exfalso
      obtain ⟨v, hv⟩ : ∃ v, readV l.tail = (v, 0) := ⟨(readV l.tail).1, by
        have : (readV l.tail).2 = 0 := by
          by_cases e : (readV l.tail).2 = 0
          · exact e
          · exact absurd (.inl e) h2
        exact Prod.ext rfl this⟩
      have hb : 1 ≤ v ∧ v ≤ 2147483647 := by rw [hv] at h2; simp at h2; omega
      obtain ⟨e, _⟩ := readV_inv hv
      cases l with
      | nil => simp at h1
      | cons c t =>
        simp only [List.headD_cons, List.tail_cons] at h1 e
        have hc : c = 80 ∨ c = 68 ∨ c = 77 := by
          by_cases a : c = 80
          · exact .inl a
          · by_cases b : c = 68
            · exact .inr (.inl b)
            · by_cases d : c = 77
              · exact .inr (.inr d)
              · exact absurd (.inr ⟨a, b, d⟩) h1
        refine h c v hc hb ?_
        unfold nameL; rw [if_pos hb, e]
theorem num_eq (l : List UInt8) : numG l = numR l := by
  by_cases h : ∃ (c : UInt8) (n : Int), (c = 80 ∨ c = 68 ∨ c = 77) ∧ (1 ≤ n ∧ n ≤ 2147483647) ∧ l = nameL c n
  · obtain ⟨c, n, hc, hn, rfl⟩ := h
    rw [numG_name hc hn, numR_name hc hn]
  · have h' : ∀ (c : UInt8) (n : Int), (c = 80 ∨ c = 68 ∨ c = 77) → 1 ≤ n ∧ n ≤ 2147483647 → l ≠ nameL c n := fun c n hc hn e => h ⟨c, n, hc, hn, e⟩
    rw [numG_no h', numR_no h']
end Go.Proofs.YtjnamjkdjcndiaaDoor
