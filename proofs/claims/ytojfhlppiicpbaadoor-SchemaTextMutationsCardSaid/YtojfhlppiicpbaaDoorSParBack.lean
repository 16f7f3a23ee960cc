/-
  The text that Format writes of a valid schema reads as the schema.
-/
import Derived.Test.YtojfhlppiicpbaaDoorSParSpec
import Derived.Test.YtojfhlppiicpbaaDoorRSChk
namespace Go.Proofs.YtojfhlppiicpbaaDoor
set_option linter.unusedVariables false
theorem name_bytes {l : List UInt8} (h : nameB l = true) : (∀ x ∈ l, x ≠ 32) ∧ (∀ x ∈ l, x ≠ 10) ∧ l ≠ [] ∧ l ≠ keyW := by
  unfold nameB at h
  simp only [Bool.and_eq_true, decide_eq_true_eq, Bool.not_eq_true', List.isEmpty_eq_false_iff, bne_iff_ne] at h
  obtain ⟨⟨⟨⟨h1, _⟩, h3⟩, _⟩, h5⟩ := h
  have hx : ∀ x ∈ l, okB x = true := List.all_eq_true.1 h5
  refine ⟨fun x hm => ?_, fun x hm => ?_, h1, h3⟩
  · rintro rfl; have := hx _ hm; exact absurd this (by decide)
  · rintro rfl; have := hx _ hm; exact absurd this (by decide)
theorem tyW_bytes (t : Int) : (∀ x ∈ tyW t, x ≠ 32) ∧ (∀ x ∈ tyW t, x ≠ 10) ∧ tyW t ≠ [] := by
  unfold tyW
  repeat' split
  all_goals decide
theorem itoa_small18 {n : Int} (h0 : 0 ≤ n) (h1 : n ≤ 18) : (∀ x ∈ Lib.itoa n, x ≠ 32) ∧ (∀ x ∈ Lib.itoa n, x ≠ 10) ∧ Lib.itoa n ≠ [] ∧ scaV (Lib.itoa n) = some n := by
  have : ∀ k : Fin 19, (∀ x ∈ Lib.itoa (k.val : Int), x ≠ 32) ∧ (∀ x ∈ Lib.itoa (k.val : Int), x ≠ 10) ∧ Lib.itoa (k.val : Int) ≠ [] ∧ scaV (Lib.itoa (k.val : Int)) = some (k.val : Int) := by decide +kernel
  obtain ⟨j, rfl⟩ : ∃ j : Nat, n = j := ⟨n.toNat, by omega⟩
  exact this ⟨j, by omega⟩
structure ColGood (c : Col) : Prop where
  nm : nameB c.nm.data.toList = true
  ty : 1 ≤ c.ty ∧ c.ty ≤ 5
  sc : 0 ≤ c.sc ∧ c.sc ≤ 18
  s0 : c.ty ≠ 5 → c.sc = 0
theorem colErr_good {l : List Col} {k : Nat} {c : Col} (h : colErr l k c = 0) : ColGood c ∧ (k : Int) ≤ findC l c.nm := by
  unfold colErr at h
  split at h
  · cases h
  · rename_i h1
    split at h
    · cases h
    · split at h
      · cases h
      · split at h
        · cases h
        · exact ⟨⟨by simpa using h1, by omega, by omega, by omega⟩, by omega⟩
theorem schk_good {l : List Col} {key : Int} (h : schkV l key = 0) : ∀ (k : Nat) (c : Col), l[k]? = some c → ColGood c ∧ findC l c.nm = k := by
  intro k c hk
  unfold schkV at h
  split at h
  · cases h
  · split at h
    · cases h
    · split at h
      · rename_i h1; exact absurd h h1
      · rename_i h1
        have hz : firstE (colE l) l.length = 0 := by simpa using h1
        have := firstE_zero _ hz k (List.getElem?_eq_some_iff.1 hk).1
        rw [colE_at hk] at this
        obtain ⟨g1, g2⟩ := colErr_good this
        exact ⟨g1, by have := findC_le hk rfl; omega⟩
/-- The words of a column's line. -/
def wordsC (c : Col) : List (List UInt8) := c.nm.data.toList :: tyW c.ty :: ((if c.ty = 5 then [Lib.itoa c.sc] else []) ++ if c.nu = true then [nullW] else [])
theorem null_bytes : (∀ x ∈ nullW, x ≠ 32) ∧ (∀ x ∈ nullW, x ≠ 10) := by decide
theorem words_line {c : Col} (h : ColGood c) : splitC 32 (colA c ++ colB c ++ colC c) = wordsC c ∧ (∀ x ∈ colA c ++ colB c ++ colC c, x ≠ 10) := by
  obtain ⟨n1, n2, _, _⟩ := name_bytes h.nm
  obtain ⟨t1, t2, _⟩ := tyW_bytes c.ty
  obtain ⟨s1, s2, _, _⟩ := itoa_small18 h.sc.1 h.sc.2
  have e : colA c ++ colB c ++ colC c = c.nm.data.toList ++ 32 :: (tyW c.ty ++ (colB c ++ colC c)) := by unfold colA; simp
  constructor
  · rw [e, splitC_app n1]
    unfold wordsC
    congr 1
    unfold colB colC
    by_cases h5 : c.ty = 5
    · rw [if_pos h5, if_pos h5]
      by_cases hn : c.nu = true
      · rw [if_pos hn, if_pos hn]
        rw [show tyW c.ty ++ (32 :: Lib.itoa c.sc ++ [32, 110, 117, 108, 108]) = tyW c.ty ++ 32 :: (Lib.itoa c.sc ++ 32 :: nullW) by simp [nullW], splitC_app t1, splitC_app s1, splitC_no null_bytes.1]
        rfl
      · rw [if_neg hn, if_neg hn, List.append_nil, splitC_app t1, splitC_no s1]; rfl
    · rw [if_neg h5, if_neg h5]
      by_cases hn : c.nu = true
      · rw [if_pos hn, if_pos hn]
        rw [show tyW c.ty ++ ([] ++ [32, 110, 117, 108, 108]) = tyW c.ty ++ 32 :: nullW by simp [nullW], splitC_app t1, splitC_no null_bytes.1]
        rfl
      · rw [if_neg hn, if_neg hn, List.append_nil, List.append_nil, splitC_no t1]; rfl
  · intro x hx
    rw [e] at hx
    unfold colB colC at hx
    simp only [List.mem_append, List.mem_cons] at hx
    rcases hx with hx | rfl | hx | hx | hx
    · exact n2 x hx
    · decide
    · exact t2 x hx
    · split at hx
      · rcases List.mem_cons.1 hx with rfl | hx
        · decide
        · exact s2 x hx
      · cases hx
    · split at hx
      · have : ∀ y ∈ ([32, 110, 117, 108, 108] : List UInt8), y ≠ 10 := by decide
        exact this x hx
      · cases hx
theorem col_eta {c : Col} {n : ByteArray} {a b : Int} {u : Bool} (h0 : n = c.nm) (h1 : a = c.ty) (h2 : b = c.sc) (h3 : u = c.nu) : (⟨n, a, b, u⟩ : Col) = c := by subst h0 h1 h2 h3; rfl
theorem words_col {c : Col} (h : ColGood c) : colV (wordsC c) = some c ∧ isKey (wordsC c) = false ∧ [] ∉ wordsC c := by
  obtain ⟨_, _, n3, n4⟩ := name_bytes h.nm
  obtain ⟨_, _, t3⟩ := tyW_bytes c.ty
  obtain ⟨_, _, s3, s4⟩ := itoa_small18 h.sc.1 h.sc.2
  have ht := tyN_W h.ty.1 h.ty.2
  refine ⟨?_, ?_, ?_⟩
  · unfold wordsC colV
    simp only [ht]
    rw [if_neg (by have := h.ty.1; omega)]
    have hm := mkS_of c.nm
    by_cases h5 : c.ty = 5
    · rw [if_pos h5, if_pos h5]
      cases hn : c.nu with
      | true => simp only [List.cons_append, List.nil_append, if_pos, s4, nuV]; exact congrArg some (col_eta hm h5.symm rfl hn.symm)
      | false => simp only [if_neg Bool.false_ne_true, List.append_nil, s4, nuV]; exact congrArg some (col_eta hm h5.symm rfl hn.symm)
    · rw [if_neg h5, if_neg h5]
      have h0 := h.s0 h5
      cases hn : c.nu with
      | true => simp only [List.nil_append, if_pos, nuV]; exact congrArg some (col_eta hm rfl h0.symm hn.symm)
      | false => simp only [if_neg Bool.false_ne_true, List.append_nil, nuV]; exact congrArg some (col_eta hm rfl h0.symm hn.symm)
  · unfold wordsC isKey
    split
    · rename_i a b heq
      rw [List.cons.injEq] at heq
      rw [decide_eq_false_iff_not, ← heq.1]; exact n4
    · rfl
  · unfold wordsC
    intro hm
    rcases List.mem_cons.1 hm with e | hm
    · exact n3 e.symm
    · rcases List.mem_cons.1 hm with e | hm
      · exact t3 e.symm
      · rcases List.mem_append.1 hm with hm | hm
        · split at hm
          · rcases List.mem_cons.1 hm with e | hm
            · exact s3 e.symm
            · cases hm
          · cases hm
        · split at hm
          · rcases List.mem_cons.1 hm with e | hm
            · cases e
            · cases hm
          · cases hm
theorem goP_lines {l : List Col} (R : List UInt8) : ∀ (f : Nat) (cs : List Col) (line : Int), (∀ c ∈ l, ColGood c) → (linesC l ++ R).length < f → ∃ f' line', R.length < f' ∧ 0 < line' - line + 1 ∧ goP f (linesC l ++ R) line cs [] 0 = goP f' R line' (cs ++ l) [] 0 := by
  induction l with
  | nil => intro f cs line _ hf; exact ⟨f, line, hf, by omega, by rw [List.append_nil]; rfl⟩
  | cons c l ih =>
    intro f cs line hg hf
    have hc := hg c (by simp)
    obtain ⟨w1, w2⟩ := words_line hc
    obtain ⟨w3, w4, w5⟩ := words_col hc
    have e : linesC (c :: l) ++ R = (colA c ++ colB c ++ colC c) ++ 10 :: (linesC l ++ R) := by simp [linesC, colLine]
    rw [e] at hf ⊢
    obtain ⟨lt, lr⟩ := line_of (r := linesC l ++ R) w2
    match f, hf with
    | 0, hf => omega
    | f + 1, hf =>
      rw [List.length_append, List.length_cons] at hf
      rw [goP_col (c := c) (by simp) (by rw [lt, lr, w1]; rintro (h | h | h); cases h; omega; exact w5 h) (by rw [lt, w1, w4]) (by rw [lt, w1, w3]), lr, List.tail_cons]
      obtain ⟨f', l', h1, h2, h3⟩ := ih f (cs ++ [c]) (line + 1) (fun d hd => hg d (by simp [hd])) (by omega)
      exact ⟨f', l', h1, by omega, by rw [h3, List.append_assoc]; rfl⟩
/-- Parse reads what Format writes. -/
theorem spar_back {l : List Col} {key : Int} (h : schkV l key = 0) : sparV (linesC l ++ keyC l key) = ((l, key), 0, 0) := by
  obtain ⟨h1, h2, h3, h4, h5⟩ := schk_valid h
  have hG := schk_good h
  have hlen1 := linesC_len h3
  obtain ⟨c, hc⟩ : ∃ c, l[key.toNat]? = some c := ⟨_, List.getElem?_eq_getElem (by omega)⟩
  obtain ⟨g1, g2⟩ := hG _ _ hc
  have hk : keyC l key = keyL c.nm := by unfold keyC; rw [hc]
  have hnm := nameB_len g1.nm
  have hkl : (keyL c.nm).length ≤ 21 := by unfold keyL; simp only [List.length_append, List.length_cons, List.length_nil, size_data]; omega
  rw [hk]
  unfold sparV
  rw [if_neg (by rw [List.length_append]; omega)]
  obtain ⟨f, line, hf, hl, he⟩ := goP_lines (l := l) (keyL c.nm) ((linesC l ++ keyL c.nm).length + 1) [] 1 (fun d hd => by
    obtain ⟨j, hj⟩ := List.mem_iff_getElem?.1 hd
    exact (hG _ _ hj).1) (by omega)
  rw [he, List.nil_append]
  obtain ⟨n1, n2, n3, n4⟩ := name_bytes g1.nm
  have e : keyL c.nm = (keyW ++ 32 :: c.nm.data.toList) ++ 10 :: [] := by unfold keyL keyW; simp
  have hk10 : ∀ x ∈ keyW ++ 32 :: c.nm.data.toList, x ≠ 10 := by
    intro x hx
    rcases List.mem_append.1 hx with hx | hx
    · have : ∀ y ∈ keyW, y ≠ 10 := by decide
      exact this x hx
    · rcases List.mem_cons.1 hx with rfl | hx
      · decide
      · exact n2 x hx
  have hw : splitC 32 (keyW ++ 32 :: c.nm.data.toList) = [keyW, c.nm.data.toList] := by
    rw [splitC_app (by decide), splitC_no n1]
  rw [e] at hf ⊢
  obtain ⟨lt, lr⟩ := line_of (r := []) hk10
  match f, hf with
  | 0, hf => omega
  | 1, hf => simp at hf
  | f + 2, hf =>
    rw [goP_key (by simp) (by
      rw [lt, lr, hw]
      rintro (h | h | h)
      · cases h
      · omega
      · rcases List.mem_cons.1 h with h | h
        · cases h
        · rcases List.mem_cons.1 h with h | h
          · exact n3 h.symm
          · cases h) (by rw [lt, hw]; rfl), lr, lt, hw, List.tail_cons, goP_nil]
    show finP l c.nm.data.toList line = _
    unfold finP
    rw [if_neg (by omega), mkS_of, g2, if_neg (by omega), show ((key.toNat : Nat) : Int) = key by omega, if_neg (by rw [h]; simp)]
end Go.Proofs.YtojfhlppiicpbaaDoor
