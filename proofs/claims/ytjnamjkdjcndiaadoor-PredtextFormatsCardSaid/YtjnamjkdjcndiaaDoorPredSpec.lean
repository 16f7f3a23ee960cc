/-
  Predicates in plain Lean: their first error, the texts of nodes and their lengths, what Format answers.
-/
import Derived.Test.YtjnamjkdjcndiaaDoorNd
import Derived.Test.YtjnamjkdjcndiaaDoorSChk
import Derived.Test.YtjnamjkdjcndiaaDoorVFmt1
namespace Go.Proofs.YtjnamjkdjcndiaaDoor
def wordP (op : Int) : List UInt8 := match op.toNat with
  | 1 => [101, 113]
  | 2 => [110, 101]
  | 3 => [108, 116]
  | 4 => [108, 101]
  | 5 => [103, 116]
  | 6 => [103, 101]
  | 7 => [105, 110]
  | 8 => [110, 117, 108, 108]
  | 9 => [97, 110, 100]
  | 10 => [111, 114]
  | 11 => [110, 111, 116]
  | _ => []
theorem wordP_len (op : Int) : (wordP op).length ≤ 4 := by unfold wordP; split <;> simp
def listE (c : Col) (l : List Vl) (i : Nat) : Int := match l[i]? with
  | some x => checkV c.ty true x.nu x.n x.s
  | none => 0
/-- The error of a node behind i others. -/
def nodeV (cs : List Col) (i : Nat) (x : Nd) : Int :=
  if x.op < 1 ∨ 11 < x.op then 1
  else if 9 ≤ x.op then (if x.a < 0 ∨ (i : Int) ≤ x.a ∨ (x.op ≠ 11 ∧ (x.b < 0 ∨ (i : Int) ≤ x.b)) then 4 else 0)
  else if x.col < 0 ∨ (cs.length : Int) ≤ x.col then 4
  else match cs[x.col.toNat]? with
    | none => 4
    | some c => if x.op = 8 then 0 else if x.op ≠ 7 then (if x.v.nu = true then 12 else checkV c.ty c.nu x.v.nu x.v.n x.v.s)
      else if x.l.length = 0 then 1 else if 16 < x.l.length then 7 else firstE (listE c x.l) x.l.length
def nodeE (cs : List Col) (p : List Nd) (i : Nat) : Int := match p[i]? with
  | some x => nodeV cs i x
  | none => 0
/-- The first error of a predicate. -/
def pchkV (cs : List Col) (key : Int) (p : List Nd) : Int :=
  if schkV cs key ≠ 0 then schkV cs key else if 64 < p.length then 7 else firstE (nodeE cs p) p.length
theorem nodeE_at {cs : List Col} {p : List Nd} {i : Nat} {x : Nd} (h : p[i]? = some x) : nodeE cs p i = nodeV cs i x := by unfold nodeE; rw [h]
theorem listE_at {c : Col} {l : List Vl} {i : Nat} {x : Vl} (h : l[i]? = some x) : listE c l i = checkV c.ty true x.nu x.n x.s := by unfold listE; rw [h]
theorem firstE_allz {f : Nat → Int} : ∀ {n : Nat}, firstE f n = 0 → ∀ k, k < n → f k = 0
  | 0, _, k, hk => by omega
  | n + 1, h, k, hk => by
    simp only [firstE] at h
    by_cases h0 : firstE f n ≠ 0
    · rw [if_pos h0] at h; exact absurd h h0
    · rw [if_neg h0] at h
      by_cases e : k = n
      · subst e; exact h
      · exact firstE_allz (by simpa using h0) k (by omega)
/-- The values that a node's text names. -/
def valsP (x : Nd) : List Vl := if x.op < 7 then [x.v] else if x.op = 8 then [] else x.l
noncomputable def vtxt (c : Col) (x : Vl) : List UInt8 := (fmtV c.ty c.sc true x.nu x.n x.s).1
noncomputable def vtxts (c : Col) (l : List Vl) : List UInt8 := l.flatMap fun v => 32 :: vtxt c v
noncomputable def leafC (c : Col) (x : Nd) : List UInt8 := 40 :: (wordP x.op ++ (32 :: c.nm.data.toList) ++ vtxts c (valsP x) ++ [41])
noncomputable def leafP (cs : List Col) (x : Nd) : List UInt8 := match cs[x.col.toNat]? with
  | some c => leafC c x
  | none => []
noncomputable def txtN (cs : List Col) (T : List (List UInt8)) (x : Nd) : List UInt8 :=
  if x.op < 9 then leafP cs x
  else if x.op = 11 then [40, 110, 111, 116, 32] ++ T.getD x.a.toNat [] ++ [41]
  else (40 :: wordP x.op ++ [32]) ++ T.getD x.a.toNat [] ++ [32] ++ T.getD x.b.toNat [] ++ [41]
noncomputable def txtO (cs : List Col) (T : List (List UInt8)) : Option Nd → List UInt8
  | some x => txtN cs T x
  | none => []
noncomputable def txts (cs : List Col) (p : List Nd) : Nat → List (List UInt8)
  | 0 => []
  | k + 1 => txts cs p k ++ [txtO cs (txts cs p k) p[k]?]
noncomputable def sizN (cs : List Col) (S : List Nat) (x : Nd) : Nat :=
  min (if x.op < 9 then (leafP cs x).length else if x.op = 11 then 6 + S.getD x.a.toNat 0 else 4 + (wordP x.op).length + S.getD x.a.toNat 0 + S.getD x.b.toNat 0) 65537
noncomputable def sizO (cs : List Col) (S : List Nat) : Option Nd → Nat
  | some x => sizN cs S x
  | none => 0
noncomputable def sizs (cs : List Col) (p : List Nd) : Nat → List Nat
  | 0 => []
  | k + 1 => sizs cs p k ++ [sizO cs (sizs cs p k) p[k]?]
theorem txts_len (cs : List Col) (p : List Nd) : ∀ k, (txts cs p k).length = k
  | 0 => rfl
  | k + 1 => by show (_ ++ [_]).length = _; rw [List.length_append, txts_len cs p k]; rfl
theorem sizs_len (cs : List Col) (p : List Nd) : ∀ k, (sizs cs p k).length = k
  | 0 => rfl
  | k + 1 => by show (_ ++ [_]).length = _; rw [List.length_append, sizs_len cs p k]; rfl
/-- The text of node i, and its length where it is at most 65536. -/
noncomputable def txtI (cs : List Col) (p : List Nd) (i : Nat) : List UInt8 := (txts cs p (i + 1)).getD i []
noncomputable def sizI (cs : List Col) (p : List Nd) (i : Nat) : Nat := (sizs cs p (i + 1)).getD i 0
theorem txts_get (cs : List Col) (p : List Nd) {i : Nat} : ∀ {k : Nat}, i < k → (txts cs p k).getD i [] = txtI cs p i
  | 0, h => by omega
  | k + 1, h => by
    by_cases e : i = k
    · subst e; rfl
    · have ih := txts_get cs p (i := i) (k := k) (by omega)
      rw [← ih]
      show (_ ++ [_]).getD i [] = _
      rw [List.getD_eq_getElem?_getD, List.getD_eq_getElem?_getD, List.getElem?_append_left (by rw [txts_len]; omega)]
theorem sizs_get (cs : List Col) (p : List Nd) {i : Nat} : ∀ {k : Nat}, i < k → (sizs cs p k).getD i 0 = sizI cs p i
  | 0, h => by omega
  | k + 1, h => by
    by_cases e : i = k
    · subst e; rfl
    · have ih := sizs_get cs p (i := i) (k := k) (by omega)
      rw [← ih]
      show (_ ++ [_]).getD i 0 = _
      rw [List.getD_eq_getElem?_getD, List.getD_eq_getElem?_getD, List.getElem?_append_left (by rw [sizs_len]; omega)]
theorem txtI_eq {cs : List Col} {p : List Nd} {i : Nat} {x : Nd} (h : p[i]? = some x) : txtI cs p i = txtN cs (txts cs p i) x := by
  unfold txtI
  show (_ ++ [_]).getD i [] = _
  rw [List.getD_eq_getElem?_getD, List.getElem?_append_right (by rw [txts_len]; omega), txts_len, Nat.sub_self, h]
  rfl
theorem sizI_eq {cs : List Col} {p : List Nd} {i : Nat} {x : Nd} (h : p[i]? = some x) : sizI cs p i = sizN cs (sizs cs p i) x := by
  unfold sizI
  show (_ ++ [_]).getD i 0 = _
  rw [List.getD_eq_getElem?_getD, List.getElem?_append_right (by rw [sizs_len]; omega), sizs_len, Nat.sub_self, h]
  rfl
/-- A valid predicate. -/
structure PredOk (cs : List Col) (p : List Nd) : Prop where
  len : p.length ≤ 64
  node : ∀ i x, p[i]? = some x → nodeV cs i x = 0
theorem pchk_ok {cs : List Col} {key : Int} {p : List Nd} (h : pchkV cs key p = 0) : schkV cs key = 0 ∧ PredOk cs p := by
  unfold pchkV at h
  by_cases h1 : schkV cs key ≠ 0
  · rw [if_pos h1] at h; exact absurd h h1
  · rw [if_neg h1] at h
    by_cases h2 : 64 < p.length
    · rw [if_pos h2] at h; cases h
    · rw [if_neg h2] at h
      refine ⟨by simpa using h1, by omega, fun i x hx => ?_⟩
      have := firstE_allz h i (List.getElem?_eq_some_iff.1 hx).1
      rw [nodeE_at hx] at this; exact this
section
variable {cs : List Col} {i : Nat} {x : Nd}
theorem node_op (h : nodeV cs i x = 0) : 1 ≤ x.op ∧ x.op ≤ 11 := by
  unfold nodeV at h
  by_cases h1 : x.op < 1 ∨ 11 < x.op
  · rw [if_pos h1] at h; cases h
  · omega
theorem node_sub (h : nodeV cs i x = 0) (h9 : 9 ≤ x.op) : 0 ≤ x.a ∧ x.a < i ∧ (x.op ≠ 11 → 0 ≤ x.b ∧ x.b < i) := by
  have := node_op h
  unfold nodeV at h
  rw [if_neg (by omega), if_pos h9] at h
  by_cases h2 : x.a < 0 ∨ (i : Int) ≤ x.a ∨ (x.op ≠ 11 ∧ (x.b < 0 ∨ (i : Int) ≤ x.b))
  · rw [if_pos h2] at h; cases h
  · refine ⟨by omega, by omega, fun hn => ?_⟩
    have : ¬ (x.b < 0 ∨ (i : Int) ≤ x.b) := fun hb => h2 (.inr (.inr ⟨hn, hb⟩))
    omega
theorem node_col (h : nodeV cs i x = 0) (h9 : x.op < 9) : 0 ≤ x.col ∧ x.col < cs.length ∧ ∃ c, cs[x.col.toNat]? = some c := by
  have := node_op h
  unfold nodeV at h
  rw [if_neg (by omega), if_neg (by omega)] at h
  by_cases h2 : x.col < 0 ∨ (cs.length : Int) ≤ x.col
  · rw [if_pos h2] at h; cases h
  · exact ⟨by omega, by omega, _, List.getElem?_eq_getElem (show x.col.toNat < cs.length by omega)⟩
/-- The values of a valid node's text are valid values of its column, which may be null. -/
theorem node_vals (h : nodeV cs i x = 0) (h9 : x.op < 9) {c : Col} (hc : cs[x.col.toNat]? = some c) : (∀ v ∈ valsP x, checkV c.ty true v.nu v.n v.s = 0) ∧ (valsP x).length ≤ 16 ∧ (x.op < 7 → x.v.nu = false) := by
  have h0 := node_op h
  obtain ⟨k1, k2, _⟩ := node_col h h9
  unfold nodeV at h
  rw [if_neg (by omega), if_neg (by omega), if_neg (by omega), hc] at h
  simp only at h
  unfold valsP
  by_cases h8 : x.op = 8
  · rw [if_neg (by omega), if_pos h8]
    exact ⟨fun v hv => by simp at hv, by simp, fun h => by omega⟩
  · rw [if_neg h8] at h
    by_cases h7 : x.op = 7
    · rw [if_neg (by simp [h7])] at h
      rw [if_neg (by omega), if_neg h8]
      by_cases hl0 : x.l.length = 0
      · rw [if_pos hl0] at h; cases h
      · rw [if_neg hl0] at h
        by_cases hl16 : 16 < x.l.length
        · rw [if_pos hl16] at h; cases h
        · rw [if_neg hl16] at h
          refine ⟨fun v hv => ?_, by omega, fun h => by omega⟩
          obtain ⟨j, hj⟩ := List.mem_iff_getElem?.1 hv
          have := firstE_allz h j (List.getElem?_eq_some_iff.1 hj).1
          rw [listE_at hj] at this; exact this
    · rw [if_pos h7] at h
      rw [if_pos (by omega)]
      by_cases hn : x.v.nu = true
      · rw [if_pos hn] at h; cases h
      · rw [if_neg hn] at h
        refine ⟨fun v hv => ?_, by simp, fun _ => by simpa using hn⟩
        simp at hv
        subst hv
        have hf : x.v.nu = false := by simpa using hn
        rw [hf] at h ⊢
        unfold checkV at h ⊢
        simpa using h
end
theorem sizI_le (cs : List Col) (p : List Nd) (i : Nat) : sizI cs p i ≤ 65537 := by
  cases h : p[i]? with
  | some x => rw [sizI_eq h]; unfold sizN; omega
  | none =>
    unfold sizI
    show (_ ++ [_]).getD i 0 ≤ _
    rw [List.getD_eq_getElem?_getD, List.getElem?_append_right (by rw [sizs_len]; omega), sizs_len, Nat.sub_self, h]
    simp [sizO]
/-- Where the length of a node's text is at most 65536, it is the text's, and so are the lengths of the nodes below it. -/
theorem siz_txt {cs : List Col} {p : List Nd} (hp : PredOk cs p) : ∀ (i : Nat) (x : Nd), p[i]? = some x → sizI cs p i ≤ 65536 → (txtI cs p i).length = sizI cs p i ∧ (9 ≤ x.op → sizI cs p x.a.toNat + 6 ≤ sizI cs p i ∧ (x.op ≠ 11 → sizI cs p x.a.toNat + sizI cs p x.b.toNat + 4 + (wordP x.op).length = sizI cs p i)) := by
  intro i
  induction i using Nat.strongRecOn with
  | _ i ih =>
    intro x hx hs
    have hn := hp.node i x hx
    have hl := (List.getElem?_eq_some_iff.1 hx).1
    rw [sizI_eq hx] at hs
    rw [txtI_eq hx, sizI_eq hx]
    unfold txtN
    unfold sizN at hs ⊢
    by_cases h9 : x.op < 9
    · rw [if_pos h9] at hs ⊢
      rw [if_pos h9]
      exact ⟨by omega, fun h => by omega⟩
    · obtain ⟨a0, a1, hb⟩ := node_sub hn (by omega)
      have hxa := List.getElem?_eq_getElem (show x.a.toNat < p.length by omega)
      have ga : (txts cs p i).getD x.a.toNat [] = txtI cs p x.a.toNat := txts_get cs p (by omega)
      have sa : (sizs cs p i).getD x.a.toNat 0 = sizI cs p x.a.toNat := sizs_get cs p (by omega)
      rw [if_neg h9] at hs ⊢
      rw [if_neg h9]
      by_cases h11 : x.op = 11
      · rw [if_pos h11] at hs ⊢
        rw [if_pos h11]
        rw [ga, sa]
        rw [sa] at hs
        have ha := (ih x.a.toNat (by omega) _ hxa (by omega)).1
        refine ⟨?_, fun _ => ⟨by omega, fun h => absurd h11 h⟩⟩
        simp only [List.length_append, List.length_cons, List.length_nil, ha]; omega
      · obtain ⟨b0, b1⟩ := hb h11
        have hxb := List.getElem?_eq_getElem (show x.b.toNat < p.length by omega)
        have gb : (txts cs p i).getD x.b.toNat [] = txtI cs p x.b.toNat := txts_get cs p (by omega)
        have sb : (sizs cs p i).getD x.b.toNat 0 = sizI cs p x.b.toNat := sizs_get cs p (by omega)
        rw [if_neg h11] at hs ⊢
        rw [if_neg h11]
        rw [ga, gb, sa, sb]
        rw [sa, sb] at hs
        have ha := (ih x.a.toNat (by omega) _ hxa (by omega)).1
        have hb := (ih x.b.toNat (by omega) _ hxb (by omega)).1
        have hw : 2 ≤ (wordP x.op).length := by
          have := node_op hn
          have : x.op = 9 ∨ x.op = 10 := by omega
          rcases this with e | e <;> rw [e] <;> decide
        refine ⟨?_, fun _ => ⟨by omega, fun _ => by omega⟩⟩
        simp only [List.length_append, List.length_cons, List.length_nil, ha, hb]; omega
theorem nv_op {cs : List Col} {i : Nat} {x : Nd} (h : x.op < 1 ∨ 11 < x.op) : nodeV cs i x = 1 := by unfold nodeV; rw [if_pos h]
theorem nv_sub {cs : List Col} {i : Nat} {x : Nd} (h : ¬(x.op < 1 ∨ 11 < x.op)) (h9 : 9 ≤ x.op) : nodeV cs i x = if x.a < 0 ∨ (i : Int) ≤ x.a ∨ (x.op ≠ 11 ∧ (x.b < 0 ∨ (i : Int) ≤ x.b)) then 4 else 0 := by unfold nodeV; rw [if_neg h, if_pos h9]
theorem nv_col {cs : List Col} {i : Nat} {x : Nd} (h : ¬(x.op < 1 ∨ 11 < x.op)) (h9 : ¬ 9 ≤ x.op) (hc : x.col < 0 ∨ (cs.length : Int) ≤ x.col) : nodeV cs i x = 4 := by unfold nodeV; rw [if_neg h, if_neg h9, if_pos hc]
theorem nv_leaf {cs : List Col} {i K : Nat} {x : Nd} {c : Col} (h : ¬(x.op < 1 ∨ 11 < x.op)) (h9 : ¬ 9 ≤ x.op) (hK : x.col = (K : Int)) (hc : cs[K]? = some c) :
    nodeV cs i x = if x.op = 8 then 0 else if x.op ≠ 7 then (if x.v.nu = true then 12 else checkV c.ty c.nu x.v.nu x.v.n x.v.s)
      else if x.l.length = 0 then 1 else if 16 < x.l.length then 7 else firstE (listE c x.l) x.l.length := by
  have hl := (List.getElem?_eq_some_iff.1 hc).1
  unfold nodeV
  rw [if_neg h, if_neg h9, if_neg (by omega), show x.col.toNat = K by omega, hc]
theorem first_stop {f : Nat → Int} {k n : Nat} {r : Int} (h : firstE f k = 0) (hk : f k = r) (h0 : r ≠ 0) (hn : k < n) : firstE f n = r := by rw [firstE_hit h (by rw [hk]; exact h0) n hn, hk]
/-- What Format answers. -/
noncomputable def fmtP (cs : List Col) (key : Int) (p : List Nd) : List UInt8 × Int :=
  if pchkV cs key p ≠ 0 then ([], pchkV cs key p) else if p.length = 0 then ([], 0)
  else if 65536 < sizI cs p (p.length - 1) then ([], 7) else (txtI cs p (p.length - 1), 0)
end Go.Proofs.YtjnamjkdjcndiaaDoor
