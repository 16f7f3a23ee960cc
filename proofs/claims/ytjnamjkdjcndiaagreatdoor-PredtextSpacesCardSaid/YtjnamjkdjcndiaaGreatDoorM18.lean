/-
  Words, plain laws and contracts on which the walks lean, in one text.
-/
import Derived.Test.YtjnamjkdjcndiaaGreatDoorM17
import Derived.Test.YtjnamjkdjcndiaaGreatDoorM12
import Derived.Test.YtjnamjkdjcndiaaGreatDoorBytes
import Derived.Deep.LoopGhost
import Derived.Test.YtjnamjkdjcndiaaGreatDoorM16
namespace Go.Proofs.YtjnamjkdjcndiaaGreatDoor
set_option linter.unusedVariables false
structure GoodP (cs : List Col) (p : List Nd) : Prop where
  col : ∀ (k : Nat) (c : Col), cs[k]? = some c → ColGood c ∧ findC cs c.nm = k
  ok : PredOk cs p
  rv : ∀ x ∈ p, -9223372036854775808 ≤ x.v.n ∧ x.v.n ≤ 9223372036854775807
  rl : ∀ x ∈ p, ∀ v ∈ x.l, -9223372036854775808 ≤ v.n ∧ v.n ≤ 9223372036854775807
theorem vl_back (v : Vl) : vlP (v.nu, v.n, v.s.data.toList) = v := by
  unfold vlP; cases v with | mk a b c => cases c; rfl
def nrm (x : Nd) : Nd := ⟨x.op, x.col, if x.op < 7 then x.v else v0, if x.op = 7 then x.l else [], 0, 0⟩
theorem okW_name {l : List UInt8} (h : nameB l = true) : l ≠ [] ∧ okW l := by
  unfold nameB at h
  simp only [Bool.and_eq_true, decide_eq_true_eq, Bool.not_eq_true', List.isEmpty_eq_false_iff, bne_iff_ne] at h
  obtain ⟨⟨⟨⟨h1, _⟩, _⟩, _⟩, h5⟩ := h
  refine ⟨h1, fun x hx => ?_⟩
  have hx := List.all_eq_true.1 h5 x hx
  unfold okB at hx
  simp at hx
  unfold wdB
  have e : ∀ n : Nat, n < 256 → (x = UInt8.ofNat n) → x.toNat = n := fun n hn h => by rw [h, UInt8.toNat_ofNat']; omega
  have h1 : x ≠ 32 := fun h => by have := e 32 (by decide) h; omega
  have h2 : x ≠ 40 := fun h => by have := e 40 (by decide) h; omega
  have h3 : x ≠ 41 := fun h => by have := e 41 (by decide) h; omega
  simp [h1, h2, h3]
theorem okW_word {op : Int} (h1 : 1 ≤ op) (h2 : op ≤ 11) : wordP op ≠ [] ∧ okW (wordP op) ∧ opW (wordP op) = op.toNat := by
  obtain ⟨n, rfl⟩ : ∃ n : Nat, op = n := ⟨op.toNat, by omega⟩
  have : ∀ k : Fin 12, 1 ≤ k.val → wordP (k.val : Int) ≠ [] ∧ (wordP (k.val : Int)).all wdB = true ∧ opW (wordP (k.val : Int)) = (k.val : Int).toNat := by decide
  have := this ⟨n, by omega⟩ (by show 1 ≤ n; omega)
  exact ⟨this.1, List.all_eq_true.1 this.2.1, this.2.2⟩
theorem vtxt_ok {c : Col} {v : Vl} (hc : ColGood c) (h : checkV c.ty true v.nu v.n v.s = 0) (hr : -9223372036854775808 ≤ v.n ∧ v.n ≤ 9223372036854775807) :
    vtxt c v ≠ [] ∧ okW (vtxt c v) ∧ vparV c.ty c.sc true (vtxt c v) = ((v.nu, v.n, v.s.data.toList), 0) ∧ (v.nu = false → vparV c.ty c.sc false (vtxt c v) = ((v.nu, v.n, v.s.data.toList), 0)) := by
  obtain ⟨L, h1, h2, h3, h4⟩ := text_ok hc.sc h hr
  unfold vtxt
  rw [h1]
  refine ⟨h2, h3, h4, fun hn => ?_⟩
  by_cases hl : L = [110, 117, 108, 108]
  · have hty := (chk_val h).1
    have hsc := hc.sc
    have hsca : scaB c.sc = true := by unfold scaB; simp; omega
    have hbad : ¬((c.ty < 1 ∨ 5 < c.ty) ∨ (c.ty = 5 ∧ scaB c.sc = false)) := by rw [hsca]; rintro (h | ⟨_, h⟩); omega; cases h
    rw [vpar_null hbad hl, if_pos rfl, hn] at h4
    cases h4
  · rw [← (vpar_rest_null hl).2]; exact h4
noncomputable def leafTk (c : Col) (x : Nd) : List (List UInt8) := [40] :: wordP x.op :: c.nm.data.toList :: ((valsP x).map (vtxt c) ++ [[41]])
theorem toks_vals {c : Col} (hc : ColGood c) (R : List UInt8) : ∀ (l : List Vl) (cur : List UInt8), cur ≠ [] → (∀ v ∈ l, vtxt c v ≠ [] ∧ okW (vtxt c v)) → toksA cur (vtxts c l ++ 41 :: R) = cur :: (l.map (vtxt c) ++ [41] :: toksA [] R)
  | [], cur, h0, _ => by
    show toksA cur (41 :: R) = _
    rw [toks_par _ _ (.inr rfl), flush_ne h0]; rfl
  | v :: l, cur, h0, h => by
    obtain ⟨v1, v2⟩ := h v (by simp)
    have e : vtxts c (v :: l) ++ 41 :: R = 32 :: (vtxt c v ++ (vtxts c l ++ 41 :: R)) := by
      unfold vtxts; rw [List.flatMap_cons]; simp
    rw [e, toks_sp, flush_ne h0, toks_word _ _ _ v2, List.nil_append, toks_vals hc R l _ v1 (fun y hy => h y (by simp [hy]))]
    simp
theorem toks_leaf {c : Col} {x : Nd} (hc : ColGood c) (h1 : 1 ≤ x.op) (h2 : x.op ≤ 11) (hv : ∀ v ∈ valsP x, vtxt c v ≠ [] ∧ okW (vtxt c v)) (R : List UInt8) : toksA [] (leafC c x ++ R) = leafTk c x ++ toksA [] R := by
  obtain ⟨w1, w2, _⟩ := okW_word h1 h2
  obtain ⟨n1, n2⟩ := okW_name hc.nm
  have e : leafC c x ++ R = 40 :: (wordP x.op ++ (32 :: (c.nm.data.toList ++ (vtxts c (valsP x) ++ 41 :: R)))) := by unfold leafC; simp
  rw [e, toks_par _ _ (.inl rfl), toks_word _ _ _ w2, List.nil_append, toks_sp, flush_ne w1, toks_word _ _ _ n2, List.nil_append, toks_vals hc R _ _ n1 hv]
  unfold leafTk
  simp [flushT]
theorem toks_snoc (R : List UInt8) : ∀ (X cur : List UInt8), toksA cur (X ++ 41 :: R) = toksA cur (X ++ [41]) ++ toksA [] R
  | [], cur => by
    show toksA cur (41 :: R) = toksA cur [41] ++ _
    rw [toks_par _ _ (.inr rfl), toks_par _ _ (.inr rfl)]; simp [toksA, flushT]
  | b :: X, cur => by
    show toksA cur (b :: (X ++ 41 :: R)) = toksA cur (b :: (X ++ [41])) ++ _
    rw [toksA, toksA]
    split
    · rw [toks_snoc R X []]; simp
    · split
      · rw [toks_snoc R X []]; simp
      · exact toks_snoc R X _
section
variable {cs : List Col} {p : List Nd}
theorem GoodP.leaf (h : GoodP cs p) {i : Nat} {x : Nd} (hx : p[i]? = some x) (h9 : x.op < 9) : ∃ c, cs[x.col.toNat]? = some c ∧ ColGood c ∧ findC cs c.nm = x.col ∧ 1 ≤ x.op ∧ (valsP x).length ≤ 16 ∧ (x.op < 7 → x.v.nu = false) ∧ (x.op = 7 → x.l ≠ []) ∧
    ∀ v ∈ valsP x, vtxt c v ≠ [] ∧ okW (vtxt c v) ∧ vparV c.ty c.sc true (vtxt c v) = ((v.nu, v.n, v.s.data.toList), 0) ∧ (v.nu = false → vparV c.ty c.sc false (vtxt c v) = ((v.nu, v.n, v.s.data.toList), 0)) := by
  have hn := h.ok.node i x hx
  obtain ⟨c0, c1, c, hc⟩ := node_col hn h9
  obtain ⟨g1, g2⟩ := h.col _ c hc
  obtain ⟨k1, k2, k3⟩ := node_vals hn h9 hc
  have hm := List.mem_of_getElem? hx
  refine ⟨c, hc, g1, by omega, (node_op hn).1, k2, k3, fun h7 e => ?_, fun v hv => vtxt_ok g1 (k1 v hv) ?_⟩
  · rw [nv_leaf (K := x.col.toNat) (by have := node_op hn; omega) (by omega) (by omega) hc, if_neg (by omega), if_neg (by omega), e] at hn
    simp at hn
  · unfold valsP at hv
    by_cases h7 : x.op < 7
    · rw [if_pos h7] at hv; simp at hv; subst hv; exact h.rv x hm
    · rw [if_neg h7] at hv
      by_cases h8 : x.op = 8
      · rw [if_pos h8] at hv; simp at hv
      · rw [if_neg h8] at hv; exact h.rl x hm v hv
theorem GoodP.sub (h : GoodP cs p) {i : Nat} {x : Nd} (hx : p[i]? = some x) (h9 : ¬ x.op < 9) : (x.op = 9 ∨ x.op = 10 ∨ x.op = 11) ∧ x.a.toNat < i ∧ (∃ y, p[x.a.toNat]? = some y) ∧ (x.op ≠ 11 → x.b.toNat < i ∧ ∃ y, p[x.b.toNat]? = some y) := by
  have hn := h.ok.node i x hx
  obtain ⟨a0, a1, hb⟩ := node_sub hn (by omega)
  have := node_op hn
  have hl := (List.getElem?_eq_some_iff.1 hx).1
  refine ⟨by omega, by omega, ⟨_, List.getElem?_eq_getElem (show x.a.toNat < p.length by omega)⟩, fun h11 => ?_⟩
  obtain ⟨b0, b1⟩ := hb h11
  exact ⟨by omega, ⟨_, List.getElem?_eq_getElem (show x.b.toNat < p.length by omega)⟩⟩
theorem xt_leaf (h : GoodP cs p) {i : Nat} {x : Nd} (hx : p[i]? = some x) (h9 : x.op < 9) {c : Col} (hc : cs[x.col.toNat]? = some c) : txtI cs p i = leafC c x := by
  rw [txtI_eq hx]; unfold txtN; rw [if_pos h9]; unfold leafP; rw [hc]
theorem xt_not (h : GoodP cs p) {i : Nat} {x : Nd} (hx : p[i]? = some x) (h11 : x.op = 11) : txtI cs p i = [40, 110, 111, 116, 32] ++ txtI cs p x.a.toNat ++ [41] := by
  obtain ⟨_, ha, _, _⟩ := h.sub hx (by omega)
  rw [txtI_eq hx]; unfold txtN; rw [if_neg (by omega), if_pos h11, txts_get cs p ha]
theorem xt_two (h : GoodP cs p) {i : Nat} {x : Nd} (hx : p[i]? = some x) (h9 : x.op = 9 ∨ x.op = 10) : txtI cs p i = (40 :: wordP x.op ++ [32]) ++ txtI cs p x.a.toNat ++ [32] ++ txtI cs p x.b.toNat ++ [41] := by
  obtain ⟨_, ha, _, hb⟩ := h.sub hx (by omega)
  rw [txtI_eq hx]; unfold txtN; rw [if_neg (by omega), if_neg (by omega), txts_get cs p ha, txts_get cs p (hb (by omega)).1]
theorem txt_end (h : GoodP cs p) {i : Nat} {x : Nd} (hx : p[i]? = some x) : ∃ X, txtI cs p i = X ++ [41] := by
  by_cases h9 : x.op < 9
  · obtain ⟨c, hc, _⟩ := h.leaf hx h9
    rw [xt_leaf h hx h9 hc]; unfold leafC
    exact ⟨40 :: (wordP x.op ++ (32 :: c.nm.data.toList) ++ vtxts c (valsP x)), by simp⟩
  · obtain ⟨ho, _⟩ := h.sub hx h9
    by_cases h11 : x.op = 11
    · rw [xt_not h hx h11]; exact ⟨_, rfl⟩
    · rw [xt_two h hx (by omega)]; exact ⟨_, rfl⟩
noncomputable def tkI (cs : List Col) (p : List Nd) (i : Nat) : List (List UInt8) := toksA [] (txtI cs p i)
theorem tkI_app (h : GoodP cs p) {i : Nat} {x : Nd} (hx : p[i]? = some x) (R : List UInt8) : toksA [] (txtI cs p i ++ R) = tkI cs p i ++ toksA [] R := by
  obtain ⟨X, hX⟩ := txt_end h hx
  unfold tkI
  rw [hX, List.append_assoc]
  exact toks_snoc R X []
theorem tkI_leaf (h : GoodP cs p) {i : Nat} {x : Nd} (hx : p[i]? = some x) (h9 : x.op < 9) {c : Col} (hc : cs[x.col.toNat]? = some c) : tkI cs p i = leafTk c x := by
  obtain ⟨c', hc', g, _, h1, _, _, _, hv⟩ := h.leaf hx h9
  obtain rfl : c' = c := by rw [hc] at hc'; injection hc' with e; exact e.symm
  have := toks_leaf g h1 (by omega) (fun v hvv => ⟨(hv v hvv).1, (hv v hvv).2.1⟩) []
  unfold tkI
  rw [xt_leaf h hx h9 hc]
  rw [List.append_nil] at this
  rw [this]
  simp [toksA, flushT]
theorem tkI_not (h : GoodP cs p) {i : Nat} {x : Nd} (hx : p[i]? = some x) (h11 : x.op = 11) : tkI cs p i = [40] :: wordP 11 :: (tkI cs p x.a.toNat ++ [[41]]) := by
  obtain ⟨_, _, ⟨y, hy⟩, _⟩ := h.sub hx (by omega)
  have e := tkI_app h hy [41]
  have hw := okW_word (op := 11) (by decide) (by decide)
  unfold tkI at e ⊢
  rw [xt_not h hx h11]
  rw [show [40, 110, 111, 116, 32] ++ txtI cs p x.a.toNat ++ [41] = 40 :: (wordP 11 ++ (32 :: (txtI cs p x.a.toNat ++ [41]))) by show _ = 40 :: ([110, 111, 116] ++ _); simp]
  rw [toks_par _ _ (.inl rfl), toks_word _ _ _ hw.2.1, List.nil_append, toks_sp, flush_ne hw.1, e]
  simp [toksA, flushT]
theorem tkI_two (h : GoodP cs p) {i : Nat} {x : Nd} (hx : p[i]? = some x) (h9 : x.op = 9 ∨ x.op = 10) : tkI cs p i = [40] :: wordP x.op :: (tkI cs p x.a.toNat ++ (tkI cs p x.b.toNat ++ [[41]])) := by
  obtain ⟨_, _, ⟨y, hy⟩, hb⟩ := h.sub hx (by omega)
  obtain ⟨_, z, hz⟩ := hb (by omega)
  have e2 := tkI_app h hz [41]
  have e := tkI_app h hy (32 :: (txtI cs p x.b.toNat ++ [41]))
  rw [toks_sp, e2] at e
  have hw := okW_word (op := x.op) (by omega) (by omega)
  unfold tkI at e ⊢
  rw [xt_two h hx h9]
  rw [show (40 :: wordP x.op ++ [32]) ++ txtI cs p x.a.toNat ++ [32] ++ txtI cs p x.b.toNat ++ [41] = 40 :: (wordP x.op ++ (32 :: (txtI cs p x.a.toNat ++ (32 :: (txtI cs p x.b.toNat ++ [41]))))) by simp]
  rw [toks_par _ _ (.inl rfl), toks_word _ _ _ hw.2.1, List.nil_append, toks_sp, flush_ne hw.1, e]
  simp [toksA, flushT]
theorem toks_len : ∀ (L cur : List UInt8), (toksA cur L).length ≤ L.length + (flushT cur).length
  | [], cur => by rw [toksA]; simp
  | b :: L, cur => by
    rw [toksA]
    split
    · have := toks_len L []
      simp only [List.length_append, List.length_cons, flushT, List.length_nil] at this ⊢; omega
    · split
      · have := toks_len L []
        simp only [List.length_append, List.length_cons, flushT, List.length_nil] at this ⊢; omega
      · have := toks_len L (cur ++ [b])
        have e : (flushT (cur ++ [b])).length = 1 := by rw [flush_ne (by simp)]; rfl
        simp only [List.length_cons] at this ⊢; omega
theorem wdT_word {w : List UInt8} (h : okW w) (R : List (List UInt8)) : wdT (w :: R) = (w, R) := by
  show (if _ then _ else _) = _
  rw [if_neg]
  rintro (e | e)
  · have := h 40 (by rw [e]; simp); exact absurd this (by decide)
  · have := h 41 (by rw [e]; simp); exact absurd this (by decide)
theorem exp_hit (b : UInt8) (r : List (List UInt8)) : expT b ([b] :: r) = .ok r := by
  show (if [b] = [b] then _ else _) = _
  rw [if_pos rfl]
theorem wdT_close (R : List (List UInt8)) : wdT ([41] :: R) = ([], [41] :: R) := rfl
section
variable {cs : List Col} {rec : List (List UInt8) → List Nd → Except Int (List (List UInt8) × List Nd)} {op f : Nat} {ts t1 t2 t3 : List (List UInt8)} {acc a2 a3 : List Nd} {e : Int} {x : Nd}
theorem argT_e1 (h : op = 9 ∨ op = 10) (h1 : rec ts acc = .error e) : argT cs rec op ts acc = .error e := by unfold argT; rw [if_pos h, h1]
theorem argT_e2 (h : op = 9 ∨ op = 10) (h1 : rec ts acc = .ok (t2, a2)) (h2 : rec t2 a2 = .error e) : argT cs rec op ts acc = .error e := by unfold argT; rw [if_pos h, h1]; dsimp only; rw [h2]
theorem argT_o2 (h : op = 9 ∨ op = 10) (h1 : rec ts acc = .ok (t2, a2)) (h2 : rec t2 a2 = .ok (t3, a3)) : argT cs rec op ts acc = .ok (t3, ⟨op, 0, v0, [], (a2.length : Int) - 1, (a3.length : Int) - 1⟩, a3) := by unfold argT; rw [if_pos h, h1]; dsimp only; rw [h2]
theorem argT_n1 (h1 : rec ts acc = .error e) : argT cs rec 11 ts acc = .error e := by unfold argT; rw [if_neg (by decide), if_pos rfl, h1]
theorem argT_n2 (h1 : rec ts acc = .ok (t2, a2)) : argT cs rec 11 ts acc = .ok (t2, ⟨11, 0, v0, [], (a2.length : Int) - 1, 0⟩, a2) := by unfold argT; rw [if_neg (by decide), if_pos rfl, h1]
theorem argT_l (h : op ≤ 8) (h1 : leafT cs op ts = .ok (t2, x)) : argT cs rec op ts acc = .ok (t2, x, acc) := by unfold argT; rw [if_neg (by omega), if_neg (by omega), h1]
theorem parT_go (h1 : expT 40 ts = .ok t1) (h2 : opW (wdT t1).1 ≠ 0) : parT cs (f + 1) ts acc = (match argT cs (parT cs f) (opW (wdT t1).1) (wdT t1).2 acc with
        | .error e => .error e
        | .ok (t2, x, a2) => match expT 41 t2 with
          | .error e => .error e
          | .ok t3 => if a2.length = 64 then .error 7 else .ok (t3, a2 ++ [x])) := by
  rw [parT, h1]
  show (if opW (wdT t1).1 = 0 then _ else _) = _
  rw [if_neg h2]; rfl
theorem parT_a {w : List UInt8} (h1 : expT 40 ts = .ok t1) (hw : wdT t1 = (w, t2)) (h2 : opW w = op) (h0 : op ≠ 0) (h3 : argT cs (parT cs f) op t2 acc = .error e) : parT cs (f + 1) ts acc = .error e := by
  rw [parT_go h1 (by rw [hw]; show opW w ≠ 0; omega), hw]
  dsimp only
  rw [h2, h3]
theorem parT_f {w : List UInt8} {R : List (List UInt8)} (h1 : expT 40 ts = .ok t1) (hw : wdT t1 = (w, t2)) (h2 : opW w = op) (h0 : op ≠ 0) (h3 : argT cs (parT cs f) op t2 acc = .ok ([41] :: R, x, a2)) (h5 : a2.length = 64) : parT cs (f + 1) ts acc = .error 7 := by
  rw [parT_go h1 (by rw [hw]; show opW w ≠ 0; omega), hw]
  dsimp only
  rw [h2, h3]
  dsimp only
  rw [exp_hit]
  show (if a2.length = 64 then _ else _) = _
  rw [if_pos h5]
theorem parT_o {w : List UInt8} {R : List (List UInt8)} (h1 : expT 40 ts = .ok t1) (hw : wdT t1 = (w, t2)) (h2 : opW w = op) (h0 : op ≠ 0) (h3 : argT cs (parT cs f) op t2 acc = .ok ([41] :: R, x, a2)) (h5 : a2.length ≠ 64) : parT cs (f + 1) ts acc = .ok (R, a2 ++ [x]) := by
  rw [parT_go h1 (by rw [hw]; show opW w ≠ 0; omega), hw]
  dsimp only
  rw [h2, h3]
  dsimp only
  rw [exp_hit]
  show (if a2.length = 64 then _ else _) = _
  rw [if_neg h5]
end
inductive Exp (p : List Nd) : Nat → Nat → List Nd → Prop
  | leaf {i n : Nat} {x : Nd} : p[i]? = some x → x.op < 9 → Exp p i n [nrm x]
  | neg {i n : Nat} {x : Nd} {A : List Nd} : p[i]? = some x → x.op = 11 → Exp p x.a.toNat n A → Exp p i n (A ++ [⟨11, 0, v0, [], ((n + A.length : Nat) : Int) - 1, 0⟩])
  | two {i n : Nat} {x : Nd} {A B : List Nd} : p[i]? = some x → (x.op = 9 ∨ x.op = 10) → Exp p x.a.toNat n A → Exp p x.b.toNat (n + A.length) B → Exp p i n (A ++ B ++ [⟨x.op, 0, v0, [], ((n + A.length : Nat) : Int) - 1, ((n + A.length + B.length : Nat) : Int) - 1⟩])
theorem exp_ex (h : GoodP cs p) : ∀ (i : Nat) (x : Nd), p[i]? = some x → ∀ n, ∃ E, Exp p i n E := by
  intro i
  induction i using Nat.strongRecOn with
  | _ i ih =>
    intro x hx n
    by_cases h9 : x.op < 9
    · exact ⟨_, .leaf hx h9⟩
    · obtain ⟨ho, ha, ⟨y, hy⟩, hb⟩ := h.sub hx h9
      obtain ⟨A, hA⟩ := ih _ ha y hy n
      by_cases h11 : x.op = 11
      · exact ⟨_, .neg hx h11 hA⟩
      · obtain ⟨hb, z, hz⟩ := hb h11
        obtain ⟨B, hB⟩ := ih _ hb z hz (n + A.length)
        exact ⟨_, .two hx (by omega) hA hB⟩
theorem lstT_vals {c : Col} (R : List (List UInt8)) : ∀ (l : List Vl) (f : Nat) (acc : List Vl), l.length < f → l.length + acc.length ≤ 16 → 0 < l.length + acc.length → (∀ v ∈ l, vtxt c v ≠ [] ∧ okW (vtxt c v) ∧ vparV c.ty c.sc true (vtxt c v) = ((v.nu, v.n, v.s.data.toList), 0)) →
    lstT c f (l.map (vtxt c) ++ [41] :: R) acc = .ok ([41] :: R, acc ++ l)
  | [], 0, _, h, _, _, _ => by simp at h
  | [], f + 1, acc, _, _, h, _ => by
    show lstT c (f + 1) ([41] :: R) acc = _
    unfold lstT
    rw [wdT_close, if_pos rfl, if_neg (by simp at h; omega), List.append_nil]
  | v :: l, 0, _, h, _, _, _ => by simp at h
  | v :: l, f + 1, acc, h1, h2, h3, hv => by
    obtain ⟨v1, v2, v3⟩ := hv v (by simp)
    show lstT c (f + 1) (vtxt c v :: (l.map (vtxt c) ++ [41] :: R)) acc = _
    unfold lstT
    rw [wdT_word v2]
    show (if vtxt c v = [] then _ else if acc.length = 16 then _ else if (vparV c.ty c.sc true (vtxt c v)).2 ≠ 0 then _ else lstT c f (l.map (vtxt c) ++ [41] :: R) (acc ++ [vlP (vparV c.ty c.sc true (vtxt c v)).1])) = _
    simp only [List.length_cons] at h1 h2
    rw [if_neg v1, if_neg (by omega), v3, if_neg (by simp), vl_back, lstT_vals R l f _ (by omega) (by simp; omega) (by simp; omega) (fun y hy => hv y (by simp [hy]))]
    simp
theorem leafT_ok (h : GoodP cs p) {i : Nat} {x : Nd} (hx : p[i]? = some x) (h9 : x.op < 9) {c : Col} (hc : cs[x.col.toNat]? = some c) (R : List (List UInt8)) :
    leafT cs x.op.toNat (c.nm.data.toList :: ((valsP x).map (vtxt c) ++ [41] :: R)) = .ok ([41] :: R, nrm x) := by
  obtain ⟨c', hc', g, hf, h1, h16, hnu, h7, hv⟩ := h.leaf hx h9
  obtain rfl : c' = c := by rw [hc] at hc'; injection hc' with e; exact e.symm
  obtain ⟨n1, n2⟩ := okW_name g.nm
  have c0 := (node_col (h.ok.node i x hx) h9).1
  have hcol : colT cs (c'.nm.data.toList :: ((valsP x).map (vtxt c') ++ [41] :: R)) = .ok ((valsP x).map (vtxt c') ++ [41] :: R, x.col.toNat) := by
    unfold colT
    rw [wdT_word n2]
    show (if c'.nm.data.toList = [] then _ else if findC cs ⟨c'.nm.data.toList.toArray⟩ < 0 then _ else _) = _
    have e : (⟨c'.nm.data.toList.toArray⟩ : ByteArray) = c'.nm := by cases c'.nm; rfl
    rw [if_neg n1, e, hf, if_neg (by omega)]
  unfold leafT
  rw [hcol]
  show (if x.op.toNat = 8 then _ else match cs[x.col.toNat]? with | none => _ | some c => _) = _
  have hK : ((x.col.toNat : Nat) : Int) = x.col := by omega
  have hO : ((x.op.toNat : Nat) : Int) = x.op := by omega
  by_cases h8 : x.op = 8
  · rw [if_pos (by omega)]
    have e : valsP x = [] := by unfold valsP; rw [if_neg (by omega), if_pos h8]
    rw [e]
    unfold nrm
    rw [h8, hK]; rfl
  · rw [if_neg (by omega), hc]
    show (if x.op.toNat = 7 then _ else _) = _
    by_cases e7 : x.op = 7
    · rw [if_pos (by omega)]
      have e : valsP x = x.l := by unfold valsP; rw [if_neg (by omega), if_neg h8]
      rw [e] at hv h16 ⊢
      have hl : 0 < x.l.length := List.length_pos_iff.2 (h7 e7)
      rw [lstT_vals R x.l 17 [] (by omega) (by simpa using h16) (by simpa using hl) (fun v hvv => ⟨(hv v hvv).1, (hv v hvv).2.1, (hv v hvv).2.2.1⟩)]
      show Except.ok _ = _
      unfold nrm
      rw [hK, e7]; rfl
    · rw [if_neg (by omega)]
      have e : valsP x = [x.v] := by unfold valsP; rw [if_pos (by omega)]
      rw [e] at hv ⊢
      obtain ⟨v1, v2, _, v4⟩ := hv x.v (by simp)
      have hval : valT c' (vtxt c' x.v :: ([41] :: R)) = .ok ([41] :: R, x.v) := by
        unfold valT
        rw [wdT_word v2]
        show (if vtxt c' x.v = [] then _ else if (vparV c'.ty c'.sc false (vtxt c' x.v)).2 ≠ 0 then _ else Except.ok ([41] :: R, vlP (vparV c'.ty c'.sc false (vtxt c' x.v)).1)) = _
        rw [if_neg v1, v4 (hnu (by omega)), if_neg (by simp), vl_back]
      show (match valT c' (vtxt c' x.v :: ([41] :: R)) with | .error e => _ | .ok (t3, v) => _) = _
      rw [hval]
      show Except.ok _ = _
      unfold nrm
      rw [hK, hO, if_pos (show x.op < 7 by omega), if_neg e7]
theorem parT_node (h : GoodP cs p) {i n : Nat} {E : List Nd} (hE : Exp p i n E) : ∀ (f : Nat) (R : List (List UInt8)) (acc : List Nd), acc.length = n → n ≤ 64 → (tkI cs p i).length ≤ f →
    parT cs f (tkI cs p i ++ R) acc = if n + E.length ≤ 64 then .ok (R, acc ++ E) else .error 7 := by
  induction hE with
  | @leaf i n x hx h9 =>
    intro f R acc hn h64 hf
    obtain ⟨c, hc, g, _, h1, _, _, _, hv⟩ := h.leaf hx h9
    rw [tkI_leaf h hx h9 hc] at hf ⊢
    have hw := okW_word (op := x.op) h1 (by omega)
    cases f with
    | zero => unfold leafTk at hf; simp at hf
    | succ f =>
      have e : leafTk c x ++ R = [40] :: wordP x.op :: c.nm.data.toList :: ((valsP x).map (vtxt c) ++ [41] :: R) := by unfold leafTk; simp
      rw [e]
      have h3 := argT_l (rec := parT cs f) (acc := acc) (op := x.op.toNat) (by omega) (leafT_ok h hx h9 hc R)
      by_cases hl : acc.length = 64
      · rw [if_neg (by simp; omega)]
        exact parT_f (exp_hit _ _) (wdT_word hw.2.1 _) hw.2.2 (by omega) h3 hl
      · rw [if_pos (by simp; omega)]
        exact parT_o (exp_hit _ _) (wdT_word hw.2.1 _) hw.2.2 (by omega) h3 hl
  | @neg i n x A hx h11 hA ih =>
    intro f R acc hn h64 hf
    rw [tkI_not h hx h11] at hf ⊢
    have hw := okW_word (op := 11) (by decide) (by decide)
    cases f with
    | zero => simp at hf
    | succ f =>
      have e : ([40] :: wordP 11 :: (tkI cs p x.a.toNat ++ [[41]])) ++ R = [40] :: wordP 11 :: (tkI cs p x.a.toNat ++ [41] :: R) := by simp
      rw [e]
      simp only [List.length_cons, List.length_append, List.length_nil] at hf
      have h1 := ih f ([41] :: R) acc hn h64 (by omega)
      by_cases hl : n + A.length ≤ 64
      · rw [if_pos hl] at h1
        have h3 := argT_n2 (cs := cs) h1
        have e1 : (acc ++ A).length = n + A.length := by simp [hn]
        by_cases h6 : n + A.length = 64
        · rw [if_neg (by simp; omega)]
          exact parT_f (exp_hit _ _) (wdT_word hw.2.1 _) hw.2.2 (by decide) h3 (by omega)
        · rw [if_pos (by simp; omega)]
          rw [parT_o (exp_hit _ _) (wdT_word hw.2.1 _) hw.2.2 (by decide) h3 (by omega), e1]
          simp
      · rw [if_neg hl] at h1
        rw [if_neg (by simp; omega)]
        exact parT_a (exp_hit _ _) (wdT_word hw.2.1 _) hw.2.2 (by decide) (argT_n1 (cs := cs) h1)
  | @two i n x A B hx h9 hA hB ihA ihB =>
    intro f R acc hn h64 hf
    rw [tkI_two h hx h9] at hf ⊢
    have hw := okW_word (op := x.op) (by omega) (by omega)
    have h90 : x.op.toNat = 9 ∨ x.op.toNat = 10 := by omega
    cases f with
    | zero => simp at hf
    | succ f =>
      have e : ([40] :: wordP x.op :: (tkI cs p x.a.toNat ++ (tkI cs p x.b.toNat ++ [[41]]))) ++ R = [40] :: wordP x.op :: (tkI cs p x.a.toNat ++ (tkI cs p x.b.toNat ++ [41] :: R)) := by simp
      rw [e]
      simp only [List.length_cons, List.length_append, List.length_nil] at hf
      have h1 := ihA f (tkI cs p x.b.toNat ++ [41] :: R) acc hn h64 (by omega)
      by_cases hl : n + A.length ≤ 64
      · rw [if_pos hl] at h1
        have h2 := ihB f ([41] :: R) (acc ++ A) (by rw [List.length_append, hn]) hl (by omega)
        by_cases hl2 : n + A.length + B.length ≤ 64
        · rw [if_pos hl2] at h2
          have h3 := argT_o2 (cs := cs) h90 h1 h2
          have e1 : (acc ++ A ++ B).length = n + A.length + B.length := by simp [hn]; omega
          have e2 : (acc ++ A).length = n + A.length := by simp [hn]
          have e3 : ((x.op.toNat : Nat) : Int) = x.op := by omega
          by_cases h6 : n + A.length + B.length = 64
          · rw [if_neg (by simp; omega)]
            exact parT_f (exp_hit _ _) (wdT_word hw.2.1 _) hw.2.2 (by omega) h3 (by omega)
          · rw [if_pos (by simp; omega)]
            rw [parT_o (exp_hit _ _) (wdT_word hw.2.1 _) hw.2.2 (by omega) h3 (by omega), e1, e2, e3]
            simp
        · rw [if_neg hl2] at h2
          rw [if_neg (by simp; omega)]
          exact parT_a (exp_hit _ _) (wdT_word hw.2.1 _) hw.2.2 (by omega) (argT_e2 (cs := cs) h90 h1 h2)
      · rw [if_neg hl] at h1
        rw [if_neg (by simp; omega)]
        exact parT_a (exp_hit _ _) (wdT_word hw.2.1 _) hw.2.2 (by omega) (argT_e1 (cs := cs) h90 h1)
theorem parse_words {key : Int} (h : GoodP cs p) (hs : schkV cs key = 0) {i : Nat} {x : Nd} (hx : p[i]? = some x) {E : List Nd} (hE : Exp p i 0 E) {U : List UInt8} (hU : toksA [] U = tkI cs p i) (hl : U.length ≤ 65536) :
    ((parP cs key U).1, (parP cs key U).2.2) = if E.length ≤ 64 then (E, 0) else ([], 7) := by
  have hne : U ≠ [] := by
    rintro rfl
    have h0 : tkI cs p i = [] := by rw [← hU]; rfl
    by_cases h9 : x.op < 9
    · obtain ⟨c, hc, _⟩ := h.leaf hx h9
      rw [tkI_leaf h hx h9 hc] at h0; unfold leafTk at h0; cases h0
    · obtain ⟨ho, _⟩ := h.sub hx h9
      by_cases h11 : x.op = 11
      · rw [tkI_not h hx h11] at h0; cases h0
      · rw [tkI_two h hx (by omega)] at h0; cases h0
  have hlen := toks_len U []
  have h1 := parT_node h hE (U.length + 1) [] [] rfl (by omega) (by rw [← hU]; simp [flushT] at hlen; omega)
  rw [parP_tok hs hl hne, hU]
  rw [List.append_nil] at h1
  rw [h1, Nat.zero_add]
  by_cases hl : E.length ≤ 64
  · rw [if_pos hl, if_pos hl]; simp
  · rw [if_neg hl, if_neg hl]
end
end Go.Proofs.YtjnamjkdjcndiaaGreatDoor
namespace Go.Proofs.YtjnamjkdjcndiaaGreatDoor
set_option linter.unusedVariables false
/-! Truth values. -/
end Go.Proofs.YtjnamjkdjcndiaaGreatDoor
namespace Go.Proofs.YtjnamjkdjcndiaaGreatDoor
def spcB (k i : Nat) (c : UInt8) : List UInt8 := if c = 32 ∨ (c = 40 ∧ i % k = 0) then [c, 32, 32] else if c = 41 then [32, 41] else [c]
def spcL (k : Nat) : Nat → List UInt8 → List UInt8
  | _, [] => []
  | i, c :: r => spcB k i c ++ spcL k (i + 1) r
theorem spc_snoc (k : Nat) (c : UInt8) : ∀ (L : List UInt8) (i : Nat), spcL k i (L ++ [c]) = spcL k i L ++ spcB k (i + L.length) c
  | [], i => by simp [spcL]
  | b :: L, i => by
    show spcB k i b ++ spcL k (i + 1) (L ++ [c]) = _
    rw [spc_snoc k c L (i + 1), show i + 1 + L.length = i + (b :: L).length by simp; omega]
    simp [spcL]
theorem toks_spc (k : Nat) : ∀ (L : List UInt8) (i : Nat) (cur : List UInt8), toksA cur (spcL k i L) = toksA cur L
  | [], _, _ => rfl
  | c :: L, i, cur => by
    show toksA cur (spcB k i c ++ spcL k (i + 1) L) = _
    unfold spcB
    by_cases h1 : c = 32
    · subst h1
      rw [if_pos (.inl rfl)]
      show toksA cur (32 :: 32 :: 32 :: spcL k (i + 1) L) = _
      rw [toks_sp, toks_sp, toks_sp, toks_sp, toks_spc k L]; rfl
    · by_cases h2 : c = 40
      · subst h2
        rw [toks_par _ L (.inl rfl)]
        by_cases h3 : i % k = 0
        · rw [if_pos (.inr ⟨rfl, h3⟩)]
          show toksA cur (40 :: 32 :: 32 :: spcL k (i + 1) L) = _
          rw [toks_par _ _ (.inl rfl), toks_sp, toks_sp, toks_spc k L]; rfl
        · rw [if_neg (by rintro (h | h); exact absurd h (by decide); exact h3 h.2), if_neg (by decide)]
          show toksA cur (40 :: spcL k (i + 1) L) = _
          rw [toks_par _ _ (.inl rfl), toks_spc k L]
      · rw [if_neg (by rintro (h | h); exact h1 h; exact h2 h.1)]
        by_cases h4 : c = 41
        · subst h4
          rw [if_pos rfl]
          show toksA cur (32 :: 41 :: spcL k (i + 1) L) = _
          rw [toks_sp, toks_par _ _ (.inr rfl), toks_par _ _ (.inr rfl), toks_spc k L]; rfl
        · rw [if_neg h4]
          have hp : ¬(c = 40 ∨ c = 41) := by rintro (h | h); exact h2 h; exact h4 h
          show toksA cur (c :: spcL k (i + 1) L) = _
          rw [toksA, if_neg h1, if_neg hp, toksA, if_neg h1, if_neg hp, toks_spc k L]
end Go.Proofs.YtjnamjkdjcndiaaGreatDoor
namespace Go.Proofs.YtjnamjkdjcndiaaGreatDoor
open Go.RowKit Go.Sort
set_option maxRecDepth 100000 in
set_option maxHeartbeats 4000000 in
theorem pskip_any (g i : Nat) (sv nv : Value) (key wh e0 : Int) (S : ByteArray) (w : World) (hB : Blk w g 54 #[sv, .int .i64 key, .string S, .int .i64 i, nv, .int .i64 wh, .int .i64 e0]) (hi : i ≤ S.size) (hS : S.size ≤ 65536) :
    Calls Tryz.prog 24 #[.pointer (some ⟨g, 0, none⟩)] w fun e w' => e = .returned (.tuple #[]) ∧ Blk w' g 54 #[sv, .int .i64 key, .string S, .int .i64 (sk S.data.toList i), nv, .int .i64 wh, .int .i64 e0] ∧ Only g w w' := by
  have HB := Lib.hid hB
  clear hB
  go_enter Tryz.func24, Tryz.ntmps24
  go_wp2_with fail
  go_loopg [] (S.size - i) (fun n wr => ∃ j : Nat, j ≤ S.size ∧ n = S.size - j ∧ Blk wr g 54 #[sv, .int .i64 key, .string S, .int .i64 j, nv, .int .i64 wh, .int .i64 e0] ∧ Hid (sk S.data.toList j = sk S.data.toList i) ∧ Only g w wr)
  case atStart => exact ⟨i, hi, rfl, HB.out, Lib.hid rfl, Only.refl _ _⟩
  case round =>
    obtain ⟨j, hj, hn, hb, hsk, ho⟩ := hrel
    have HN := Lib.hid hn
    have HBJ := Lib.hid hb
    have HO := Lib.hid ho
    clear hn ho
    have c2 := hb.cell 2
    have c3 := hb.cell 3
    have f3 := hb.frozen 3
    simp only [List.getElem?_toArray, List.getElem?_cons_zero, List.getElem?_cons_succ] at c2 c3
    clear hb
    by_cases hlt : j < S.size
    · by_cases h32 : S[j] = 32
      · have q1 : ((S[j].toNat : Int) == 32) = true := by rw [h32]; rfl
        have HSK := Lib.hid (show sk S.data.toList (j + 1) = sk S.data.toList i by rw [← hsk.out]; exact (sk_go (by rw [get_data S j hlt, h32])).symm)
        have q2 : IntKind.i64.wrap ((j : Int) + 1) = (j : Int) + 1 := IntWalk.i64_in _ (by omega)
        clear h32 hsk
        go_wp2_with fail
        go_quiet (fail)
        go_wp2
        have kb := (HBJ.out.drewN nq).set_ 3 (.int .i64 ((j : Int) + 1))
        simp only [List.setIfInBounds_toArray, List.set_cons_zero, List.set_cons_succ] at kb
        have ko := (HO.out.drewN nq).set_ 3 (.int .i64 ((j : Int) + 1))
        go_roundg (S.size - (j + 1))
        case rel => exact ⟨j + 1, by omega, rfl, by rw [show ((j + 1 : Nat) : Int) = (j : Int) + 1 by omega]; exact kb, Lib.hid HSK.out, ko⟩
        case measure => have := HN.out; omega
      · have q1 : ((S[j].toNat : Int) == 32) = false := by
          rw [beq_eq_false_iff_ne]
          intro h
          exact h32 (UInt8.toNat_inj.1 (by show S[j].toNat = 32; omega))
        have HSK := Lib.hid (show sk S.data.toList i = j by rw [← hsk.out]; exact sk_stop (by rw [get_data S j hlt]; simpa using h32))
        clear h32 hsk
        go_wp2_with fail
        go_quiet (fail)
        go_wp2
        rw [HSK.out]
        exact bodyPost_end (results_none Tryz.results24 _ _ _) rfl ⟨rfl, HBJ.out, HO.out.drewN nq⟩
    · have HSK := Lib.hid (show sk S.data.toList i = j by rw [← hsk.out]; exact sk_stop (by rw [List.getElem?_eq_none (by rw [size_data]; omega)]; simp))
      clear hsk
      go_wp2_with fail
      go_quiet (fail)
      go_wp2
      rw [HSK.out]
      exact bodyPost_end (results_none Tryz.results24 _ _ _) rfl ⟨rfl, HBJ.out, HO.out.drewN nq⟩
set_option maxRecDepth 100000 in
theorem pfail_any (g i : Nat) (sv nv : Value) (key wh e0 a b : Int) (S : ByteArray) (w : World) (hB : Blk w g 54 #[sv, .int .i64 key, .string S, .int .i64 i, nv, .int .i64 wh, .int .i64 e0]) :
    Calls Tryz.prog 47 #[.pointer (some ⟨g, 0, none⟩), .int .i64 a, .int .i64 b] w fun e w' => e = .returned (.bool false) ∧ Blk w' g 54 #[sv, .int .i64 key, .string S, .int .i64 i, nv, .int .i64 a, .int .i64 b] ∧ Only g w w' := by
  have HB := Lib.hid hB
  have c5 := hB.cell 5
  have c6 := hB.cell 6
  have f5 := hB.frozen 5
  have f6 := hB.frozen 6
  simp only [List.getElem?_toArray, List.getElem?_cons_zero, List.getElem?_cons_succ] at c5 c6
  clear hB
  go_enter Tryz.func47, Tryz.ntmps47
  go_wp2
  go_ret
  have kb := (HB.out.set_ 5 (.int .i64 a)).set_ 6 (.int .i64 b)
  simp only [List.setIfInBounds_toArray, List.set_cons_zero, List.set_cons_succ] at kb
  exact ⟨rfl, kb, ((Only.refl g w).set_ 5 _).set_ 6 _⟩
theorem exp_err {T : List UInt8} {b : UInt8} {i : Nat} (h : T[sk T i]? ≠ some b) : expP T b i = .error (sk T i, 2) := if_neg h
theorem exp_ok {T : List UInt8} {b : UInt8} {i : Nat} (h : T[sk T i]? = some b) : expP T b i = .ok (sk T i + 1) := if_pos h
def RetExp (w : World) (g : Nat) (sv nv : Value) (key wh e0 : Int) (S : ByteArray) (r : Except (Nat × Int) Nat) (e : Ending) (w' : World) : Prop := Only g w w' ∧ match r with
  | .ok j => e = .returned (.bool true) ∧ Blk w' g 54 #[sv, .int .i64 key, .string S, .int .i64 j, nv, .int .i64 wh, .int .i64 e0]
  | .error (k, x) => e = .returned (.bool false) ∧ ∃ i : Nat, Blk w' g 54 #[sv, .int .i64 key, .string S, .int .i64 i, nv, .int .i64 k, .int .i64 x]
set_option maxRecDepth 100000 in
set_option maxHeartbeats 4000000 in
theorem pexp_any (g i : Nat) (sv nv : Value) (key wh e0 : Int) (S : ByteArray) (b : UInt8) (w : World) (hB : Blk w g 54 #[sv, .int .i64 key, .string S, .int .i64 i, nv, .int .i64 wh, .int .i64 e0]) (hi : i ≤ S.size) (hS : S.size ≤ 65536) :
    Calls Tryz.prog 43 #[.pointer (some ⟨g, 0, none⟩), .int .u8 (b.toNat : Int)] w (RetExp w g sv nv key wh e0 S (expP S.data.toList b i)) := by
  have HSK := Lib.hid (pskip_any g i sv nv key wh e0 S w hB hi hS)
  have hk := sk_le (T := S.data.toList) (by rw [size_data]; exact hi)
  rw [size_data] at hk
  obtain ⟨k, hkk⟩ : ∃ k, sk S.data.toList i = k := ⟨_, rfl⟩
  have HK := Lib.hid hkk
  rw [hkk] at HSK hk
  clear hB hkk
  go_enter Tryz.func43, Tryz.ntmps43
  go_wp2_with fail
  refine HSK.out.mono ?_
  rintro _ w1 ⟨rfl, hB, ho⟩
  have HB := Lib.hid hB
  have HO := Lib.hid ho
  have c2 := hB.cell 2
  have c3 := hB.cell 3
  have f3 := hB.frozen 3
  simp only [List.getElem?_toArray, List.getElem?_cons_zero, List.getElem?_cons_succ] at c2 c3
  clear hB ho HSK
  by_cases hlt : k < S.size
  · have hne : ((k : Int) == (S.size : Int)) = false := by rw [beq_eq_false_iff_ne]; omega
    by_cases hb : S[k] = b
    · have q1 : ((S[k].toNat : Int) != (b.toNat : Int)) = false := by rw [hb]; simp
      have HR := Lib.hid (exp_ok (T := S.data.toList) (b := b) (i := i) (by rw [HK.out, get_data S k hlt, hb]))
      have q2 : IntKind.i64.wrap ((k : Int) + 1) = (k : Int) + 1 := IntWalk.i64_in _ (by omega)
      clear hb
      go_wp2_with fail
      go_quiet (fail)
      go_wp2
      go_ret
      rw [HR.out, HK.out]
      have kb := (HB.out.drewN nq).set_ 3 (.int .i64 ((k : Int) + 1))
      simp only [List.setIfInBounds_toArray, List.set_cons_zero, List.set_cons_succ] at kb
      exact ⟨(HO.out.drewN nq).set_ 3 _, rfl, by rw [show ((k + 1 : Nat) : Int) = (k : Int) + 1 by omega]; exact kb⟩
    · have q1 : ((S[k].toNat : Int) != (b.toNat : Int)) = true := by
        rw [bne_iff_ne]
        intro h
        exact hb (UInt8.toNat_inj.1 (by omega))
      have HR := Lib.hid (exp_err (T := S.data.toList) (b := b) (i := i) (by rw [HK.out, get_data S k hlt]; simpa using hb))
      clear hb
      go_wp2_with fail
      go_quiet (fail)
      have HB1 := Lib.hid (HB.out.drewN nq)
      have HO1 := Lib.hid (HO.out.drewN nq)
      go_wp2_with fail
      refine (pfail_any g k sv nv key wh e0 _ _ S _ HB1.out).mono ?_
      rintro _ w2 ⟨rfl, hB2, ho2⟩
      have HB2 := Lib.hid hB2
      have HO2 := Lib.hid ho2
      clear hB2 ho2
      go_wp2
      go_ret
      rw [HR.out, HK.out]
      exact ⟨HO1.out.trans HO2.out, rfl, k, HB2.out⟩
  · have hne : ((k : Int) == (S.size : Int)) = true := by rw [beq_iff_eq]; omega
    have HR := Lib.hid (exp_err (T := S.data.toList) (b := b) (i := i) (by rw [HK.out, List.getElem?_eq_none (by rw [size_data]; omega)]; simp))
    go_wp2_with fail
    go_quiet (fail)
    have HB1 := Lib.hid (HB.out.drewN nq)
    have HO1 := Lib.hid (HO.out.drewN nq)
    go_wp2_with fail
    refine (pfail_any g k sv nv key wh e0 _ _ S _ HB1.out).mono ?_
    rintro _ w2 ⟨rfl, hB2, ho2⟩
    have HB2 := Lib.hid hB2
    have HO2 := Lib.hid ho2
    clear hB2 ho2
    go_wp2
    go_ret
    rw [HR.out, HK.out]
    exact ⟨HO1.out.trans HO2.out, rfl, k, HB2.out⟩
end Go.Proofs.YtjnamjkdjcndiaaGreatDoor
namespace Go.Proofs.YtjnamjkdjcndiaaGreatDoor
open Go.RowKit Go.Sort
theorem ext_list (S : ByteArray) (a b : Nat) : (S.extract a b).data.toList = (S.data.toList.drop a).take (b - a) := by
  rw [ByteArray.data_extract, Array.toList_extract, List.extract_eq_take_drop]
theorem spi_at (c : UInt8) : wdB c = decide (Lib.indexByte [32, 40, 41] c < 0) := by
  have : ∀ n : Fin 256, wdB (UInt8.ofNat n.val) = decide (Lib.indexByte [32, 40, 41] (UInt8.ofNat n.val) < 0) := by decide +kernel
  have h := this ⟨c.toNat, c.toNat_lt⟩
  rwa [show UInt8.ofNat c.toNat = c from UInt8.ofNat_toNat] at h
theorem spi_call (c : UInt8) (v : Int) (hv : Lib.indexByte [32, 40, 41] c = v) (X : World) : Calls Tryz.prog 68 #[.string { data := #[32, 40, 41] }, .int .u8 (c.toNat : Int)] X fun e w' => e = .returned (.int .i64 v) ∧ w' = X := by
  have h := Tryz.strings_IndexByte { data := #[32, 40, 41] } (c.toNat : Int) X
  rw [show ({ data := #[32, 40, 41] } : ByteArray).data.toList = [32, 40, 41] from rfl, Int.toNat_natCast, show c.toNat.toUInt8 = c from UInt8.ofNat_toNat, hv] at h
  exact h
def RetWord (w : World) (g : Nat) (sv nv : Value) (key wh e0 : Int) (S : ByteArray) (i : Nat) (e : Ending) (w' : World) : Prop :=
  ∃ W : ByteArray, W.data.toList = wd S.data.toList (sk S.data.toList i) ∧ e = .returned (.tuple #[.int .i64 (sk S.data.toList i : Nat), .string W]) ∧ Blk w' g 54 #[sv, .int .i64 key, .string S, .int .i64 (we S.data.toList (sk S.data.toList i) : Nat), nv, .int .i64 wh, .int .i64 e0] ∧ Only g w w'
set_option maxRecDepth 100000 in
set_option maxHeartbeats 4000000 in
theorem pword_any (g i : Nat) (sv nv : Value) (key wh e0 : Int) (S : ByteArray) (w : World) (hB : Blk w g 54 #[sv, .int .i64 key, .string S, .int .i64 i, nv, .int .i64 wh, .int .i64 e0]) (hi : i ≤ S.size) (hS : S.size ≤ 65536) :
    Calls Tryz.prog 44 #[.pointer (some ⟨g, 0, none⟩)] w (RetWord w g sv nv key wh e0 S i) := by
  have HSK := Lib.hid (pskip_any g i sv nv key wh e0 S w hB hi hS)
  have hk := sk_le (T := S.data.toList) (by rw [size_data]; exact hi)
  rw [size_data] at hk
  obtain ⟨k, hkk⟩ : ∃ k, sk S.data.toList i = k := ⟨_, rfl⟩
  have HK := Lib.hid hkk
  rw [hkk] at HSK hk
  clear hB hkk
  go_enter Tryz.func44, Tryz.ntmps44
  go_wp2_with fail
  refine HSK.out.mono ?_
  rintro _ w1 ⟨rfl, hB, ho⟩
  have HB := Lib.hid hB
  have HO := Lib.hid ho
  have c3 := hB.cell 3
  simp only [List.getElem?_toArray, List.getElem?_cons_zero, List.getElem?_cons_succ] at c3
  clear hB ho HSK
  go_wp2_with fail
  clear c3
  go_loopg [] (S.size - k) (fun n wr => ∃ j : Nat, k ≤ j ∧ j ≤ S.size ∧ n = S.size - j ∧ Blk wr g 54 #[sv, .int .i64 key, .string S, .int .i64 j, nv, .int .i64 wh, .int .i64 e0] ∧ Hid (we S.data.toList j = we S.data.toList k) ∧ Only g w wr)
  case atStart => exact ⟨k, Nat.le_refl _, hk, rfl, HB.out, Lib.hid rfl, HO.out⟩
  case round =>
    clear HB HO
    obtain ⟨j, hkj, hj, hn, hb, hwe, ho⟩ := hrel
    have HN := Lib.hid hn
    have HBJ := Lib.hid hb
    have HO := Lib.hid ho
    clear hn ho
    have c2 := hb.cell 2
    have c3 := hb.cell 3
    have f3 := hb.frozen 3
    simp only [List.getElem?_toArray, List.getElem?_cons_zero, List.getElem?_cons_succ] at c2 c3
    clear hb
    by_cases hlt : j < S.size
    · obtain ⟨v, hv⟩ : ∃ v, Lib.indexByte [32, 40, 41] S[j] = v := ⟨_, rfl⟩
      have H1 := Lib.hid (spi_call S[j] v hv)
      by_cases hw : wdB S[j] = true
      · have hv0 : v < 0 := by have := spi_at S[j]; rw [hw, hv] at this; simpa using this.symm
        have q1 : decide (v < 0) = true := by simpa using hv0
        have HWE := Lib.hid (show we S.data.toList (j + 1) = we S.data.toList k by rw [← hwe.out]; exact (we_go (get_data S j hlt) hw).symm)
        have q2 : IntKind.i64.wrap ((j : Int) + 1) = (j : Int) + 1 := IntWalk.i64_in _ (by omega)
        clear hw hwe hv
        go_wp2_with fail
        go_quiet ((first | (go_at_call 68; exact quiet_i0 H1.out _ _)))
        go_wp2
        have kb := (HBJ.out.drewN nq).set_ 3 (.int .i64 ((j : Int) + 1))
        simp only [List.setIfInBounds_toArray, List.set_cons_zero, List.set_cons_succ] at kb
        have ko := (HO.out.drewN nq).set_ 3 (.int .i64 ((j : Int) + 1))
        go_roundg (S.size - (j + 1))
        case rel => exact ⟨j + 1, by omega, by omega, rfl, by rw [show ((j + 1 : Nat) : Int) = (j : Int) + 1 by omega]; exact kb, Lib.hid HWE.out, ko⟩
        case measure => have := HN.out; omega
      · have hv0 : ¬ v < 0 := by have := spi_at S[j]; rw [hv] at this; intro h; rw [decide_eq_true h] at this; exact hw this
        have q1 : decide (v < 0) = false := by simpa using hv0
        have HWE := Lib.hid (show we S.data.toList k = j by rw [← hwe.out]; exact we_stop (wd_stop (get_data S j hlt) (by simpa using hw)))
        clear hw hwe hv
        go_wp2_with fail
        go_quiet ((first | (go_at_call 68; exact quiet_i0 H1.out _ _)))
        go_wp2_with fail
        have hjk : (k : Int) ≤ (j : Int) := by omega
        have hjs : (j : Int) ≤ (S.size : Int) := by omega
        go_quiet (fail)
        go_wp2
        exact bodyPost_ret (results_tmp2 Tryz.results44 _ _ _) rfl (by unfold RetWord; rw [HK.out, HWE.out]; exact ⟨_, by rw [ext_list, ← HWE.out]; exact wd_slice _ _, rfl, (HBJ.out.drewN _).drewN _, (HO.out.drewN _).drewN _⟩)
    · have HWE := Lib.hid (show we S.data.toList k = j by rw [← hwe.out]; exact we_stop (wd_end (by rw [size_data]; omega)))
      clear hwe
      go_wp2_with fail
      go_quiet (fail)
      go_wp2_with fail
      have hjk : (k : Int) ≤ (j : Int) := by omega
      have hjs : (j : Int) ≤ (S.size : Int) := by omega
      go_quiet (fail)
      go_wp2
      exact bodyPost_ret (results_tmp2 Tryz.results44 _ _ _) rfl (by unfold RetWord; rw [HK.out, HWE.out]; exact ⟨_, by rw [ext_list, ← HWE.out]; exact wd_slice _ _, rfl, (HBJ.out.drewN _).drewN _, (HO.out.drewN _).drewN _⟩)
end Go.Proofs.YtjnamjkdjcndiaaGreatDoor
namespace Go.Proofs.YtjnamjkdjcndiaaGreatDoor
open Go.RowKit Go.Sort
theorem empty_of {W : ByteArray} {l : List UInt8} (h : W.data.toList = l) (hl : l = []) : W.toList.isEmpty = true ∧ W.toList = [] := by
  have : W.toList = [] := by rw [Go.ByteArray.toList_eq, h, hl]
  rw [this]; exact ⟨rfl, rfl⟩
theorem full_of {W : ByteArray} {l : List UInt8} (h : W.data.toList = l) (hl : l ≠ []) : W.toList.isEmpty = false := by
  rw [Go.ByteArray.toList_eq, h]
  cases l with
  | nil => exact absurd rfl hl
  | cons => rfl
def RetColP (w : World) (g N : Nat) (sv nv : Value) (key wh e0 : Int) (S : ByteArray) (op : Int) (b : Bool) (n : Int) (s : ByteArray) (lu : Value) (x y : Int) (r : Except (Nat × Int) (Nat × Nat)) (e : Ending) (w' : World) : Prop :=
  Kp (fun i => i = g ∨ i = N) w w' ∧ match r with
  | .ok (j, K) => e = .returned (.bool true) ∧ Blk w' g 54 #[sv, .int .i64 key, .string S, .int .i64 j, nv, .int .i64 wh, .int .i64 e0] ∧ Blk w' N 66 #[.int .i64 op, .int .i64 K, .bool b, .int .i64 n, .string s, lu, .int .i64 x, .int .i64 y]
  | .error (k, er) => e = .returned (.bool false) ∧ (∃ i : Nat, Blk w' g 54 #[sv, .int .i64 key, .string S, .int .i64 i, nv, .int .i64 k, .int .i64 er])
theorem col_err {cs : List Col} {T : List UInt8} {i : Nat} (h : wd T (sk T i) = []) : colP cs T i = .error (sk T i, 2) := if_pos h
theorem col_name {cs : List Col} {T : List UInt8} {i : Nat} (h : wd T (sk T i) ≠ []) (hf : findC cs ⟨(wd T (sk T i)).toArray⟩ < 0) : colP cs T i = .error (sk T i, 3) := by unfold colP; rw [if_neg h, if_pos hf]
theorem col_ok {cs : List Col} {T : List UInt8} {i : Nat} (h : wd T (sk T i) ≠ []) (hf : ¬ findC cs ⟨(wd T (sk T i)).toArray⟩ < 0) : colP cs T i = .ok (we T (sk T i), (findC cs ⟨(wd T (sk T i)).toArray⟩).toNat) := by unfold colP; rw [if_neg h, if_neg hf]
set_option maxRecDepth 100000 in
set_option maxHeartbeats 4000000 in
theorem pcol_any (w0 : World) (g N i : Nat) (sv nv lu : Value) (key wh e0 op c0 n x y : Int) (b : Bool) (s S : ByteArray) (cs : List Col) (w : World) (hB : Blk w g 54 #[sv, .int .i64 key, .string S, .int .i64 i, nv, .int .i64 wh, .int .i64 e0]) (hN : Blk w N 66 #[.int .i64 op, .int .i64 c0, .bool b, .int .i64 n, .string s, lu, .int .i64 x, .int .i64 y])
    (hi : i ≤ S.size) (hS : S.size ≤ 65536) (hcs : Sl w0 4 sv cs.length (cols cs)) (hb0 : Below w0.heap.size w0 w) (hg : w0.heap.size ≤ g) (hn : w0.heap.size ≤ N) (hcl : cs.length ≤ 1000) :
    Calls Tryz.prog 70 #[.pointer (some ⟨g, 0, none⟩), .pointer (some ⟨N, 0, none⟩)] w (RetColP w g N sv nv key wh e0 S op b n s lu x y (colP cs S.data.toList i)) := by
  have hgN : g ≠ N := by intro e; subst e; have := hB.symm.trans hN; injection this with this; injection this with _ h; revert h; decide
  have HW := Lib.hid (pword_any g i sv nv key wh e0 S w hB hi hS)
  obtain ⟨k, hk⟩ : ∃ k, sk S.data.toList i = k := ⟨_, rfl⟩
  obtain ⟨T, hT⟩ : ∃ T, wd S.data.toList k = T := ⟨_, rfl⟩
  obtain ⟨m, hm⟩ : ∃ m, we S.data.toList k = m := ⟨_, rfl⟩
  have H1 := Lib.hid (col_err (cs := cs) (T := S.data.toList) (i := i))
  have H2 := Lib.hid (col_name (cs := cs) (T := S.data.toList) (i := i))
  have H3 := Lib.hid (col_ok (cs := cs) (T := S.data.toList) (i := i))
  unfold RetWord at HW
  rw [hk, hT] at H1 H2 H3
  rw [hk, hT, hm] at HW
  rw [hm] at H3
  clear hk hT hm hB
  have HN := Lib.hid hN
  have HCS := Lib.hid hcs
  have HB0 := Lib.hid hb0
  obtain ⟨AS, cS, rfl, _, _⟩ := hcs.form
  clear hN hcs hb0
  go_enter Tryz.func70, Tryz.ntmps70
  go_wp2_with fail
  refine HW.out.mono ?_
  rintro _ w1 ⟨W, hW, rfl, hB, ho⟩
  have HB := Lib.hid hB
  have HK := Lib.hid (Kp.only (S := fun i => i = g ∨ i = N) Kp.refl ho (.inl (.inl rfl)))
  have HN1 := Lib.hid (HN.out.grown ho (by intro e; injection e with e; exact hgN e))
  have HB1 := Lib.hid (below_only HB0.out ho hg HB0.out.size)
  clear hB ho HN HW
  by_cases hT : T = []
  · obtain ⟨e1, e2⟩ := empty_of hW hT
    have HR := Lib.hid (H1.out hT)
    clear hT hW H1 H2 H3
    go_wp2_with fail
    refine (pfail_any g m _ nv key wh e0 _ _ S w1 HB.out).mono ?_
    rintro _ w2 ⟨rfl, hB2, ho2⟩
    have HB2 := Lib.hid hB2
    have HK2 := Lib.hid (HK.out.only ho2 (.inl (.inl rfl)))
    clear hB2 ho2
    go_wp2
    go_ret
    rw [HR.out]
    exact ⟨HK2.out, rfl, m, HB2.out⟩
  · have e1 := full_of hW hT
    have hWT : W = ⟨T.toArray⟩ := by cases W; cases hW; rfl
    have HF := Lib.hid (find_any _ cs key W w1 (HCS.out.below HB1.out) (by omega))
    obtain ⟨z, hz⟩ : ∃ z, findC cs W = z := ⟨_, rfl⟩
    rw [hz] at HF
    have H2' := Lib.hid (H2.out hT)
    have H3' := Lib.hid (H3.out hT)
    rw [← hWT, hz] at H2' H3'
    clear hT hW H1 H2 H3 hWT hz
    have bb := HB.out
    have s0 := bb.cell 0
    have s1 := bb.cell 1
    have n1 := HN1.out.cell 1
    have nf := HN1.out.frozen 1
    simp only [List.getElem?_toArray, List.getElem?_cons_zero, List.getElem?_cons_succ] at s0 s1 n1
    clear bb
    go_wp2_with fail
    refine HF.out.mono ?_
    rintro _ w2 ⟨rfl, hb2⟩
    have HB2 := Lib.hid (HB.out.below hb2 HB.out.lt)
    have HN2 := Lib.hid (HN1.out.below hb2 HN1.out.lt)
    have HK2 := Lib.hid (HK.out.below hb2)
    clear hb2 s0 s1 n1 nf HF HB1
    have n1 := HN2.out.cell 1
    have nf := HN2.out.frozen 1
    simp only [List.getElem?_toArray, List.getElem?_cons_zero, List.getElem?_cons_succ] at n1
    go_upto_region 5 with (fail)
    obtain ⟨X, hX⟩ : ∃ X, X = w2.setCell ⟨N, 1, none⟩ (.int .i64 z) := ⟨_, rfl⟩
    have kb := HN2.out.set_ 1 (.int .i64 z)
    simp only [List.setIfInBounds_toArray, List.set_cons_zero, List.set_cons_succ] at kb
    have HNX := Lib.hid kb
    have HBX := Lib.hid (HB2.out.row (grownBy_set w2 ⟨N, 1, none⟩ (.int .i64 z)) hgN)
    have HKX := Lib.hid (HK2.out.set (p := ⟨N, 1, none⟩) (.inl (.inr rfl)) (.int .i64 z))
    clear kb
    rw [← hX] at HNX HBX HKX ⊢
    clear hX n1 nf HN2 HB2 HK2
    have n1 := HNX.out.cell 1
    simp only [List.getElem?_toArray, List.getElem?_cons_zero, List.getElem?_cons_succ] at n1
    by_cases hz : z < 0
    · have q1 : decide (z < 0) = true := by simpa using hz
      have HR := Lib.hid (H2'.out hz)
      clear H2' H3'
      go_wp2_with fail
      refine (pfail_any g m _ nv key wh e0 _ _ S X HBX.out).mono ?_
      rintro _ w3 ⟨rfl, hB3, ho3⟩
      have HB3 := Lib.hid hB3
      have HK3 := Lib.hid (HKX.out.only ho3 (.inl (.inl rfl)))
      clear hB3 ho3
      go_wp2
      go_ret
      rw [HR.out]
      exact ⟨HK3.out, rfl, m, HB3.out⟩
    · have q1 : decide (z < 0) = false := by simpa using hz
      have HR := Lib.hid (H3'.out (by omega))
      clear H2' H3'
      go_wp2
      go_ret
      rw [HR.out]
      exact ⟨HKX.out, rfl, HBX.out, by rw [show ((z.toNat : Nat) : Int) = z by omega]; exact HNX.out⟩
end Go.Proofs.YtjnamjkdjcndiaaGreatDoor
