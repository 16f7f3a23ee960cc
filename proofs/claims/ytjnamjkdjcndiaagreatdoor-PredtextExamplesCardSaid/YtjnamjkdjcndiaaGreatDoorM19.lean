/-
  Words, plain laws and contracts on which the walks lean, in one text.
-/
import Derived.Test.YtjnamjkdjcndiaaGreatDoorPar8
import Derived.Test.YtjnamjkdjcndiaaGreatDoorM17
import Derived.Test.YtjnamjkdjcndiaaGreatDoorM15
import Derived.Test.YtjnamjkdjcndiaaGreatDoorM20
namespace Go.Proofs.YtjnamjkdjcndiaaGreatDoor
open Go.RowKit Go.Sort

def RetPar (w : World) (r : List Nd × Nat × Int) (e : Ending) (w' : World) : Prop :=
  ∃ nv : Value, e = .returned (.tuple #[nv, .int .i64 (r.2.1 : Nat), .int .i64 r.2.2]) ∧ OwnNd w' w.heap.size nv r.1 ∧ Below w.heap.size w w'
theorem RetPar.mk_ {w w' : World} {r : List Nd × Nat × Int} {l : List Nd} {k : Nat} {x y : Int} {nv : Value} (h : r = (l, k, x)) (hy : y = (k : Int)) (ho : OwnNd w' w.heap.size nv l) (hb : Below w.heap.size w w') : RetPar w r (.returned (.tuple #[nv, .int .i64 y, .int .i64 x])) w' := by subst h hy; exact ⟨nv, rfl, ho, hb⟩
section
variable {cs : List Col} {key : Int} {T : List UInt8} {j : Nat} {e : Int} {l : List Nd} {i : Nat}
theorem pp_sch (h : schkV cs key ≠ 0) : parP cs key T = ([], 0, schkV cs key) := by unfold parP; rw [if_pos h]
theorem pp_big (h : schkV cs key = 0) (h1 : 65536 < T.length) : parP cs key T = ([], 0, 7) := by unfold parP; rw [if_neg (by rw [h]; simp), if_pos h1]
theorem pp_nil (h : schkV cs key = 0) (h1 : T.length = 0) : parP cs key T = ([], 0, 0) := by unfold parP; rw [if_neg (by rw [h]; simp), if_neg (by omega), if_pos h1]
theorem pp_go (h : schkV cs key = 0) (h1 : ¬ 65536 < T.length) (h2 : T.length ≠ 0) : parP cs key T = match parN cs T (T.length + 1) 0 [] with
    | .error (j, e) => ([], j, e)
    | .ok (i, l) => if sk T i < T.length then ([], sk T i, 2) else (l, 0, 0) := by unfold parP; rw [if_neg (by rw [h]; simp), if_neg h1, if_neg h2]; rfl
theorem pp_err (h : schkV cs key = 0) (h1 : ¬ 65536 < T.length) (h2 : T.length ≠ 0) (h3 : parN cs T (T.length + 1) 0 [] = .error (j, e)) : parP cs key T = ([], j, e) := by rw [pp_go h h1 h2, h3]
theorem pp_more (h : schkV cs key = 0) (h1 : ¬ 65536 < T.length) (h2 : T.length ≠ 0) (h3 : parN cs T (T.length + 1) 0 [] = .ok (i, l)) (h4 : sk T i < T.length) : parP cs key T = ([], sk T i, 2) := by
  rw [pp_go h h1 h2, h3]
  show (if sk T i < T.length then _ else _) = _
  rw [if_pos h4]
theorem pp_ok (h : schkV cs key = 0) (h1 : ¬ 65536 < T.length) (h2 : T.length ≠ 0) (h3 : parN cs T (T.length + 1) 0 [] = .ok (i, l)) (h4 : ¬ sk T i < T.length) : parP cs key T = (l, 0, 0) := by
  rw [pp_go h h1 h2, h3]
  show (if sk T i < T.length then _ else _) = _
  rw [if_neg h4]
end
set_option maxRecDepth 100000 in
set_option maxHeartbeats 8000000 in
theorem pparse_any (v : Value) (key : Int) (cs : List Col) (S : ByteArray) (w : World) (hE : Env w) (hs : Sl w 4 v cs.length (cols cs)) (hcl : cs.length ≤ 9223372036854775807) (hnm : ∀ c ∈ cs, c.nm.size ≤ 9223372036854775807) (hS : S.size ≤ 9223372036854775807) :
    Calls Tryz.prog 8 #[.agg #[v, .int .i64 key], .string S] w (RetPar w (parP cs key S.data.toList)) := by
  obtain ⟨A, cA, rfl, hc1, hc2⟩ := hs.form
  obtain ⟨N0, hN0⟩ : ∃ N, w.heap.size = N := ⟨_, rfl⟩
  obtain ⟨W, hW⟩ : ∃ W, W = w.alloc (.cells #[.slice A cs.length cA, .int .i64 key] 28) := ⟨_, rfl⟩
  have hb0 : Below w.heap.size w W := by rw [hW]; exact (Below.refl _ _).alloc (Nat.le_refl _) _
  have BS := Lib.hid (show Blk W N0 28 #[.slice A cs.length cA, .int .i64 key] by rw [hW, ← hN0]; exact Blk.new _ _ _)
  have HB0 := Lib.hid hb0
  have HC := Lib.hid (schk_any (.slice A cs.length cA) cs key W (hs.below hb0) hcl hnm)
  have HE := Lib.hid hE
  have HS := Lib.hid hs
  have hT := size_data S
  have HP0 := Lib.hid (pp_sch (cs := cs) (key := key) (T := S.data.toList))
  have HP1 := Lib.hid (pp_big (cs := cs) (key := key) (T := S.data.toList))
  have HP2 := Lib.hid (pp_nil (cs := cs) (key := key) (T := S.data.toList))
  have HP3 := Lib.hid (fun j e => pp_err (cs := cs) (key := key) (T := S.data.toList) (j := j) (e := e))
  have HP4 := Lib.hid (fun i l => pp_more (cs := cs) (key := key) (T := S.data.toList) (i := i) (l := l))
  have HP5 := Lib.hid (fun i l => pp_ok (cs := cs) (key := key) (T := S.data.toList) (i := i) (l := l))
  have HV := Lib.hid (fun h => schk_valid (l := cs) (key := key) h)
  rw [hT] at HP1 HP2 HP3 HP4 HP5
  obtain ⟨E, hE⟩ : ∃ E, schkV cs key = E := ⟨_, rfl⟩
  rw [hE] at HC HP0 HP1 HP2 HP3 HP4 HP5 HV
  clear hs hE hb0 hT
  go_enter Tryz.func8, Tryz.ntmps8
  go_upto_region 1 with (fail)
  rw [← hW]
  try simp only [hN0]
  clear hW
  have bb := BS.out
  have s0 := bb.cell 0
  have s1 := bb.cell 1
  simp only [List.getElem?_toArray, List.getElem?_cons_zero, List.getElem?_cons_succ] at s0 s1
  clear bb
  go_wp2_with fail
  refine HC.out.mono ?_
  rintro _ w2 ⟨rfl, hb2⟩
  have HB2 := Lib.hid (bst HB0.out hb2)
  have BS2 := Lib.hid (BS.out.below hb2 BS.out.lt)
  clear hb2 HC s0 s1
  by_cases hE : E = 0
  case neg =>
    have q1 : (E != 0) = true := by simpa using hE
    have HR := Lib.hid (HP0.out hE)
    clear hE HP0 HP1 HP2 HP3 HP4 HP5 HV
    go_wp2
    go_ret3
    exact RetPar.mk_ HR.out rfl (OwnNd.nil _ _) HB2.out
  case pos =>
  subst hE
  have HV := Lib.hid (HV.out rfl)
  by_cases hbig : 65536 < S.size
  · have q2 : decide (65536 < S.size) = true := decide_eq_true hbig
    have q2' : decide ((65536 : Int) < (S.size : Int)) = true := decide_eq_true (by omega)
    have HR := Lib.hid (HP1.out rfl hbig)
    clear hbig HP0 HP1 HP2 HP3 HP4 HP5 HV
    go_wp2
    go_ret3
    exact RetPar.mk_ HR.out rfl (OwnNd.nil _ _) HB2.out
  have q2 : decide (65536 < S.size) = false := decide_eq_false hbig
  have q2' : decide ((65536 : Int) < (S.size : Int)) = false := decide_eq_false (by omega)
  by_cases h0 : S.size = 0
  · obtain ⟨e1, e2⟩ := empty_of (W := S) (l := []) (by have := size_data S; rw [h0] at this; exact List.length_eq_zero_iff.1 this) rfl
    have HR := Lib.hid (HP2.out rfl h0)
    clear h0 hbig HP0 HP1 HP2 HP3 HP4 HP5 HV
    go_wp2
    go_ret3
    exact RetPar.mk_ HR.out rfl (OwnNd.nil _ _) HB2.out
  have e1 := full_of (W := S) (l := S.data.toList) rfl (by intro h; have := size_data S; rw [h] at this; exact h0 this.symm)
  have hS6 : S.size ≤ 65536 := by omega
  have HP3' := Lib.hid (fun j e => HP3.out j e rfl hbig h0)
  have HP4' := Lib.hid (fun i l => HP4.out i l rfl hbig h0)
  have HP5' := Lib.hid (fun i l => HP5.out i l rfl hbig h0)
  have bb := BS2.out
  have s0 := bb.cell 0
  have s1 := bb.cell 1
  simp only [List.getElem?_toArray, List.getElem?_cons_zero, List.getElem?_cons_succ] at s0 s1
  clear bb HP0 HP1 HP2 HP3 HP4 HP5 hbig h0
  obtain ⟨g, hg⟩ : ∃ g, w2.heap.size = g := ⟨_, rfl⟩
  obtain ⟨X, hX⟩ : ∃ X, X = w2.alloc (.cells #[.slice A cs.length cA, .int .i64 key, .string S, .int .i64 0, .slice none 0 0, .int .i64 0, .int .i64 0] 54) := ⟨_, rfl⟩
  have hwg : w.heap.size ≤ g := by rw [← hg]; exact HB2.out.size
  have XB := Lib.hid (show Blk X g 54 #[.slice A cs.length cA, .int .i64 key, .string S, .int .i64 ((0 : Nat) : Int), .slice none 0 0, .int .i64 0, .int .i64 0] by rw [hX, ← hg]; exact Blk.new _ _ _)
  have XK := Lib.hid (show Below w.heap.size w X by rw [hX]; exact bst HB2.out (below_new _ _))
  have hx : PCtx w g (.slice A cs.length cA) S cs w.heap.size := ⟨hS6, HS.out, HE.out, by have := HV.out.2.1; omega, hwg, Nat.le_refl _⟩
  have HN := Lib.hid (pnodeT_any w g w.heap.size (.slice A cs.length cA) key 0 0 S cs hx (S.size + 1) 0 (.slice none 0 0) [] X XB.out (Nat.zero_le _) (by omega) (OwnNd.nil _ _) (by simp) XK.out XK.out.size)
  clear hx HV HS
  go_upto_region 9 with (fail)
  rw [← hX]
  try simp only [hg]
  clear hX hg s0 s1
  go_wp2_with fail
  refine HN.out.mono ?_
  rintro e w3 hret
  cases h : parN cs S.data.toList (S.size + 1) 0 [] with
  | error r =>
    obtain ⟨k, er⟩ := r
    rw [h] at hret
    have HR := Lib.hid (HP3'.out k er h)
    obtain ⟨hk, rfl, i0, n0, c0, A0, hn, hB⟩ := hret
    have HB3 := Lib.hid hB
    have HK3 := Lib.hid (below_kp XK.out hk (fun q h => by
      rcases h with h | h
      · omega
      · cases h) XK.out.size)
    clear hk hB h HP3' HP4' HP5' HN
    have bb := HB3.out
    have c5 := bb.cell 5
    have c6 := bb.cell 6
    simp only [List.getElem?_toArray, List.getElem?_cons_zero, List.getElem?_cons_succ] at c5 c6
    clear bb
    go_wp2_with fail
    go_quiet (fail)
    go_wp2
    go_ret3
    exact RetPar.mk_ HR.out rfl (OwnNd.nil _ _) (below_drewN HK3.out _)
  | ok r =>
    obtain ⟨i, l⟩ := r
    rw [h] at hret
    obtain ⟨hk, rfl, hi, hl1, hl2, nv, hB, hO, hob⟩ := hret
    have HB3 := Lib.hid hB
    have HO3 := Lib.hid hO
    have HK3 := Lib.hid (below_kp XK.out hk (fun q h => by
      rcases h with h | h
      · omega
      · cases h) XK.out.size)
    have HP4 := Lib.hid (HP4'.out i l h)
    have HP5 := Lib.hid (HP5'.out i l h)
    obtain ⟨AN, cN, rfl, _, _⟩ := hO.form
    clear hk hB hO hob h HP3' HP4' HP5' HN
    go_wp2_with fail
    refine (pskip_any g i _ _ key 0 0 S w3 HB3.out hi hS6).mono ?_
    rintro _ w4 ⟨rfl, hB, ho⟩
    have HB4 := Lib.hid hB
    have HO4 := Lib.hid (HO3.out.onlyP HB3.out ho)
    have HK4 := Lib.hid (below_only HK3.out ho hwg HK3.out.size)
    clear hB ho
    obtain ⟨m, hm⟩ : ∃ m, sk S.data.toList i = m := ⟨_, rfl⟩
    rw [hm] at HB4 HP4 HP5
    clear hm
    have bb := HB4.out
    have c3 := bb.cell 3
    have c4 := bb.cell 4
    simp only [List.getElem?_toArray, List.getElem?_cons_zero, List.getElem?_cons_succ] at c3 c4
    clear bb
    by_cases hlt : m < S.size
    · have q3 : decide (m < S.size) = true := decide_eq_true hlt
      have q3' : decide ((m : Int) < (S.size : Int)) = true := decide_eq_true (by omega)
      have HR := Lib.hid (HP4.out hlt)
      clear hlt HP4 HP5
      go_wp2_with fail
      go_quiet (fail)
      go_wp2
      go_ret3
      exact RetPar.mk_ HR.out rfl (OwnNd.nil _ _) (below_drewN HK4.out _)
    · have q3 : decide (m < S.size) = false := decide_eq_false hlt
      have q3' : decide ((m : Int) < (S.size : Int)) = false := decide_eq_false (by omega)
      have HR := Lib.hid (HP5.out hlt)
      clear hlt HP4 HP5
      go_wp2
      go_ret3
      exact RetPar.mk_ HR.out rfl HO4.out HK4.out
end Go.Proofs.YtjnamjkdjcndiaaGreatDoor
namespace Go.Proofs.YtjnamjkdjcndiaaGreatDoor
theorem parP_of {cs : List Col} {key : Int} {T : List UInt8} {l : List Nd} (hs : schkV cs key = 0) (hl : T.length ≤ 65536) (hn : T ≠ []) (h : parT cs (T.length + 1) (toksA [] T) [] = .ok ([], l)) : parP cs key T = (l, 0, 0) := by
  have h1 := par_tok cs T (T.length + 1) 0 []
  have h0 : tk T 0 = toksA [] T := rfl
  rw [h0, h] at h1
  have h2 : T.length ≠ 0 := fun e => hn (List.length_eq_zero_iff.1 e)
  cases hp : parN cs T (T.length + 1) 0 [] with
  | error e => rw [hp] at h1; cases h1
  | ok r =>
    obtain ⟨i, l'⟩ := r
    rw [hp] at h1
    have h1 : Except.ok (tk T i, l') = (Except.ok ([], l) : Except Int (List (List UInt8) × List Nd)) := h1
    injection h1 with h4
    injection h4 with h5 h6
    subst h6
    exact pp_ok hs (by omega) h2 hp (by rw [sk_end_tok, h5]; simp)
/-- A text with the words of a node whose tree is small. -/
theorem parse_ok {cs : List Col} {p : List Nd} {key : Int} (h : GoodP cs p) (hs : schkV cs key = 0) {i : Nat} {x : Nd} (hx : p[i]? = some x) {E : List Nd} (hE : Exp p i 0 E) (h64 : E.length ≤ 64) {U : List UInt8} (hU : toksA [] U = tkI cs p i) (hl : U.length ≤ 65536) : parP cs key U = (E, 0, 0) := by
  have hne : U ≠ [] := by
    rintro rfl
    have h1 := parse_words h hs hx hE (U := []) hU (by simp)
    have h2 : parP cs key [] = ([], 0, 0) := pp_nil hs rfl
    rw [h2, if_pos h64] at h1
    injection h1 with h1
    have := exp_pos hE
    rw [← h1] at this
    simp at this
  have hlen := toks_len U []
  have h1 := parT_node h hE (U.length + 1) [] [] rfl (by omega) (by rw [← hU]; simp [flushT] at hlen; omega)
  rw [List.append_nil, Nat.zero_add, if_pos h64, List.nil_append] at h1
  exact parP_of hs hl hne (by rw [hU]; exact h1)
theorem nodes_good : GoodP twoC nodesP where
  col := schk_good two_chk
  ok := (pchk_ok nodes_chk).2
  rv := fun x hx => by simp [nodesP, nd22] at hx; rcases hx with rfl | rfl | rfl | rfl <;> decide
  rl := fun x hx v hv => by simp [nodesP, nd22] at hx; rcases hx with rfl | rfl | rfl | rfl <;> simp at hv
theorem nodes_exp : Exp nodesP 3 0 nodesP := by
  have h0 : Exp nodesP 0 0 [nd22 6 0 3 0 0] := Exp.leaf (p := nodesP) (i := 0) (n := 0) (x := nd22 6 0 3 0 0) rfl (by decide)
  have h1 : Exp nodesP 1 1 [nd22 8 1 0 0 0] := Exp.leaf (p := nodesP) (i := 1) (n := 1) (x := nd22 8 1 0 0 0) rfl (by decide)
  have h2 : Exp nodesP 2 1 [nd22 8 1 0 0 0, nd22 11 0 0 1 0] := Exp.neg (p := nodesP) (i := 2) (n := 1) (x := nd22 11 0 0 1 0) rfl rfl h1
  exact Exp.two (p := nodesP) (i := 3) (n := 0) (x := nd22 9 0 0 0 2) rfl (.inl rfl) h0 h2
theorem text22_par : parP twoC 0 text22 = (nodesP, 0, 0) :=
  parse_ok nodes_good two_chk (i := 3) (x := nd22 9 0 0 0 2) rfl nodes_exp (by decide) (by unfold tkI; rw [nodes_txt]) (by decide)
end Go.Proofs.YtjnamjkdjcndiaaGreatDoor
namespace Go.Proofs.YtjnamjkdjcndiaaGreatDoor
open Go.RowKit Go.Sort
theorem two_nm : ∀ c ∈ twoC, c.nm.size ≤ 9223372036854775807 := fun c hc => by simp [twoC] at hc; rcases hc with rfl | rfl <;> decide
set_option maxRecDepth 100000 in
set_option maxHeartbeats 8000000 in
theorem predtextExamples_walk (w : World) (he : Env w) : Calls Tryz.prog 3 #[] w fun e w' => e = .returned (.bool true) ∧ Below w.heap.size w w' := by
  have HE := Lib.hid he
  have HX := Lib.hid (text_any)
  obtain ⟨T, hT⟩ : ∃ T : ByteArray, (⟨text22.toArray⟩ : ByteArray) = T := ⟨_, rfl⟩
  rw [hT] at HX
  have hTl : T.data.toList = text22 := by rw [← hT]
  have q1 : (T.toList == T.toList) = true := by simp
  have HTS := Lib.hid (show T.size ≤ 9223372036854775807 by rw [← hT]; decide)
  have HT := Lib.hid hT
  have HTL := Lib.hid hTl
  clear he hT hTl
  go_enter Tryz.func3, Tryz.ntmps3
  go_wp2_with fail
  refine (two_any w).mono ?_
  rintro _ w1 ⟨g, rfl, hS, hb1⟩
  have HS := Lib.hid hS
  have B1 := Lib.hid hb1
  clear hS hb1
  go_wp2_with fail
  refine (HX.out w1).mono ?_
  rintro _ _ ⟨rfl, rfl⟩
  have HP := Lib.hid (pparse_any _ 0 twoC T w1 (HE.out.below B1.out) HS.out (by decide) two_nm HTS.out)
  rw [HTL.out, text22_par] at HP
  go_wp2_with fail
  refine HP.out.mono ?_
  rintro _ w2 ⟨nv, rfl, ho, hb2⟩
  have HO := Lib.hid ho.sl
  have B2 := Lib.hid (bst B1.out hb2)
  obtain ⟨A1, c1, rfl, _, _⟩ := ho.form
  clear ho hb2 HP HS
  go_wp2_with fail
  refine (two_any w2).mono ?_
  rintro _ w3 ⟨g3, rfl, hS, hb3⟩
  have HS := Lib.hid hS
  have B3 := Lib.hid (bst B2.out hb3)
  have HO3 := Lib.hid (HO.out.below hb3)
  clear hS hb3 HO
  go_wp2_with fail
  refine (nodes_any w3).mono ?_
  rintro _ w4 ⟨v4, rfl, hN, hb4⟩
  have HF := Lib.hid (pfmt_any _ v4 0 twoC nodesP w4 ⟨(HE.out.below (bst B3.out hb4)).1, HS.out.below hb4, hN⟩ nodes_bd)
  rw [nodes_fmt] at HF
  unfold RetDec at HF
  simp only [HT.out] at HF
  have B4 := Lib.hid (bst B3.out hb4)
  have HO4 := Lib.hid (HO3.out.below hb4)
  obtain ⟨A4, c4, rfl, _, _⟩ := hN.form
  clear hN hb4 HO3
  go_wp2_with fail
  refine HF.out.mono ?_
  rintro _ w5 ⟨rfl, hb5⟩
  have B5 := Lib.hid (bst B4.out hb5)
  have HO5 := Lib.hid (HO4.out.below hb5)
  clear hb5 HF HO4 HS
  go_wp2_with fail
  refine (nodes_any w5).mono ?_
  rintro _ w6 ⟨v6, rfl, hN, hb6⟩
  have HSM := Lib.hid (samend_eq _ v6 nodesP w6 (HO5.out.below hb6) hN)
  have B6 := Lib.hid (bst B5.out hb6)
  obtain ⟨A6, c6, rfl, _, _⟩ := hN.form
  clear hN hb6 HO5
  go_wp2_with fail
  refine HSM.out.mono ?_
  rintro _ w7 ⟨rfl, hb7⟩
  have B7 := Lib.hid (bst B6.out hb7)
  clear hb7 HSM
  go_wp2_with fail
  refine (HX.out w7).mono ?_
  rintro _ _ ⟨rfl, rfl⟩
  go_wp2
  go_ret
  exact ⟨rfl, B7.out⟩
end Go.Proofs.YtjnamjkdjcndiaaGreatDoor
