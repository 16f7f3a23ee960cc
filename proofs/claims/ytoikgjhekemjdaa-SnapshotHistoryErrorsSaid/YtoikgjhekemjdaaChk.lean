/-
  The contract of snapshot.Checkpoint.
-/
import Derived.Test.YtoikgjhekemjdaaChkFn
import Derived.Test.YtoikgjhekemjdaaMiss
namespace Go.Proofs.Ytoikgjhekemjdaa
open Go.RowKit Go.Sort
/-- What is known after k versions. -/
structure ChkAt (H : List Snp) (k : Nat) (acc : List Rcd) : Prop where
  len : acc.length = k
  go : ∀ j a, k = j + 1 → H[j]? = some a → chkV H = chkGo a acc (H.drop k) ∧ (j : Int) ≤ a.ver
theorem ChkAt.zero (H : List Snp) : ChkAt H 0 [] := ⟨rfl, fun j a h => by omega⟩
theorem ChkAt.first {H : List Snp} {s : Snp} (hb : (H.any fun x => !x.okB) = false) (hs : H[0]? = some s) : ChkAt H 1 [baseR s] := by
  rcases H with _ | ⟨x, H⟩
  · simp at hs
  simp at hs
  subst hs
  have hall : (x :: H).all Snp.okB = true := by
    rw [List.any_eq_false] at hb
    rw [List.all_eq_true]
    intro y hy; have := hb y hy; simpa using this
  refine ⟨rfl, fun j a hj ha => ?_⟩
  have : j = 0 := by omega
  subst this
  simp at ha
  subst ha
  refine ⟨by rw [chkV_go hall]; rfl, ?_⟩
  have hx : x.okB = true := (List.all_eq_true.1 hall) x (by simp)
  have := (snapB_parts hx).1.1
  simpa using this
section
variable {H : List Snp} {j : Nat} {acc : List Rcd} {a b : Snp}
theorem ChkAt.ver (h : ChkAt H (j + 1) acc) (ha : H[j]? = some a) (hb : H[j + 1]? = some b) (hv : b.ver ≠ a.ver + 1) : chkV H = (13, []) := by
  rw [(h.go j a rfl ha).1, chkGo_ver hb hv]
theorem ChkAt.rng (h : ChkAt H (j + 1) acc) (ha : H[j]? = some a) (hb : H[j + 1]? = some b) (hv : b.ver = a.ver + 1) (hr : b.seq < a.seq ∨ b.nid < a.nid) : chkV H = (4, []) := by
  rw [(h.go j a rfl ha).1, chkGo_rng hb hv hr]
theorem ChkAt.next (h : ChkAt H (j + 1) acc) (ha : H[j]? = some a) (hb : H[j + 1]? = some b) (hv : b.ver = a.ver + 1) (hr : ¬(b.seq < a.seq ∨ b.nid < a.nid)) : ChkAt H (j + 1 + 1) (acc ++ [diffR a b]) := by
  refine ⟨by rw [List.length_append, h.len]; rfl, fun i x hi hx => ?_⟩
  have : i = j + 1 := by omega
  subst this
  rw [hb] at hx
  injection hx with hx
  subst hx
  obtain ⟨h1, h2⟩ := h.go j a rfl ha
  exact ⟨by rw [h1, chkGo_next hb hv hr], by omega⟩
theorem ChkAt.fin {k : Nat} (h : ChkAt H k acc) (hk : H.length ≤ k) (h0 : 0 < H.length) (hk' : k ≤ H.length) : chkV H = (0, acc) := by
  obtain ⟨j, rfl⟩ : ∃ j, k = j + 1 := ⟨k - 1, by omega⟩
  have ha := List.getElem?_eq_getElem (show j < H.length by omega)
  rw [(h.go j _ rfl ha).1, chkGo_end hk]
theorem ChkAt.bound (h : ChkAt H (j + 1) acc) (ha : H[j]? = some a) (hok : a.okB = true) : j ≤ 2147483647 := by
  have h1 := (h.go j a rfl ha).2
  have h2 := (snapB_parts hok).1.2.1
  omega
end
theorem all_ok {H : List Snp} (hb : (H.any fun x => !x.okB) = false) {k : Nat} {s : Snp} (hs : H[k]? = some s) : s.okB = true := by
  rw [List.any_eq_false] at hb
  have := hb s (List.mem_of_getElem? hs); simpa using this
theorem len_ok {s : Snp} (h : s.okB = true) : s.l.length ≤ 256 := (snapB_parts h).1.2.2.2.2.2.2
set_option maxRecDepth 100000 in
set_option maxHeartbeats 8000000 in
theorem chk_any (v : Value) (H : List Snp) (w : World) (hs : SlSn w v H) (hsm : ∀ s ∈ H, ∀ e ∈ s.l, e.small) (hl : H.length ≤ 9223372036854775807) :
    Calls Try.prog 28 #[v] w (RetChk w (chkV H)) := by
  obtain ⟨A, c, rfl, hc1, hc2⟩ := hs.form
  unfold maxLen at hc2
  by_cases h0 : H.length = 0
  · have hH := List.eq_nil_of_length_eq_zero h0
    subst hH
    go_enter Try.func28, Try.ntmps28
    go_wp2
    exact bodyPost_ret (v := .tuple #[.slice none 0 0, .int .i64 1]) (by simp [results, Try.results28, go_sem]) rfl ⟨_, rfl, OwnRc.nil _ _, Below.refl _ _⟩
  have HC := Lib.hid (chkFn_any _ H w hs hsm (by omega))
  obtain ⟨b, hb⟩ : ∃ b, (H.any fun x => !x.okB) = b := ⟨_, rfl⟩
  rw [hb] at HC
  have hl0 : ((H.length : Int) == 0) = false := by simp; intro h; rw [h] at h0; exact h0 rfl
  have H0 := Lib.hid h0
  have HSM := Lib.hid hsm
  clear h0 hsm
  go_enter Try.func28, Try.ntmps28
  go_wp2_with fail
  refine HC.out.mono ?_
  rintro _ w1 ⟨rfl, hb1⟩
  have HB1 := Lib.hid hb1
  cases b with
  | true =>
    have HE := Lib.hid (show chkV H = (1, []) by
      rcases H with _ | ⟨x, H⟩
      · exact absurd rfl H0.out
      · refine chkV_bad ?_
        rw [← Bool.not_eq_true]; intro h
        rw [List.any_eq_true] at hb
        obtain ⟨y, hy, hy'⟩ := hb
        rw [List.all_eq_true.1 h y hy] at hy'; cases hy')
    clear hb hb1
    go_wp2
    exact bodyPost_ret (v := .tuple #[.slice none 0 0, .int .i64 1]) (by simp [results, Try.results28, go_sem]) rfl ⟨_, by rw [HE.out], by rw [HE.out]; exact OwnRc.nil _ _, HB1.out⟩
  | false =>
  have HOK := Lib.hid hb
  clear hb
  go_wp2
  go_loopw [4, 20] (fun vl i wr => ∃ (k : Nat) (acc : List Rcd), i = .int .i64 k ∧ k ≤ H.length ∧ Hid (ChkAt H k acc) ∧ OwnRc wr w.heap.size vl acc ∧ Below w.heap.size w wr) (fun _ i _ => H.length - (intOf i).toNat)
  case atStart => exact ⟨0, [], rfl, by omega, Lib.hid (ChkAt.zero H), OwnRc.nil _ _, hb1⟩
  case round =>
    obtain ⟨k, acc, rfl, hk, hat, hown, hbel⟩ := hrel
    by_cases hlt : k < H.length
    · obtain ⟨ad, s, u, p, rfl, hse, hp, hSA, hSl⟩ := (hs.below hbel).load rfl hlt
      obtain ⟨hplt, c0, c1, c2, c3⟩ := hSA
      obtain ⟨AL, cL, rfl, hL1, hL2⟩ := hSl.form
      have HSE := Lib.hid hse
      have HOS := Lib.hid (all_ok HOK.out hse)
      have HSMS := Lib.hid (HSM.out s (List.mem_of_getElem? hse))
      have HLT := Lib.hid hlt
      clear hse
      by_cases hk0 : k = 0
      · have tk : (((k : Nat) : Int) == 0) = true := by rw [hk0]; rfl
        have HK0 := Lib.hid hk0
        clear hk0
        go_upto_region 9 with (fail)
        obtain ⟨w2, hw2⟩ : ∃ w2, w2 = (wr.alloc (.cells #[.int .i64 s.ver, .int .i64 s.seq, .int .i64 s.nid, .slice AL s.l.length cL] 24)).alloc (.cells #[.int .i64 1, .int .i64 s.ver, .int .i64 s.seq, .int .i64 s.nid, .slice none 0 0, .slice none 0 0] 38) := ⟨_, rfl⟩
        obtain ⟨B, hB⟩ : ∃ B, wr.heap.size = B := ⟨_, rfl⟩
        have BS := Lib.hid (show Blk w2 B 24 #[.int .i64 s.ver, .int .i64 s.seq, .int .i64 s.nid, .slice AL s.l.length cL] by rw [hw2, ← hB]; exact (Blk.new _ _ _).alloc _)
        have BR := Lib.hid (show Blk w2 (B + 1) 38 #[.int .i64 1, .int .i64 s.ver, .int .i64 s.seq, .int .i64 s.nid, .slice none 0 0, .slice none 0 0] by
          have := Blk.new (wr.alloc (.cells #[.int .i64 s.ver, .int .i64 s.seq, .int .i64 s.nid, .slice AL s.l.length cL] 24)) 38 #[.int .i64 1, .int .i64 s.ver, .int .i64 s.seq, .int .i64 s.nid, .slice none 0 0, .slice none 0 0]
          rw [hw2, ← hB]; simpa using this)
        have W2 := Lib.hid (show Below wr.heap.size wr w2 by rw [hw2]; exact abel2 _ _ _)
        have HCL := Lib.hid (clone_any (.slice AL s.l.length cL) s.l w2 (hSl.below W2.out) (Nat.le_trans (len_ok HOS.out) (by omega)))
        have OWN := Lib.hid hown
        have BEL := Lib.hid hbel
        have HBB := Lib.hid hB
        rw [← hw2]
        simp only [hB]
        clear hw2 hown hbel hSl c0 c1 c2 c3 hB
        have bb := BS.out
        have n0 := bb.cell 0
        have n1 := bb.cell 1
        have n2 := bb.cell 2
        have n3 := bb.cell 3
        simp only [List.getElem?_toArray, List.getElem?_cons_zero, List.getElem?_cons_succ] at n0 n1 n2 n3
        clear bb
        go_wp2_with fail
        refine HCL.out.mono ?_
        rintro _ w3 ⟨v3, rfl, ho3, hb3⟩
        obtain ⟨A3, k3, rfl, _, _⟩ := (Sl.of_own ho3).form
        have R3 := Lib.hid (BR.out.below hb3 BR.out.lt)
        have W3 := Lib.hid (bst W2.out hb3)
        have O3 := Lib.hid ho3
        have h23 := Lib.hid hb3.size
        clear hb3 ho3 HCL
        clear n0 n1 n2 n3
        have bb := R3.out
        have n0 := bb.cell 0
        have n1 := bb.cell 1
        have n2 := bb.cell 2
        have n3 := bb.cell 3
        have n4 := bb.cell 4
        have n5 := bb.cell 5
        simp only [List.getElem?_toArray, List.getElem?_cons_zero, List.getElem?_cons_succ] at n0 n1 n2 n3 n4 n5
        clear bb
        have f4 := R3.out.frozen 4
        have hlt3 := R3.out.lt
        go_upto_region 10 with (fail)
        obtain ⟨w4, hw4⟩ : ∃ w4, w4 = w3.setCell ⟨B + 1, 4, none⟩ (.slice A3 s.l.length k3) := ⟨_, rfl⟩
        have kg : w3.grownBy w4 (some (B + 1)) := by rw [hw4]; exact grownBy_set w3 ⟨B + 1, 4, none⟩ _
        have R4 := Lib.hid (show Blk w4 (B + 1) 38 #[.int .i64 1, .int .i64 s.ver, .int .i64 s.seq, .int .i64 s.nid, .slice A3 s.l.length k3, .slice none 0 0] by rw [hw4]; exact R3.out.set_ 4 (.slice A3 s.l.length k3))
        have W4 := Lib.hid (below_row W3.out kg (by have := HBB.out; omega) W3.out.size)
        have O4 := Lib.hid (own_row O3.out kg (fun b hb e => own_blk_ne O3.out R3.out (by decide) (by rw [hb, e])))
        rw [← hw4]
        clear hw4 kg f4 hlt3
        clear n0 n1 n2 n3 n4 n5
        have HA0 := Lib.hid (show acc = [] from List.eq_nil_of_length_eq_zero (by rw [hat.out.len]; exact HK0.out))
        have HRB := Lib.hid (show acc.length ≤ 2147483648 by rw [HA0.out]; simp)
        have HAT := Lib.hid (show ChkAt H (k + 1) (acc ++ [baseR s]) by rw [HA0.out, HK0.out]; exact ChkAt.first HOK.out (by rw [← HK0.out]; exact HSE.out))
        obtain ⟨us, hu1, hu2, hu3⟩ := OWN.out.below W4.out
        obtain ⟨R, hR⟩ : ∃ R, acc.length = R := ⟨_, rfl⟩
        rw [hR] at hu2
        have HL := Lib.hid hR
        have HU := Lib.hid (⟨hu1, hu3⟩ : _ ∧ _)
        have HBW := Lib.hid (bst BEL.out W4.out)
        have hsz := HBW.out.size
        have hRb : R ≤ 2147483648 := by rw [← hR]; exact HRB.out
        clear hu1 hu3 hR
        have bb := R4.out
        have n0 := bb.cell 0
        have n1 := bb.cell 1
        have n2 := bb.cell 2
        have n3 := bb.cell 3
        have n4 := bb.cell 4
        have n5 := bb.cell 5
        simp only [List.getElem?_toArray, List.getElem?_cons_zero, List.getElem?_cons_succ] at n0 n1 n2 n3 n4 n5
        clear bb
        go_wp2_with (at_builtin; go_must (refine app1 _ _ hu2 (Below.refl w.heap.size w4) (Nat.le_refl _) hsz under_rec info_rec rfl (by decide) rfl (one6 _ _ _ _ _ _ _ _ _ _) (by omega) (by omega) rfl rfl rfl rfl ?_))
        intro g' cap' w9 ho9 hb9 hg9 hor9
        have O9 := Lib.hid (rc_snoc (h := acc) (s := baseR s) (va := .slice A3 s.l.length k3) (vr := .slice none 0 0) HU.out.1 (by rw [HL.out]; exact hu2) HU.out.2 (own_mono O4.out (Nat.le_trans BEL.out.size W2.out.size)) (World.ownsRow_nil _ _ _ _) (by rw [HL.out]; exact ho9) hg9)
        have B9 := Lib.hid (HBW.out.trans hb9)
        clear ho9 hb9 hg9 hor9 hu2 hsz hRb
        clear n0 n1 n2 n3 n4 n5
        go_wp2
        go_roundw
        case rel => exact ⟨k + 1, acc ++ [baseR s], by go_num, HLT.out, HAT, O9.out, B9.out⟩
        case measure => have := HLT.out; simp [intOf]; omega
      · obtain ⟨j, rfl⟩ : ∃ j, k = j + 1 := ⟨k - 1, by omega⟩
        have tk : (((j + 1 : Nat) : Int) == 0) = false := by simp; omega
        clear hk0
        obtain ⟨ad', a, u', q, hA0, hae, hq, hSA, hSl2⟩ := (hs.below hbel).load rfl (show j < H.length by omega)
        cases hA0
        obtain ⟨hplt2, e0, e1, e2, e3⟩ := hSA
        obtain ⟨AB, cB, rfl, hB1, hB2⟩ := hSl2.form
        have HAE := Lib.hid hae
        have HOA := Lib.hid (all_ok HOK.out hae)
        clear hae
        obtain ⟨hv1, hv2⟩ : 0 ≤ a.ver ∧ a.ver ≤ 2147483647 := ⟨(snapB_parts HOA.out).1.1, (snapB_parts HOA.out).1.2.1⟩
        have HRB := Lib.hid (show acc.length ≤ 2147483648 by rw [hat.out.len]; have := hat.out.bound HAE.out HOA.out; omega)
        by_cases hv : s.ver = a.ver + 1
        case neg =>
          have t1 : (s.ver != a.ver + 1) = true := by simpa using hv
          have HE := Lib.hid (hat.out.ver HAE.out HSE.out hv)
          have HBE := Lib.hid hbel
          clear hv
          go_wp2
          exact bodyPost_ret (v := .tuple #[.slice none 0 0, .int .i64 13]) (by simp [results, Try.results28, go_sem]) rfl ⟨_, by rw [HE.out], by rw [HE.out]; exact OwnRc.nil _ _, bst HBE.out ((abel2 _ _ _).alloc (by simp; omega) _)⟩
        case pos =>
          have t1 : (s.ver != a.ver + 1) = false := by simpa using hv
          have HV := Lib.hid hv
          clear hv
          by_cases hq : s.seq < a.seq
          · have hq1 : s.seq < a.seq := hq
            have HE := Lib.hid (hat.out.rng HAE.out HSE.out HV.out (.inl hq))
            have HBE := Lib.hid hbel
            go_wp2
            exact bodyPost_ret (v := .tuple #[.slice none 0 0, .int .i64 4]) (by simp [results, Try.results28, go_sem]) rfl ⟨_, by rw [HE.out], by rw [HE.out]; exact OwnRc.nil _ _, bst HBE.out ((abel2 _ _ _).alloc (by simp; omega) _)⟩
          · by_cases hn : s.nid < a.nid
            · have hn1 : s.nid < a.nid := hn
              have HE := Lib.hid (hat.out.rng HAE.out HSE.out HV.out (.inr hn))
              have HBE := Lib.hid hbel
              go_wp2
              exact bodyPost_ret (v := .tuple #[.slice none 0 0, .int .i64 4]) (by simp [results, Try.results28, go_sem]) rfl ⟨_, by rw [HE.out], by rw [HE.out]; exact OwnRc.nil _ _, bst HBE.out ((abel2 _ _ _).alloc (by simp; omega) _)⟩
            · have HAT := Lib.hid (hat.out.next HAE.out HSE.out HV.out (by omega))
              go_upto_region 16 with (fail)
              obtain ⟨w2, hw2⟩ : ∃ w2, w2 = ((wr.alloc (.cells #[.int .i64 s.ver, .int .i64 s.seq, .int .i64 s.nid, .slice AL s.l.length cL] 24)).alloc (.cells #[.int .i64 1, .int .i64 s.ver, .int .i64 s.seq, .int .i64 s.nid, .slice none 0 0, .slice none 0 0] 38)).alloc (.cells #[.int .i64 a.ver, .int .i64 a.seq, .int .i64 a.nid, .slice AB a.l.length cB] 24) := ⟨_, rfl⟩
              obtain ⟨B, hB⟩ : ∃ B, wr.heap.size = B := ⟨_, rfl⟩
              have BS := Lib.hid (show Blk w2 B 24 #[.int .i64 s.ver, .int .i64 s.seq, .int .i64 s.nid, .slice AL s.l.length cL] by rw [hw2, ← hB]; exact ((Blk.new _ _ _).alloc _).alloc _)
              have BR := Lib.hid (show Blk w2 (B + 1) 38 #[.int .i64 1, .int .i64 s.ver, .int .i64 s.seq, .int .i64 s.nid, .slice none 0 0, .slice none 0 0] by
                have := (Blk.new (wr.alloc (.cells #[.int .i64 s.ver, .int .i64 s.seq, .int .i64 s.nid, .slice AL s.l.length cL] 24)) 38 #[.int .i64 1, .int .i64 s.ver, .int .i64 s.seq, .int .i64 s.nid, .slice none 0 0, .slice none 0 0]).alloc (.cells #[.int .i64 a.ver, .int .i64 a.seq, .int .i64 a.nid, .slice AB a.l.length cB] 24)
                rw [hw2, ← hB]; simpa using this)
              have BA := Lib.hid (show Blk w2 (B + 2) 24 #[.int .i64 a.ver, .int .i64 a.seq, .int .i64 a.nid, .slice AB a.l.length cB] by
                have := Blk.new ((wr.alloc (.cells #[.int .i64 s.ver, .int .i64 s.seq, .int .i64 s.nid, .slice AL s.l.length cL] 24)).alloc (.cells #[.int .i64 1, .int .i64 s.ver, .int .i64 s.seq, .int .i64 s.nid, .slice none 0 0, .slice none 0 0] 38)) 24 #[.int .i64 a.ver, .int .i64 a.seq, .int .i64 a.nid, .slice AB a.l.length cB]
                rw [hw2, ← hB]; simpa using this)
              have W2 := Lib.hid (show Below wr.heap.size wr w2 by rw [hw2]; exact (abel2 _ _ _).alloc (by simp; omega) _)
              have OWN := Lib.hid hown
              have BEL := Lib.hid hbel
              have HBB := Lib.hid hB
              have HSL := Lib.hid hSl
              have HSL2 := Lib.hid hSl2
              have ML1 := Lib.hid (show s.l.length ≤ 1000000 from Nat.le_trans (len_ok HOS.out) (by omega))
              have ML2 := Lib.hid (show a.l.length ≤ 1000000 from Nat.le_trans (len_ok HOA.out) (by omega))
              rw [← hw2]
              simp only [hB]
              clear hw2 hown hbel hSl hSl2 c0 c1 c2 c3 e0 e1 e2 e3 hB hq hn
              have bb := BR.out
              have n0 := bb.cell 0
              have n1 := bb.cell 1
              have n2 := bb.cell 2
              have n3 := bb.cell 3
              have n4 := bb.cell 4
              have n5 := bb.cell 5
              simp only [List.getElem?_toArray, List.getElem?_cons_zero, List.getElem?_cons_succ] at n0 n1 n2 n3 n4 n5
              clear bb
              have f0 := BR.out.frozen 0
              have hlt2 := BR.out.lt
              go_upto_region 17 with (fail)
              obtain ⟨w3, hw3⟩ : ∃ w3, w3 = w2.setCell ⟨B + 1, 0, none⟩ (.int .i64 2) := ⟨_, rfl⟩
              have kg : w2.grownBy w3 (some (B + 1)) := by rw [hw3]; exact grownBy_set w2 ⟨B + 1, 0, none⟩ _
              have R3 := Lib.hid (show Blk w3 (B + 1) 38 #[.int .i64 2, .int .i64 s.ver, .int .i64 s.seq, .int .i64 s.nid, .slice none 0 0, .slice none 0 0] by rw [hw3]; exact BR.out.set_ 0 (.int .i64 2))
              have S3 := Lib.hid (BS.out.row kg (by omega))
              have A3 := Lib.hid (BA.out.row kg (by omega))
              have W3 := Lib.hid (below_row W2.out kg (by have := HBB.out; omega) W2.out.size)
              rw [← hw3]
              clear hw3 kg f0 hlt2 n0 n1 n2 n3 n4 n5
              have HM := Lib.hid (missing_any (.slice AB a.l.length cB) (.slice AL s.l.length cL) a.l s.l w3 (HSL2.out.below W3.out) (HSL.out.below W3.out) ML2.out ML1.out)
              obtain ⟨M, hM⟩ : ∃ M, missE a.l s.l = M := ⟨_, rfl⟩
              rw [hM] at HM
              have HMM := Lib.hid hM
              have HML := Lib.hid (show M.length ≤ 1000000 by rw [← hM]; exact Nat.le_trans (miss_len _ _) ML2.out)
              clear hM
              have bb := S3.out
              have x0 := bb.cell 0
              have x1 := bb.cell 1
              have x2 := bb.cell 2
              have x3 := bb.cell 3
              simp only [List.getElem?_toArray, List.getElem?_cons_zero, List.getElem?_cons_succ] at x0 x1 x2 x3
              clear bb
              have bb := A3.out
              have y0 := bb.cell 0
              have y1 := bb.cell 1
              have y2 := bb.cell 2
              have y3 := bb.cell 3
              simp only [List.getElem?_toArray, List.getElem?_cons_zero, List.getElem?_cons_succ] at y0 y1 y2 y3
              clear bb
              go_wp2_with fail
              refine HM.out.mono ?_
              rintro _ w4 ⟨v4, rfl, ho4, hb4⟩
              obtain ⟨AM, cM, rfl, hM1, hM2⟩ := (Sl.of_own ho4).form
              unfold maxLen at hM2
              have R4 := Lib.hid (R3.out.below hb4 R3.out.lt)
              have S4 := Lib.hid (S3.out.below hb4 S3.out.lt)
              have A4 := Lib.hid (A3.out.below hb4 A3.out.lt)
              have W4 := Lib.hid (bst W3.out hb4)
              have O4 := Lib.hid ho4
              clear hb4 ho4 HM x0 x1 x2 x3 y0 y1 y2 y3
              go_wp2
              obtain ⟨wo, rfl⟩ : ∃ wo : World, wo = wr := ⟨_, rfl⟩
              go_loopw [74] (fun i wr => ∃ (m : Nat) (vr : Value), i = .int .i64 m ∧ m ≤ M.length ∧ Blk wr (B + 1) 38 #[.int .i64 2, .int .i64 s.ver, .int .i64 s.seq, .int .i64 s.nid, .slice none 0 0, vr] ∧ wr.ownsRow w4.heap.size 3 1 vr m (ints ((M.take m).map (·.id))) ∧ Only (B + 1) w4 wr) (fun i _ => M.length - (intOf i).toNat)
              case atStart => exact ⟨0, .slice none 0 0, rfl, Nat.zero_le _, R4.out, World.ownsRow_nil _ _ _ _, Only.refl _ _⟩
              case round =>
                obtain ⟨m, vr, rfl, hm, hR, hor, hon⟩ := hrel
                have SM := own_row O4.out hon (fun b hb e => own_blk_ne O4.out R4.out (by decide) (by rw [hb, e]))
                by_cases hlm : m < M.length
                · obtain ⟨adm, e, pe, rfl, he, hpe, hE⟩ := (Sl.of_own SM).ent_load rfl hlm
                  obtain ⟨hplt3, c0, c1, c2, c3, c4, c5, c6, c7, c8, c9, c10, c11⟩ := hE
                  have HE := Lib.hid he
                  have HLM := Lib.hid hlm
                  clear he SM
                  go_upto_region 20 with (fail)
                  obtain ⟨w6, hw6⟩ : ∃ w6, w6 = wr.alloc (.cells #[.int .i64 e.id, .int .i64 e.rows, .int .i64 e.live, .bool e.lo.null, .int .i64 e.lo.n, .string e.lo.s, .int .i64 e.lo.seq, .bool e.hi.null, .int .i64 e.hi.n, .string e.hi.s, .int .i64 e.hi.seq, .int .i64 e.del] 34) := ⟨_, rfl⟩
                  have hb6 : Below wr.heap.size wr w6 := by rw [hw6]; exact abel _ _
                  obtain ⟨NE, hNE⟩ : ∃ NE, wr.heap.size = NE := ⟨_, rfl⟩
                  have BE := Lib.hid (show Blk w6 NE 34 #[.int .i64 e.id, .int .i64 e.rows, .int .i64 e.live, .bool e.lo.null, .int .i64 e.lo.n, .string e.lo.s, .int .i64 e.lo.seq, .bool e.hi.null, .int .i64 e.hi.n, .string e.hi.s, .int .i64 e.hi.seq, .int .i64 e.del] by rw [hw6, ← hNE]; exact Blk.new _ _ _)
                  have R6 := Lib.hid (hR.below hb6 hR.lt)
                  have OV := Lib.hid (own_below hor hb6)
                  have ON6 := Lib.hid (hon.trans (Only.of_below hb6))
                  have HTK := Lib.hid (show (M.take (m + 1)).map (·.id) = (M.take m).map (·.id) ++ [e.id] by rw [List.take_add_one, HE.out, List.map_append]; rfl)
                  obtain ⟨K, hK⟩ : ∃ K, m = K := ⟨_, rfl⟩
                  have hlen : ((M.take m).map (·.id)).length = m := by rw [List.length_map, List.length_take]; omega
                  have HLEN := Lib.hid hlen
                  have HSZ := Lib.hid (ON6.out.size)
                  have HM1 := HML.out
                  rw [← hw6]
                  simp only [hNE]
                  clear hw6 hNE hb6 hR hor hon c0 c1 c2 c3 c4 c5 c6 c7 c8 c9 c10 c11 hplt3 hK hlen
                  have bb := R6.out
                  have n0 := bb.cell 0
                  have n1 := bb.cell 1
                  have n2 := bb.cell 2
                  have n3 := bb.cell 3
                  have n4 := bb.cell 4
                  have n5 := bb.cell 5
                  simp only [List.getElem?_toArray, List.getElem?_cons_zero, List.getElem?_cons_succ] at n0 n1 n2 n3 n4 n5
                  clear bb
                  have bb := BE.out
                  have x0 := bb.cell 0
                  have x1 := bb.cell 1
                  have x2 := bb.cell 2
                  have x3 := bb.cell 3
                  have x4 := bb.cell 4
                  have x5 := bb.cell 5
                  have x6 := bb.cell 6
                  have x7 := bb.cell 7
                  have x8 := bb.cell 8
                  have x9 := bb.cell 9
                  have x10 := bb.cell 10
                  have x11 := bb.cell 11
                  simp only [List.getElem?_toArray, List.getElem?_cons_zero, List.getElem?_cons_succ] at x0 x1 x2 x3 x4 x5 x6 x7 x8 x9 x10 x11
                  clear bb
                  have hsz := HSZ.out
                  have ov := OV.out
                  go_wp2_with (at_builtin; go_must (refine app1 _ _ ov (Below.refl w4.heap.size w6) (Nat.le_refl _) hsz under_i64 info_i64 rfl (by decide) rfl (by intro u hu; simp at hu; subst hu; rfl) (by omega) (by omega) rfl rfl rfl rfl ?_))
                  intro g' cap' w9 ho9 hb9 hg9 hor9
                  have R9 := Lib.hid (R6.out.grown hg9 (own_blk_ne OV.out R6.out (by decide)))
                  have OV9 := Lib.hid (own_ints1 (l := (M.take m).map (·.id)) (x := e.id) (by rw [HLEN.out]; simpa using ho9))
                  have ON9 := Lib.hid (ON6.out.grown hg9 (fun b hb => .inl (OV.out.lt b hb).1))
                  clear ho9 hb9 hg9 hor9 hsz ov n0 n1 n2 n3 n4 n5 x0 x1 x2 x3 x4 x5 x6 x7 x8 x9 x10 x11
                  have bb := R9.out
                  have n0 := bb.cell 0
                  have n1 := bb.cell 1
                  have n2 := bb.cell 2
                  have n3 := bb.cell 3
                  have n4 := bb.cell 4
                  have n5 := bb.cell 5
                  simp only [List.getElem?_toArray, List.getElem?_cons_zero, List.getElem?_cons_succ] at n0 n1 n2 n3 n4 n5
                  clear bb
                  have f5 := R9.out.frozen 5
                  have hlt9 := R9.out.lt
                  have kg := grownBy_set w9 ⟨B + 1, 5, none⟩ (.slice (some ⟨g', 0, none⟩) (m + 1) cap')
                  have RA := Lib.hid (show Blk (w9.setCell ⟨B + 1, 5, none⟩ (.slice (some ⟨g', 0, none⟩) (m + 1) cap')) (B + 1) 38 #[.int .i64 2, .int .i64 s.ver, .int .i64 s.seq, .int .i64 s.nid, .slice none 0 0, .slice (some ⟨g', 0, none⟩) (m + 1) cap'] from R9.out.set_ 5 _)
                  have OVA := Lib.hid (own_row OV9.out kg (fun b hb e => own_blk_ne OV9.out R9.out (by decide) (by rw [hb, e])))
                  have ONA := Lib.hid (ON9.out.trans kg)
                  clear kg
                  go_wp2
                  go_roundw
                  case rel => exact ⟨m + 1, .slice (some ⟨g', 0, none⟩) (m + 1) cap', by go_num, HLM.out, RA.out, (by have h1 := OVA.out; have h2 := HTK.out; have h3 := HLEN.out; rw [List.length_append, h3, ← h2] at h1; exact h1), ONA.out⟩
                  case measure => have := HLM.out; simp [intOf]; omega
                · have HTK := Lib.hid (show ints ((M.take m).map (·.id)) = ints (M.map (·.id)) by rw [List.take_of_length_le (by omega)])
                  have hmM : m = M.length := by omega
                  obtain ⟨AR, cR, rfl, hr1, hr2⟩ := (Sl.of_own hor).form
                  have R5 := Lib.hid hR
                  have S5 := Lib.hid (S4.out.grown hon (by simp))
                  have A5 := Lib.hid (A4.out.grown hon (by simp))
                  have W5 := Lib.hid (below_row W4.out hon (by have := HBB.out; omega) W4.out.size)
                  have OV5 := Lib.hid (show wr.ownsRow w4.heap.size 3 1 (.slice AR m cR) (M.map (·.id)).length (ints (M.map (·.id))) by rw [← HTK.out, List.length_map, ← hmM]; exact hor)
                  have HW45 := Lib.hid hon.size
                  clear hR hor hon SM hmM
                  have HM2 := Lib.hid (missing_any (.slice AL s.l.length cL) (.slice AB a.l.length cB) s.l a.l wr (HSL.out.below W5.out) (HSL2.out.below W5.out) ML1.out ML2.out)
                  have bb := S5.out
                  have x0 := bb.cell 0
                  have x1 := bb.cell 1
                  have x2 := bb.cell 2
                  have x3 := bb.cell 3
                  simp only [List.getElem?_toArray, List.getElem?_cons_zero, List.getElem?_cons_succ] at x0 x1 x2 x3
                  clear bb
                  have bb := A5.out
                  have y0 := bb.cell 0
                  have y1 := bb.cell 1
                  have y2 := bb.cell 2
                  have y3 := bb.cell 3
                  simp only [List.getElem?_toArray, List.getElem?_cons_zero, List.getElem?_cons_succ] at y0 y1 y2 y3
                  clear bb
                  go_wp2_with fail
                  refine HM2.out.mono ?_
                  rintro _ w7 ⟨v7, rfl, ho7, hb7⟩
                  obtain ⟨A7, c7, rfl, hc71, hc72⟩ := (Sl.of_own ho7).form
                  have R7 := Lib.hid (R5.out.below hb7 R5.out.lt)
                  have W7 := Lib.hid (bst W5.out hb7)
                  have O7 := Lib.hid ho7
                  have OV7 := Lib.hid (own_below OV5.out hb7)
                  have HW57 := Lib.hid hb7.size
                  clear hb7 ho7 HM2 x0 x1 x2 x3 y0 y1 y2 y3
                  have bb := R7.out
                  have n0 := bb.cell 0
                  have n1 := bb.cell 1
                  have n2 := bb.cell 2
                  have n3 := bb.cell 3
                  have n4 := bb.cell 4
                  have n5 := bb.cell 5
                  simp only [List.getElem?_toArray, List.getElem?_cons_zero, List.getElem?_cons_succ] at n0 n1 n2 n3 n4 n5
                  clear bb
                  have f4 := R7.out.frozen 4
                  have hlt7 := R7.out.lt
                  go_upto_region 23 with (fail)
                  obtain ⟨w8, hw8⟩ : ∃ w8, w8 = w7.setCell ⟨B + 1, 4, none⟩ (.slice A7 (missE s.l a.l).length c7) := ⟨_, rfl⟩
                  have kg : w7.grownBy w8 (some (B + 1)) := by rw [hw8]; exact grownBy_set w7 ⟨B + 1, 4, none⟩ _
                  have R8 := Lib.hid (show Blk w8 (B + 1) 38 #[.int .i64 2, .int .i64 s.ver, .int .i64 s.seq, .int .i64 s.nid, .slice A7 (missE s.l a.l).length c7, .slice AR m cR] by rw [hw8]; exact R7.out.set_ 4 (.slice A7 (missE s.l a.l).length c7))
                  have W8 := Lib.hid (below_row W7.out kg (by have := HBB.out; omega) W7.out.size)
                  have O8 := Lib.hid (own_row O7.out kg (fun b hb e => own_blk_ne O7.out R7.out (by decide) (by rw [hb, e])))
                  have OV8 := Lib.hid (own_row OV7.out kg (fun b hb e => own_blk_ne OV7.out R7.out (by decide) (by rw [hb, e])))
                  rw [← hw8]
                  clear hw8 kg f4 hlt7 n0 n1 n2 n3 n4 n5
                  have BL8 := Lib.hid (show w.heap.size ≤ wr.heap.size from Nat.le_trans BEL.out.size (Nat.le_trans W5.out.size (Nat.le_refl _)))
                  have BL4 := Lib.hid (show w.heap.size ≤ w4.heap.size from Nat.le_trans BEL.out.size W4.out.size)
                  obtain ⟨us, hu1, hu2, hu3⟩ := OWN.out.below W8.out
                  obtain ⟨R, hR⟩ : ∃ R, acc.length = R := ⟨_, rfl⟩
                  rw [hR] at hu2
                  have HL := Lib.hid hR
                  have HU := Lib.hid (⟨hu1, hu3⟩ : _ ∧ _)
                  have HBW := Lib.hid (bst BEL.out W8.out)
                  have hsz := HBW.out.size
                  have hRb : R ≤ 2147483648 := by rw [← hR]; exact HRB.out
                  clear hu1 hu3 hR
                  have bb := R8.out
                  have n0 := bb.cell 0
                  have n1 := bb.cell 1
                  have n2 := bb.cell 2
                  have n3 := bb.cell 3
                  have n4 := bb.cell 4
                  have n5 := bb.cell 5
                  simp only [List.getElem?_toArray, List.getElem?_cons_zero, List.getElem?_cons_succ] at n0 n1 n2 n3 n4 n5
                  clear bb
                  go_wp2_with (at_builtin; go_must (refine app1 _ _ hu2 (Below.refl w.heap.size w8) (Nat.le_refl _) hsz under_rec info_rec rfl (by decide) rfl (one6 _ _ _ _ _ _ _ _ _ _) (by omega) (by omega) rfl rfl rfl rfl ?_))
                  intro g' cap' w9 ho9 hb9 hg9 hor9
                  have O9 := Lib.hid (rc_snoc (h := acc) (s := diffR a s) (va := .slice A7 (missE s.l a.l).length c7) (vr := .slice AR m cR) HU.out.1 (by rw [HL.out]; exact hu2) HU.out.2 (own_mono O8.out BL8.out) (by show World.ownsRow _ _ _ _ _ ((missE a.l s.l).map (·.id)).length (ints ((missE a.l s.l).map (·.id))); rw [HMM.out]; exact own_mono OV8.out BL4.out) (by rw [HL.out]; exact ho9) hg9)
                  have B9 := Lib.hid (HBW.out.trans hb9)
                  clear ho9 hb9 hg9 hor9 hu2 hsz hRb
                  clear n0 n1 n2 n3 n4 n5
                  go_wp2
                  go_roundw
                  case rel => exact ⟨j + 1 + 1, acc ++ [diffR a s], by go_num, HLT.out, HAT, O9.out, B9.out⟩
                  case measure => have := HLT.out; simp [intOf]; omega
    · have HF := Lib.hid (hat.out.fin (by omega) (by have := H0.out; omega) hk)
      obtain ⟨Al, cl, rfl, _, _⟩ := hown.form
      have OWN := Lib.hid hown
      have BEL := Lib.hid hbel
      clear hown hbel
      go_wp2
      exact bodyPost_ret (v := .tuple #[.slice Al acc.length cl, .int .i64 0]) (by simp [results, Try.results28, go_sem]) rfl ⟨_, by rw [HF.out], by rw [HF.out]; exact OWN.out, BEL.out⟩
end Go.Proofs.Ytoikgjhekemjdaa
