/-
  The contract of the law's history: versions that follow one another; Source.Left.
-/
import Derived.Test.YtoikgjhekemjdaaKSnap
import Derived.Test.YtoikgjhekemjdaaKRecord
import Derived.Test.YtoikgjhekemjdaaRcL
import Derived.Test.YtoikgjhekemjdaaRApply
import Derived.Test.YtoikgjhekemjdaaJobKit
import Derived.Test.YtoikgjhekemjdaaKRanges
import Derived.Test.YtoikgjhekemjdaaInv2
namespace Go.Proofs.Ytoikgjhekemjdaa
open Go.RowKit Go.Sort
/-- How many integers a source has left. -/
def leftAt (w : World) (g : Nat) : Nat := match w.cell? ⟨g, 0, none⟩, w.cell? ⟨g, 1, none⟩ with
  | some (.slice _ n _), some (.int _ i) => n - i.toNat
  | _, _ => 0
theorem Src.left {w : World} {B g : Nat} {t : TypeId} {rest : List Int} (h : Src w B t g rest) : leftAt w g = rest.length := by
  obtain ⟨A, c, zs, i, w0, hb, _, _, _, _, hi, rfl, _⟩ := h
  have c0 : w.cell? ⟨g, 0, none⟩ = some (.slice A zs.length c) := hb.cell 0
  have c1 : w.cell? ⟨g, 1, none⟩ = some (.int .i64 i) := hb.cell 1
  unfold leftAt
  rw [c0, c1]
  simp
/-- A call that answers a truth value and changes nothing but the tape. -/
def RetLeft (w : World) (b : Bool) (e : Ending) (w' : World) : Prop := e = .returned (.bool b) ∧ ∃ n, w' = w.drewN n
set_option maxHeartbeats 400000 in
theorem left_any (B g : Nat) (rest : List Int) (w : World) (hsrc : Src w B 100 g rest) :
    Calls Try.prog 53 #[.pointer (some ⟨g, 0, none⟩)] w (RetLeft w (!rest.isEmpty)) := by
  obtain ⟨A, c, zs, i, w0, hb, hs, hB, hbel, hg, hi, rfl, hl, hr⟩ := hsrc
  have c0 : w.cell? ⟨g, 0, none⟩ = some (.slice A zs.length c) := hb.cell 0
  have c1 : w.cell? ⟨g, 1, none⟩ = some (.int .i64 i) := hb.cell 1
  have HB := Lib.hid (show (!(zs.drop i).isEmpty) = decide (i < zs.length) by
    rcases Nat.lt_or_ge i zs.length with h | h
    · rw [List.drop_eq_getElem_cons h]; simp [h]
    · rw [List.drop_eq_nil_of_le h]; simp; omega)
  clear hr hb hs hbel hB
  go_enter Try.func53, Try.ntmps53
  go_wp2_with fail
  go_quiet (fail)
  go_wp2
  go_ret
  exact ⟨by rw [HB.out]; rfl, _, rfl⟩
/-- A history that the law makes. -/
structure HistOk (s : Snp) (h : List Snp) : Prop where
  ok : s.okB = true
  chain : Chain s h
  small : ∀ t ∈ s :: h, ∀ e ∈ t.l, e.small
  len : h.length ≤ 7
def RetHs (w : World) (e : Ending) (w' : World) : Prop := ∃ v s h, e = .returned v ∧ OwnSn w' w.heap.size v (s :: h) ∧ HistOk s h ∧ Below w.heap.size w w'
theorem last_of (s : Snp) : ∀ h : List Snp, ∃ x, (s :: h)[h.length]? = some x
  | [] => ⟨s, rfl⟩
  | b :: h => by obtain ⟨x, hx⟩ := last_of b h; exact ⟨x, by simpa using hx⟩
theorem chain_at : ∀ {h : List Snp} {s x : Snp} {k : Nat}, s.okB = true → Chain s h → (s :: h)[k]? = some x → x.okB = true
  | h, s, x, 0, ho, _, hx => by simp at hx; subst hx; exact ho
  | [], s, x, k + 1, _, _, hx => by simp at hx
  | b :: h, s, x, k + 1, _, hc, hx => chain_at (k := k) hc.2.1 hc.2.2 (by simpa using hx)
theorem HistOk.snoc {s x z : Snp} {h : List Snp} {r : Rcd} (H : HistOk s h) (hx : (s :: h)[h.length]? = some x) (hlt : h.length < 7) (ha : applyV x r = (0, z)) (hr : ∀ e ∈ r.add, e.small) : HistOk s (h ++ [z]) := by
  have hk := applyV_ok ha
  have hz := hk.2.2.2.2.2.2.2.1
  refine ⟨H.ok, chain_snoc H.chain hx ⟨?_, ?_, ?_⟩ hk.2.2.2.2.2.2.2.2.1, fun t ht e he => ?_, by simp; omega⟩
  · rw [hz]; exact hk.2.2.2.1
  · rw [hz]; exact hk.2.2.2.2.1
  · rw [hz]; exact hk.2.2.2.2.2.1
  · rw [← List.cons_append, List.mem_append] at ht
    rcases ht with ht | ht
    · exact H.small t ht e he
    · simp at ht; subst ht
      rcases (applyV_mem ha).1 he with h1 | h1
      · exact H.small x (List.mem_of_getElem? hx) e h1.1
      · exact hr e h1
theorem own_i1 {w : World} {base : Nat} {e : TypeId} {v : Value} {l : List Int} {y : Int} {R : Nat} (hR : l.length = R) (h : w.ownsRow base e 1 v (R + 1) (ints l ++ (#[Value.int .i64 y] : Array Value).toList)) : w.ownsRow base e 1 v (l ++ [y]).length (ints (l ++ [y])) := by subst hR; exact own_ints h
theorem len_ok' {s : Snp} (h : s.okB = true) : s.l.length ≤ 256 := (snapB_parts h).1.2.2.2.2.2.2
theorem ok_ver {s : Snp} (h : s.okB = true) : 0 ≤ s.ver ∧ s.ver ≤ 2147483647 := ⟨(snapB_parts h).1.1, (snapB_parts h).1.2.1⟩
theorem ok_seq {s : Snp} (h : s.okB = true) : 0 ≤ s.seq ∧ s.seq ≤ 1099511627777 := ⟨(snapB_parts h).1.2.2.1, (snapB_parts h).1.2.2.2.1⟩
theorem ok_nid {s : Snp} (h : s.okB = true) : 1 ≤ s.nid ∧ s.nid ≤ 2147483647 := ⟨(snapB_parts h).1.2.2.2.2.1, (snapB_parts h).1.2.2.2.2.2.1⟩
theorem wrap_sm {k : Nat} (h : k ≤ 9223372036854775807) : IntKind.i64.wrap (k : Int) = k := by rw [IntKind.wrap_i64]; omega
def aggOf : Value → Array Value
  | .agg a => a
  | _ => #[]
/-- A record that is new. -/
def RecIs (w : World) (base : Nat) (v : Value) : Prop := ∃ (kind ver seq nid : Int) (add : List Ent) (rem : List Int) (va vr : Value), v = .agg #[.int .i64 kind, .int .i64 ver, .int .i64 seq, .int .i64 nid, va, vr] ∧
    w.ownsRow base 34 12 va add.length (ents add) ∧ w.ownsRow base 3 1 vr rem.length (ints rem) ∧ (∀ e ∈ add, e.small) ∧ add.length ≤ 1000 ∧ rem.length ≤ 1000
theorem RecIs.below {w w' : World} {base : Nat} {v : Value} (h : RecIs w base v) (hb : Below w.heap.size w w') : RecIs w' base v := by
  obtain ⟨a, b, c, d, add, rem, va, vr, e, h1, h2, h3⟩ := h
  exact ⟨a, b, c, d, add, rem, va, vr, e, own_below h1 hb, own_below h2 hb, h3⟩
/-- A version that the reference's Apply gave for the version x. -/
def ResIs (x : Snp) (w : World) (base : Nat) (va ve : Value) : Prop := ∃ (er : Int) (z : Snp) (r : Rcd) (vz : Value), va = .agg #[.int .i64 z.ver, .int .i64 z.seq, .int .i64 z.nid, vz] ∧ ve = .int .i64 er ∧ applyV x r = (er, z) ∧ (∀ e ∈ r.add, e.small) ∧ w.ownsRow base 34 12 vz z.l.length (ents z.l)
theorem ResIs.below {x : Snp} {w w' : World} {base : Nat} {va ve : Value} (h : ResIs x w base va ve) (hb : Below w.heap.size w w') : ResIs x w' base va ve := by
  obtain ⟨er, z, r, vz, e1, e2, e3, e4, h1⟩ := h
  exact ⟨er, z, r, vz, e1, e2, e3, e4, own_below h1 hb⟩
theorem Src.snaps {w w' : World} {B g base : Nat} {rest : List Int} {v : Value} {h : List Snp} (hs : Src w B 100 g rest) (ho : OwnSn w base v h) (k : Only g w w') : OwnSn w' base v h := by
  obtain ⟨us, e1, e2, e3⟩ := ho
  exact ⟨us, e1, own_only e2 hs (by decide) k, fun k' s u hk hu => own_only (e3 k' s u hk hu) hs (by decide) k⟩
set_option maxRecDepth 100000 in
set_option maxHeartbeats 8000000 in
theorem lhist_any (v : Value) (zs : List Int) (w : World) (hs : Sl w 1 v zs.length (ints zs)) (hl : zs.length ≤ 9223372036854775807) (hr : ∀ x ∈ zs, -9223372036854775808 ≤ x ∧ x ≤ 9223372036854775807) :
    Calls Try.prog 23 #[v] w (RetHs w) := by
  obtain ⟨A, c, rfl, _, _⟩ := hs.form
  have HF := Lib.hid (from_any _ zs w hs hl hr)
  clear hs hr hl
  go_enter Try.func23, Try.ntmps23
  go_wp2_with fail
  refine HF.out.mono ?_
  rintro _ w1 ⟨g, rfl, hb1, hsrc⟩
  clear HF
  go_wp2
  go_loopw [4, 5] (fun v4 i wr => ∃ (k : Nat) (r l : List Int), i = .int .i64 k ∧ k ≤ 12 ∧ l.length = k ∧ Hid (∀ x ∈ l, -9223372036854775808 ≤ x ∧ x ≤ 9223372036854775807) ∧ Src wr w.heap.size 100 g r ∧ wr.ownsRow w.heap.size 3 1 v4 k (ints l) ∧ Below w.heap.size w wr) (fun _ i _ => 12 - (intOf i).toNat)
  case atStart => exact ⟨0, zs, [], rfl, by omega, rfl, Lib.hid (by simp), hsrc, World.ownsRow_nil _ _ _ _, hb1⟩
  case round =>
    obtain ⟨k, r, l, rfl, hk, hll, hlr, hsrc, hown, hbel⟩ := hrel
    by_cases hlt : k < 12
    · have HRAW := Lib.hid hsrc.raw_bd
      have HLT := Lib.hid hlt
      have HLL := Lib.hid hll
      have HSR := Lib.hid hsrc
      have HOW := Lib.hid hown
      clear hll hsrc hown
      go_wp2_with fail
      refine (raw_any _ g r wr HSR.out).mono ?_
      rintro _ wa ⟨rfl, ho, hs2⟩
      have hown2 := own_row HOW.out ho (fun b hb e => HSR.out.own_ne HOW.out (by decide) (by rw [hb, e]))
      have hbel2 := hbel.trans (ho.below HSR.out.ge hbel.size)
      have hge := HSR.out.ge
      have hsz := hbel2.size
      have HS2 := Lib.hid hs2
      have HB2 := Lib.hid hbel2
      have HO2 := Lib.hid hown2
      clear ho hbel hs2 hbel2
      go_wp2_with (at_builtin; go_must (refine app1 _ _ hown2 (Below.refl w.heap.size wa) (Nat.le_refl _) hsz under_i64 info_i64 rfl (by decide) rfl (by intro u hu; simp at hu; subst hu; rfl) (by omega) (by omega) rfl rfl rfl rfl ?_))
      intro g' cap' w9 ho9 hb9 hg9 hor9
      have O9 := Lib.hid (own_i1 HLL.out ho9)
      have S9 := Lib.hid (HS2.out.grown hg9 (HS2.out.own_ne HO2.out (by decide)) (fun b hb => (HO2.out.lt b hb).1))
      have B9 := Lib.hid (HB2.out.trans hb9)
      have HR9 := Lib.hid (show ∀ x ∈ l ++ [raw r], -9223372036854775808 ≤ x ∧ x ≤ 9223372036854775807 from fun x hx => by
        rcases List.mem_append.1 hx with h | h
        · exact hlr.out x h
        · simp at h; subst h; exact HRAW.out)
      clear ho9 hb9 hg9 hor9 hown2 hsz
      go_wp2
      go_roundw
      case rel => exact ⟨k + 1, r.tail, l ++ [raw r], by go_num, HLT.out, by rw [List.length_append, HLL.out]; rfl, HR9, S9.out, (by have := O9.out; rw [List.length_append, HLL.out] at this; exact this), B9.out⟩
      case measure => have := HLT.out; simp [intOf]; omega
    · obtain ⟨Ar, cr, rfl, _, _⟩ := (Sl.of_own hown).form
      have hk12 : k = 12 := by omega
      subst hk12
      have HK := Lib.hid (ksnap_any (.slice Ar 12 cr) l wr (by have := Sl.of_own hown; rw [← hll] at this ⊢; exact this) (by omega) hlr.out)
      have HSR := Lib.hid hsrc
      have HBL := Lib.hid hbel
      clear hown hsrc hbel
      go_wp2_with fail
      refine HK.out.mono ?_
      rintro _ w2 ⟨x, q, n, vs, sl, rfl, k1, k2, k3, k4, k5, k6, hlen, hG, hos, hb2⟩
      have HOK := Lib.hid (show HistOk ⟨x, q, n, sl⟩ [] from ⟨gen_snapB k1 k2 k3 k4 k5 k6 hlen hG, trivial, fun t ht e he => by simp at ht; subst ht; exact Ent.gen_small (hG.mem e he).1, by simp⟩)
      obtain ⟨AE, cE, rfl, _, _⟩ := (Sl.of_own hos).form
      have OS := Lib.hid (own_mono hos HBL.out.size)
      have S2 := Lib.hid (HSR.out.below hb2)
      have B2 := Lib.hid (bst HBL.out hb2)
      clear hb2 hG hos k1 k2 k3 k4 k5 k6 hlen HK
      go_wp2
      go_loopw [6] (fun v6 wr => ∃ (s : Snp) (h : List Snp) (r : List Int), HistOk s h ∧ Src wr w.heap.size 100 g r ∧ OwnSn wr w.heap.size v6 (s :: h) ∧ Below w.heap.size w wr) (fun _ wr => leftAt wr g)
      case atStart =>
        have bb := Blk.new w2 24 #[.int .i64 x, .int .i64 q, .int .i64 n, .slice AE sl.length cE]
        exact ⟨_, [], _, HOK.out, S2.out.alloc _, own_one (s := ⟨x, q, n, sl⟩) bb B2.out.size (own_below OS.out (abel _ _)), B2.out.alloc B2.out.size _⟩
      case round =>
        obtain ⟨wo, rfl⟩ : ∃ wo : World, wo = wr := ⟨_, rfl⟩
        obtain ⟨s, h, r, HOKs, hsrc, hown, hbel⟩ := hrel
        obtain ⟨AH, cH, rfl, _, _⟩ := hown.form
        have HML := Lib.hid hsrc.left
        have HL := Lib.hid (left_any _ g r wo hsrc)
        obtain ⟨R, hR⟩ : ∃ R, (s :: h).length = R := ⟨_, rfl⟩
        have HRR := Lib.hid hR
        have HR1 := Lib.hid (show R = h.length + 1 by rw [← hR]; rfl)
        have hR8 : R ≤ 8 := by have h1 := HOKs.len; have h2 := HR1.out; omega
        have HK1 := Lib.hid HOKs
        rw [hR]
        clear HOKs hR
        cases hre : r with
        | nil =>
          have HN := Lib.hid (show (!r.isEmpty) = false by rw [hre]; rfl)
          have HOW := Lib.hid hown
          have HBE := Lib.hid hbel
          clear hown hbel hsrc hre
          go_wp2_with fail
          refine HL.out.mono ?_
          rw [HN.out]
          rintro _ wb ⟨rfl, m, rfl⟩
          go_wp2
          go_ret
          exact ⟨_, s, h, rfl, by rw [← HRR.out]; exact HOW.out, HK1.out, below_drewN HBE.out _⟩
        | cons y rs =>
          have HN := Lib.hid (show (!r.isEmpty) = true by rw [hre]; rfl)
          have HRE := Lib.hid hre
          clear hre
          by_cases h8 : R < 8
          case neg =>
            have HOW := Lib.hid hown
            have HBE := Lib.hid hbel
            clear hown hbel hsrc
            go_wp2_with fail
            refine HL.out.mono ?_
            rw [HN.out]
            rintro _ wb ⟨rfl, m, rfl⟩
            go_wp2
            go_ret
            exact ⟨_, s, h, rfl, by rw [← HRR.out]; exact HOW.out, HK1.out, below_drewN HBE.out _⟩
          case pos =>
            have HOW := Lib.hid hown
            have HBE := Lib.hid hbel
            have HSR0 := Lib.hid hsrc
            have H8 := Lib.hid h8
            have hd8 : decide ((R : Int) < 8) = true := by simp; omega
            clear h8
            clear hown hbel hsrc
            go_wp2_with fail
            refine HL.out.mono ?_
            rw [HN.out]
            rintro _ wb ⟨rfl, m, rfl⟩
            clear HL
            obtain ⟨w3, hw3⟩ : ∃ w3, w3 = wo.drewN m := ⟨_, rfl⟩
            have HOW3 := Lib.hid (show OwnSn w3 w.heap.size (.slice AH R cH) (s :: h) by rw [hw3, ← HRR.out]; exact HOW.out)
            have HBE3 := Lib.hid (show Below w.heap.size w w3 by rw [hw3]; exact below_drewN HBE.out _)
            have HSR3 := Lib.hid (show Src w3 w.heap.size 100 g r by rw [hw3]; exact HSR0.out.drewN _)
            rw [← hw3]
            clear hw3 HOW HBE HSR0
            go_wp2
            go_loopw [7, 8] (fun v7 i wx => ∃ (k : Nat) (rx l : List Int), i = .int .i64 k ∧ k ≤ 10 ∧ l.length = k ∧ rx.length ≤ r.length - k ∧ Hid (∀ x ∈ l, -9223372036854775808 ≤ x ∧ x ≤ 9223372036854775807) ∧ Src wx w.heap.size 100 g rx ∧ wx.ownsRow w3.heap.size 3 1 v7 k (ints l) ∧ Only g w3 wx) (fun _ i _ => 10 - (intOf i).toNat)
            case atStart => exact ⟨0, r, [], rfl, by omega, rfl, by omega, Lib.hid (by simp), HSR3.out, World.ownsRow_nil _ _ _ _, Only.refl _ _⟩
            case round =>
              obtain ⟨k, rx, l, rfl, hk, hll, hrx, hlr, hsrc, hown, hon⟩ := hrel
              by_cases hlt : k < 10
              · have HRAW := Lib.hid hsrc.raw_bd
                have HLT := Lib.hid hlt
                have HLL := Lib.hid hll
                have HSR := Lib.hid hsrc
                have HOWX := Lib.hid hown
                have HRX := Lib.hid hrx
                clear hll hsrc hown hrx
                go_wp2_with fail
                refine (raw_any _ g rx wr HSR.out).mono ?_
                rintro _ wa ⟨rfl, ho, hs2⟩
                have hown2 := own_row HOWX.out ho (fun b hb e => HSR.out.own_ne HOWX.out (by decide) (by rw [hb, e]))
                have hon2 := hon.trans ho
                have hsz := hon2.size
                have HS2 := Lib.hid hs2
                have ON2 := Lib.hid hon2
                have HO2 := Lib.hid hown2
                clear ho hon hs2 hon2
                go_wp2_with (at_builtin; go_must (refine app1 _ _ hown2 (Below.refl w3.heap.size wa) (Nat.le_refl _) hsz under_i64 info_i64 rfl (by decide) rfl (by intro u hu; simp at hu; subst hu; rfl) (by omega) (by omega) rfl rfl rfl rfl ?_))
                intro g' cap' w9 ho9 hb9 hg9 hor9
                have O9 := Lib.hid (own_i1 HLL.out ho9)
                have S9 := Lib.hid (HS2.out.grown hg9 (HS2.out.own_ne HO2.out (by decide)) (fun b hb => Nat.le_trans HBE3.out.size (HO2.out.lt b hb).1))
                have ON9 := Lib.hid (ON2.out.grown hg9 (fun b hb => .inl (HO2.out.lt b hb).1))
                have HR9 := Lib.hid (show ∀ x ∈ l ++ [raw rx], -9223372036854775808 ≤ x ∧ x ≤ 9223372036854775807 from fun x hx => by
                  rcases List.mem_append.1 hx with h | h
                  · exact hlr.out x h
                  · simp at h; subst h; exact HRAW.out)
                clear ho9 hb9 hg9 hor9 hown2 hsz
                go_wp2
                go_roundw
                case rel => exact ⟨k + 1, rx.tail, l ++ [raw rx], by go_num, HLT.out, by rw [List.length_append, HLL.out]; rfl, by have := HRX.out; rw [List.length_tail]; omega, HR9, S9.out, (by have := O9.out; rw [List.length_append, HLL.out] at this; exact this), ON9.out⟩
                case measure => have := HLT.out; simp [intOf]; omega
              · have hk10 : k = 10 := by omega
                subst hk10
                obtain ⟨Am, cm, rfl, _, _⟩ := (Sl.of_own hown).form
                have HLS := Lib.hid (show rx.length < r.length by rw [HRE.out] at hrx ⊢; simp at hrx ⊢; omega)
                have SM := Lib.hid (show Sl wr 1 (.slice Am 10 cm) l.length (ints l) by have := Sl.of_own hown; rw [← hll] at this ⊢; exact this)
                have OWX := Lib.hid (HSR3.out.snaps HOW3.out hon)
                have BWX := Lib.hid (HBE3.out.trans (hon.below HSR3.out.ge HBE3.out.size))
                have SRX := Lib.hid hsrc
                clear hown hon hsrc hrx
                obtain ⟨xl, hxl⟩ := last_of s h
                obtain ⟨ad2, s2, v2, p2, hA2, hs2, hp2, hSA, hSl⟩ := OWX.out.sl.load (k := h.length) HRR.out.symm (by have := HR1.out; omega)
                cases hA2
                rw [hxl] at hs2
                injection hs2 with hs2
                subst hs2
                obtain ⟨hplt, c0, c1, c2, c3⟩ := hSA
                obtain ⟨AL, cL, rfl, hL1, hL2⟩ := hSl.form
                have HXL := Lib.hid hxl
                have HXO := Lib.hid (chain_at HK1.out.ok HK1.out.chain hxl)
                have HXS := Lib.hid (HK1.out.small _ (List.mem_of_getElem? hxl))
                obtain ⟨K, hK⟩ : ∃ K, h.length = K := ⟨_, rfl⟩
                have HKK := Lib.hid hK
                rw [hK] at hp2 HR1
                clear hxl hK
                go_upto_region 14 with (fail)
                have HKR := Lib.hid (fun (X : World) (h : Below wr.heap.size wr X) => krecord_any xl.ver xl.seq xl.nid xl.l l (.slice AL xl.l.length cL) (.slice Am 10 cm) X (hSl.below h) HXS.out (len_ok' HXO.out) (ok_ver HXO.out) (ok_seq HXO.out) (ok_nid HXO.out) (SM.out.below h) (by omega) hlr.out)
                have HSLX := Lib.hid hSl
                have HLX := Lib.hid (show xl.l.length ≤ 9223372036854775807 by have := len_ok' HXO.out; omega)
                have hR1 : 1 ≤ R := by have := HR1.out; omega
                have hRK : (R : Int) - 1 = K := by have := HR1.out; omega
                have hkR : K < R := by have := HR1.out; omega
                have hKs : (K : Int) ≤ 8 := by omega
                clear hSl
                refine wp_region_inv (by kernel_rfl) (by kernel_rfl) (fun L a w' => ∃ v42 v43 v44 v45 v46 v47 v48 v49 v50 v51 v52 v53 v54 v55 v56 v57 v58 v9 v10 v41 va ve : Value, a = ⟨#[.slice A zs.length c, undef, .slice none 0 0, .pointer (some ⟨g, 0, none⟩), .slice Ar 12 cr, .int .i64 12, .slice (some ad2) R cH, .slice Am 10 cm, .int .i64 ((10 : Nat) : Int), v9, v10, .slice A zs.length c, .pointer (some ⟨g, 0, none⟩), .int .i64 12, .bool false, u15, u16, u17, u18, u19, u20, u21, .slice Ar 12 cr, .agg #[.int .i64 x, .int .i64 q, .int .i64 n, .slice AE sl.length cE], .slice (some ⟨w2.heap.size, 0, none⟩) 1 1, .pointer (some ⟨g, 0, none⟩), .bool true, .bool true, .slice (some ad2) R cH, .int .i64 R, .bool true, .bool true, .int .i64 ((10 : Nat) : Int), .bool false, u34, u35, u36, u37, u38, u39, u40, v41, v42, v43, v44, v45, v46, v47, v48, v49, v50, v51, v52, v53, v54, v55, v56, v57, v58, u59, u60, u61, u62, u63, u64, undef], []⟩ ∧
                    Below wr.heap.size wr w' ∧ Got (L 0) v42 (.slice (some ad2) R cH) ∧ Got (L 1) v43 (.slice (some ad2) R cH) ∧ Got (L 2) v44 (.int .i64 R) ∧ Got (L 3) v45 (.int .i64 K) ∧ Got (L 4) v46 (.pointer (some p2)) ∧ Got (L 5) v47 (.agg #[.int .i64 xl.ver, .int .i64 xl.seq, .int .i64 xl.nid, .slice AL xl.l.length cL]) ∧ Got (L 6) v48 (.slice (some ad2) R cH) ∧ Got (L 7) v49 (.slice (some ad2) R cH) ∧ Got (L 8) v50 (.int .i64 R) ∧ Got (L 9) v51 (.int .i64 K) ∧ Got (L 10) v52 (.pointer (some p2)) ∧ Got (L 11) v53 (.agg #[.int .i64 xl.ver, .int .i64 xl.seq, .int .i64 xl.nid, .slice AL xl.l.length cL]) ∧ Got (L 12) v54 (.slice Am 10 cm) ∧ (L 13 = true → L 14 = false → RecIs w' wr.heap.size v55) ∧ Got (L 14) v56 (.tuple #[va, ve]) ∧ Got (L 15) v41 (.tuple #[va, ve]) ∧ Got (L 16) v57 va ∧ Got (L 17) v58 ve ∧ (L 18 = true → ∃ N2, v9 = .pointer (some ⟨N2, 0, none⟩) ∧ wr.heap.size ≤ N2 ∧ Blk w' N2 24 (if L 19 = true then aggOf va else #[.int .i64 0, .int .i64 0, .int .i64 0, .slice none 0 0])) ∧ Got (L 20) v10 ve ∧ (L 14 = true → ResIs xl w' wr.heap.size va ve) ∧ (L 19 = true → L 18 = true ∧ L 14 = true) ∧ (L 15 = true → L 14 = true) ∧ (L 16 = true → L 15 = true) ∧ (L 17 = true → L 15 = true) ∧ (L 20 = true → L 17 = true))
                  ?_ ?_ ?_
                · exact ⟨_, _, _, _, _, _, _, _, _, _, _, _, _, _, _, _, _, _, _, _, .int .i64 0, .int .i64 0, rfl, (Below.refl _ _).drew, nofun, nofun, nofun, nofun, nofun, nofun, nofun, nofun, nofun, nofun, nofun, nofun, nofun, nofun, nofun, nofun, nofun, nofun, nofun, nofun, nofun, nofun, nofun, nofun, nofun, nofun⟩
                · refine ⟨?_, ?_, ?_, ?_, ?_, ?_, ?_, ?_, ?_, ?_, ?_, ?_, ?_, ?_, ?_, ?_, ?_, ?_, ?_, ?_, ?_, trivial⟩
                  · rintro L a w' ⟨v42, v43, v44, v45, v46, v47, v48, v49, v50, v51, v52, v53, v54, v55, v56, v57, v58, v9, v10, v41, va, ve, rfl, hb, g0, g1, g2, g3, g4, g5, g6, g7, g8, g9, g10, g11, g12, g13, g14, g15, g16, g17, g18, g19, g20, g21, g22, g23, g24, g25⟩ hl hd K hK
                    dsimp only at hK ⊢
                    go_simp
                    exact hK _ _ ⟨_, _, _, _, _, _, _, _, _, _, _, _, _, _, _, _, _, _, _, _, _, _, rfl, hb, fun _ => rfl, g1, g2, g3, g4, g5, g6, g7, g8, g9, g10, g11, g12, g13, g14, g15, g16, g17, g18, g19, g20, g21, g22, g23, g24, g25⟩
                  · rintro L a w' ⟨v42, v43, v44, v45, v46, v47, v48, v49, v50, v51, v52, v53, v54, v55, v56, v57, v58, v9, v10, v41, va, ve, rfl, hb, g0, g1, g2, g3, g4, g5, g6, g7, g8, g9, g10, g11, g12, g13, g14, g15, g16, g17, g18, g19, g20, g21, g22, g23, g24, g25⟩ hl hd K hK
                    dsimp only at hK ⊢
                    go_simp
                    exact hK _ _ ⟨_, _, _, _, _, _, _, _, _, _, _, _, _, _, _, _, _, _, _, _, _, _, rfl, hb, g0, fun _ => rfl, g2, g3, g4, g5, g6, g7, g8, g9, g10, g11, g12, g13, g14, g15, g16, g17, g18, g19, g20, g21, g22, g23, g24, g25⟩
                  · rintro L a w' ⟨v42, v43, v44, v45, v46, v47, v48, v49, v50, v51, v52, v53, v54, v55, v56, v57, v58, v9, v10, v41, va, ve, rfl, hb, g0, g1, g2, g3, g4, g5, g6, g7, g8, g9, g10, g11, g12, g13, g14, g15, g16, g17, g18, g19, g20, g21, g22, g23, g24, g25⟩ hl hd K hK
                    simp [Region.binds] at hd
                    dsimp only at hK ⊢
                    have e1 := g1 (by simp [hd])
                    subst e1
                    go_simp
                    exact hK _ _ ⟨_, _, _, _, _, _, _, _, _, _, _, _, _, _, _, _, _, _, _, _, _, _, rfl, hb, g0, g1, fun _ => rfl, g3, g4, g5, g6, g7, g8, g9, g10, g11, g12, g13, g14, g15, g16, g17, g18, g19, g20, g21, g22, g23, g24, g25⟩
                  · rintro L a w' ⟨v42, v43, v44, v45, v46, v47, v48, v49, v50, v51, v52, v53, v54, v55, v56, v57, v58, v9, v10, v41, va, ve, rfl, hb, g0, g1, g2, g3, g4, g5, g6, g7, g8, g9, g10, g11, g12, g13, g14, g15, g16, g17, g18, g19, g20, g21, g22, g23, g24, g25⟩ hl hd K hK
                    simp [Region.binds] at hd
                    dsimp only at hK ⊢
                    have e2 := g2 (by simp [hd])
                    subst e2
                    go_simp
                    exact hK _ _ ⟨_, _, _, _, _, _, _, _, _, _, _, _, _, _, _, _, _, _, _, _, _, _, rfl, hb, g0, g1, g2, fun _ => congrArg _ (wrap_sm (by omega)), g4, g5, g6, g7, g8, g9, g10, g11, g12, g13, g14, g15, g16, g17, g18, g19, g20, g21, g22, g23, g24, g25⟩
                  · rintro L a w' ⟨v42, v43, v44, v45, v46, v47, v48, v49, v50, v51, v52, v53, v54, v55, v56, v57, v58, v9, v10, v41, va, ve, rfl, hb, g0, g1, g2, g3, g4, g5, g6, g7, g8, g9, g10, g11, g12, g13, g14, g15, g16, g17, g18, g19, g20, g21, g22, g23, g24, g25⟩ hl hd K hK
                    simp [Region.binds] at hd
                    dsimp only at hK ⊢
                    have e0 := g0 (by simp [hd])
                    subst e0
                    have e3 := g3 (by simp [hd])
                    subst e3
                    go_simp
                    exact hK _ _ ⟨_, _, _, _, _, _, _, _, _, _, _, _, _, _, _, _, _, _, _, _, _, _, rfl, hb, g0, g1, g2, g3, fun _ => rfl, g5, g6, g7, g8, g9, g10, g11, g12, g13, g14, g15, g16, g17, g18, g19, g20, g21, g22, g23, g24, g25⟩
                  · rintro L a w' ⟨v42, v43, v44, v45, v46, v47, v48, v49, v50, v51, v52, v53, v54, v55, v56, v57, v58, v9, v10, v41, va, ve, rfl, hb, g0, g1, g2, g3, g4, g5, g6, g7, g8, g9, g10, g11, g12, g13, g14, g15, g16, g17, g18, g19, g20, g21, g22, g23, g24, g25⟩ hl hd K hK
                    simp [Region.binds] at hd
                    dsimp only at hK ⊢
                    have e4 := g4 (by simp [hd])
                    subst e4
                    have cc0 := (hb.cell (p := p2) hplt).trans c0
                    have cc1 := (hb.cell (p := { block := p2.block, off := p2.off + 1 }) hplt).trans c1
                    have cc2 := (hb.cell (p := { block := p2.block, off := p2.off + 2 }) hplt).trans c2
                    have cc3 := (hb.cell (p := { block := p2.block, off := p2.off + 3 }) hplt).trans c3
                    go_simp
                    exact hK _ _ ⟨_, _, _, _, _, _, _, _, _, _, _, _, _, _, _, _, _, _, _, _, _, _, rfl, hb, g0, g1, g2, g3, g4, fun _ => rfl, g6, g7, g8, g9, g10, g11, g12, g13, g14, g15, g16, g17, g18, g19, g20, g21, g22, g23, g24, g25⟩
                  · rintro L a w' ⟨v42, v43, v44, v45, v46, v47, v48, v49, v50, v51, v52, v53, v54, v55, v56, v57, v58, v9, v10, v41, va, ve, rfl, hb, g0, g1, g2, g3, g4, g5, g6, g7, g8, g9, g10, g11, g12, g13, g14, g15, g16, g17, g18, g19, g20, g21, g22, g23, g24, g25⟩ hl hd K hK
                    dsimp only at hK ⊢
                    go_simp
                    exact hK _ _ ⟨_, _, _, _, _, _, _, _, _, _, _, _, _, _, _, _, _, _, _, _, _, _, rfl, hb, g0, g1, g2, g3, g4, g5, fun _ => rfl, g7, g8, g9, g10, g11, g12, g13, g14, g15, g16, g17, g18, g19, g20, g21, g22, g23, g24, g25⟩
                  · rintro L a w' ⟨v42, v43, v44, v45, v46, v47, v48, v49, v50, v51, v52, v53, v54, v55, v56, v57, v58, v9, v10, v41, va, ve, rfl, hb, g0, g1, g2, g3, g4, g5, g6, g7, g8, g9, g10, g11, g12, g13, g14, g15, g16, g17, g18, g19, g20, g21, g22, g23, g24, g25⟩ hl hd K hK
                    dsimp only at hK ⊢
                    go_simp
                    exact hK _ _ ⟨_, _, _, _, _, _, _, _, _, _, _, _, _, _, _, _, _, _, _, _, _, _, rfl, hb, g0, g1, g2, g3, g4, g5, g6, fun _ => rfl, g8, g9, g10, g11, g12, g13, g14, g15, g16, g17, g18, g19, g20, g21, g22, g23, g24, g25⟩
                  · rintro L a w' ⟨v42, v43, v44, v45, v46, v47, v48, v49, v50, v51, v52, v53, v54, v55, v56, v57, v58, v9, v10, v41, va, ve, rfl, hb, g0, g1, g2, g3, g4, g5, g6, g7, g8, g9, g10, g11, g12, g13, g14, g15, g16, g17, g18, g19, g20, g21, g22, g23, g24, g25⟩ hl hd K hK
                    simp [Region.binds] at hd
                    dsimp only at hK ⊢
                    have e7 := g7 (by simp [hd])
                    subst e7
                    go_simp
                    exact hK _ _ ⟨_, _, _, _, _, _, _, _, _, _, _, _, _, _, _, _, _, _, _, _, _, _, rfl, hb, g0, g1, g2, g3, g4, g5, g6, g7, fun _ => rfl, g9, g10, g11, g12, g13, g14, g15, g16, g17, g18, g19, g20, g21, g22, g23, g24, g25⟩
                  · rintro L a w' ⟨v42, v43, v44, v45, v46, v47, v48, v49, v50, v51, v52, v53, v54, v55, v56, v57, v58, v9, v10, v41, va, ve, rfl, hb, g0, g1, g2, g3, g4, g5, g6, g7, g8, g9, g10, g11, g12, g13, g14, g15, g16, g17, g18, g19, g20, g21, g22, g23, g24, g25⟩ hl hd K hK
                    simp [Region.binds] at hd
                    dsimp only at hK ⊢
                    have e8 := g8 (by simp [hd])
                    subst e8
                    go_simp
                    exact hK _ _ ⟨_, _, _, _, _, _, _, _, _, _, _, _, _, _, _, _, _, _, _, _, _, _, rfl, hb, g0, g1, g2, g3, g4, g5, g6, g7, g8, fun _ => congrArg _ (wrap_sm (by omega)), g10, g11, g12, g13, g14, g15, g16, g17, g18, g19, g20, g21, g22, g23, g24, g25⟩
                  · rintro L a w' ⟨v42, v43, v44, v45, v46, v47, v48, v49, v50, v51, v52, v53, v54, v55, v56, v57, v58, v9, v10, v41, va, ve, rfl, hb, g0, g1, g2, g3, g4, g5, g6, g7, g8, g9, g10, g11, g12, g13, g14, g15, g16, g17, g18, g19, g20, g21, g22, g23, g24, g25⟩ hl hd K hK
                    simp [Region.binds] at hd
                    dsimp only at hK ⊢
                    have e6 := g6 (by simp [hd])
                    subst e6
                    have e9 := g9 (by simp [hd])
                    subst e9
                    go_simp
                    exact hK _ _ ⟨_, _, _, _, _, _, _, _, _, _, _, _, _, _, _, _, _, _, _, _, _, _, rfl, hb, g0, g1, g2, g3, g4, g5, g6, g7, g8, g9, fun _ => rfl, g11, g12, g13, g14, g15, g16, g17, g18, g19, g20, g21, g22, g23, g24, g25⟩
                  · rintro L a w' ⟨v42, v43, v44, v45, v46, v47, v48, v49, v50, v51, v52, v53, v54, v55, v56, v57, v58, v9, v10, v41, va, ve, rfl, hb, g0, g1, g2, g3, g4, g5, g6, g7, g8, g9, g10, g11, g12, g13, g14, g15, g16, g17, g18, g19, g20, g21, g22, g23, g24, g25⟩ hl hd K hK
                    simp [Region.binds] at hd
                    dsimp only at hK ⊢
                    have e10 := g10 (by simp [hd])
                    subst e10
                    have cc0 := (hb.cell (p := p2) hplt).trans c0
                    have cc1 := (hb.cell (p := { block := p2.block, off := p2.off + 1 }) hplt).trans c1
                    have cc2 := (hb.cell (p := { block := p2.block, off := p2.off + 2 }) hplt).trans c2
                    have cc3 := (hb.cell (p := { block := p2.block, off := p2.off + 3 }) hplt).trans c3
                    go_simp
                    exact hK _ _ ⟨_, _, _, _, _, _, _, _, _, _, _, _, _, _, _, _, _, _, _, _, _, _, rfl, hb, g0, g1, g2, g3, g4, g5, g6, g7, g8, g9, g10, fun _ => rfl, g12, g13, g14, g15, g16, g17, g18, g19, g20, g21, g22, g23, g24, g25⟩
                  · rintro L a w' ⟨v42, v43, v44, v45, v46, v47, v48, v49, v50, v51, v52, v53, v54, v55, v56, v57, v58, v9, v10, v41, va, ve, rfl, hb, g0, g1, g2, g3, g4, g5, g6, g7, g8, g9, g10, g11, g12, g13, g14, g15, g16, g17, g18, g19, g20, g21, g22, g23, g24, g25⟩ hl hd K hK
                    dsimp only at hK ⊢
                    go_simp
                    exact hK _ _ ⟨_, _, _, _, _, _, _, _, _, _, _, _, _, _, _, _, _, _, _, _, _, _, rfl, hb, g0, g1, g2, g3, g4, g5, g6, g7, g8, g9, g10, g11, fun _ => rfl, g13, g14, g15, g16, g17, g18, g19, g20, g21, g22, g23, g24, g25⟩
                  · rintro L a w' ⟨v42, v43, v44, v45, v46, v47, v48, v49, v50, v51, v52, v53, v54, v55, v56, v57, v58, v9, v10, v41, va, ve, rfl, hb, g0, g1, g2, g3, g4, g5, g6, g7, g8, g9, g10, g11, g12, g13, g14, g15, g16, g17, g18, g19, g20, g21, g22, g23, g24, g25⟩ hl hd K hK
                    simp [Region.binds] at hd
                    dsimp only at hK ⊢
                    have e11 := g11 (by simp [hd])
                    subst e11
                    have e12 := g12 (by simp [hd])
                    subst e12
                    go_wp2_with fail
                    refine (HKR.out w' hb).mono ?_
                    rintro _ w4 ⟨kind, ver, seq, nid, add, rem, wa, wb, rfl, o1, o2, o3, o4, o5, hb4⟩
                    exact hK _ _ ⟨_, _, _, _, _, _, _, _, _, _, _, _, _, _, _, _, _, _, _, _, _, _, rfl, bst hb hb4, g0, g1, g2, g3, g4, g5, g6, g7, g8, g9, g10, g11, g12, fun _ _ => ⟨kind, ver, seq, nid, add, rem, wa, wb, rfl, own_mono o1 hb.size, own_mono o2 hb.size, o3, o4, o5⟩, g14, g15, g16, g17, fun h => (by obtain ⟨N2, e1, e2, e3⟩ := g18 h; exact ⟨N2, e1, e2, e3.below hb4 e3.lt⟩), g19, fun h => (g20 h).below hb4, g21, g22, g23, g24, g25⟩
                  · rintro L a w' ⟨v42, v43, v44, v45, v46, v47, v48, v49, v50, v51, v52, v53, v54, v55, v56, v57, v58, v9, v10, v41, va, ve, rfl, hb, g0, g1, g2, g3, g4, g5, g6, g7, g8, g9, g10, g11, g12, g13, g14, g15, g16, g17, g18, g19, g20, g21, g22, g23, g24, g25⟩ hl hd K hK
                    simp [Region.binds] at hd
                    dsimp only at hK ⊢
                    have e5 := g5 (by simp [hd])
                    subst e5
                    have h13 : L 13 = true := by simp [hd]
                    obtain ⟨kind, ver, seq, nid, add, rem, wa, wb, e13, o1, o2, o3, o4, o5⟩ := g13 h13 hl
                    subst e13
                    have h15 : L 15 = false := by
                      cases h : L 15 with
                      | false => rfl
                      | true => have := g22 h; rw [hl] at this; cases this
                    have h16 : L 16 = false := by
                      cases h : L 16 with
                      | false => rfl
                      | true => have := g23 h; rw [h15] at this; cases this
                    have h17 : L 17 = false := by
                      cases h : L 17 with
                      | false => rfl
                      | true => have := g24 h; rw [h15] at this; cases this
                    have h20 : L 20 = false := by
                      cases h : L 20 with
                      | false => rfl
                      | true => have := g25 h; rw [h17] at this; cases this
                    have h19 : L 19 = false := by
                      cases h : L 19 with
                      | false => rfl
                      | true => have := (g21 h).2; rw [hl] at this; cases this
                    obtain ⟨Aq, cq, rfl, _, _⟩ := (Sl.of_own o1).form
                    obtain ⟨Bq, dq, rfl, _, _⟩ := (Sl.of_own o2).form
                    obtain ⟨res, hres⟩ : ∃ res, applyV xl ⟨kind, ver, seq, nid, add, rem⟩ = res := ⟨_, rfl⟩
                    have HA := Lib.hid (rapply_any xl.ver xl.seq xl.nid xl.l kind ver seq nid add rem (.slice AL xl.l.length cL) (.slice Aq add.length cq) (.slice Bq rem.length dq) w' (HSLX.out.below hb) HXS.out HLX.out (Sl.of_own o1) o3 (by omega) (Sl.of_own o2) (by omega))
                    go_wp2_with fail
                    refine HA.out.mono ?_
                    rintro _ w4 ⟨v4, rfl, hown4, hb4⟩
                    rw [show applyV ⟨xl.ver, xl.seq, xl.nid, xl.l⟩ ⟨kind, ver, seq, nid, add, rem⟩ = res from hres] at hown4 ⊢
                    exact hK _ _ ⟨_, _, _, _, _, _, _, _, _, _, _, _, _, _, _, _, _, _, _, _, _, _, rfl, bst hb hb4, g0, g1, g2, g3, g4, g5, g6, g7, g8, g9, g10, g11, g12, fun _ h => (by cases h), fun _ => rfl, fun h => absurd (show L 15 = true from h) (by rw [h15]; simp), fun h => absurd (show L 16 = true from h) (by rw [h16]; simp), fun h => absurd (show L 17 = true from h) (by rw [h17]; simp), fun h => (by
                obtain ⟨N2, e1, e2, e3⟩ := g18 h
                have e4 := e3.below hb4 e3.lt
                rw [if_neg (by rw [h19]; simp)] at e4
                exact ⟨N2, e1, e2, by show Blk _ _ _ (if L 19 = true then _ else _); rw [if_neg (by rw [h19]; simp)]; exact e4⟩), fun h => absurd (show L 20 = true from h) (by rw [h20]; simp), fun _ => ⟨res.1, res.2, ⟨kind, ver, seq, nid, add, rem⟩, v4, rfl, rfl, hres, o3, own_mono hown4 hb.size⟩, fun h => absurd (show L 19 = true from h) (by rw [h19]; simp), fun _ => rfl, g23, g24, g25⟩
                  · rintro L a w' ⟨v42, v43, v44, v45, v46, v47, v48, v49, v50, v51, v52, v53, v54, v55, v56, v57, v58, v9, v10, v41, va, ve, rfl, hb, g0, g1, g2, g3, g4, g5, g6, g7, g8, g9, g10, g11, g12, g13, g14, g15, g16, g17, g18, g19, g20, g21, g22, g23, g24, g25⟩ hl hd K hK
                    simp [Region.binds] at hd
                    dsimp only at hK ⊢
                    have e14 := g14 (by simp [hd])
                    subst e14
                    go_simp
                    exact hK _ _ ⟨_, _, _, _, _, _, _, _, _, _, _, _, _, _, _, _, _, _, _, _, _, _, rfl, hb, g0, g1, g2, g3, g4, g5, g6, g7, g8, g9, g10, g11, g12, g13, g14, fun _ => rfl, g16, g17, g18, g19, g20, g21, fun _ => (by show L 14 = true; simp [hd]), fun _ => rfl, fun _ => rfl, g25⟩
                  · rintro L a w' ⟨v42, v43, v44, v45, v46, v47, v48, v49, v50, v51, v52, v53, v54, v55, v56, v57, v58, v9, v10, v41, va, ve, rfl, hb, g0, g1, g2, g3, g4, g5, g6, g7, g8, g9, g10, g11, g12, g13, g14, g15, g16, g17, g18, g19, g20, g21, g22, g23, g24, g25⟩ hl hd K hK
                    simp [Region.binds] at hd
                    dsimp only at hK ⊢
                    have e15 := g15 (by simp [hd])
                    subst e15
                    go_simp
                    exact hK _ _ ⟨_, _, _, _, _, _, _, _, _, _, _, _, _, _, _, _, _, _, _, _, _, _, rfl, hb, g0, g1, g2, g3, g4, g5, g6, g7, g8, g9, g10, g11, g12, g13, g14, g15, fun _ => rfl, g17, g18, g19, g20, g21, g22, fun _ => (by show L 15 = true; simp [hd]), g24, g25⟩
                  · rintro L a w' ⟨v42, v43, v44, v45, v46, v47, v48, v49, v50, v51, v52, v53, v54, v55, v56, v57, v58, v9, v10, v41, va, ve, rfl, hb, g0, g1, g2, g3, g4, g5, g6, g7, g8, g9, g10, g11, g12, g13, g14, g15, g16, g17, g18, g19, g20, g21, g22, g23, g24, g25⟩ hl hd K hK
                    simp [Region.binds] at hd
                    dsimp only at hK ⊢
                    have e15 := g15 (by simp [hd])
                    subst e15
                    go_simp
                    exact hK _ _ ⟨_, _, _, _, _, _, _, _, _, _, _, _, _, _, _, _, _, _, _, _, _, _, rfl, hb, g0, g1, g2, g3, g4, g5, g6, g7, g8, g9, g10, g11, g12, g13, g14, g15, g16, fun _ => rfl, g18, g19, g20, g21, g22, g23, fun _ => (by show L 15 = true; simp [hd]), fun _ => rfl⟩
                  · rintro L a w' ⟨v42, v43, v44, v45, v46, v47, v48, v49, v50, v51, v52, v53, v54, v55, v56, v57, v58, v9, v10, v41, va, ve, rfl, hb, g0, g1, g2, g3, g4, g5, g6, g7, g8, g9, g10, g11, g12, g13, g14, g15, g16, g17, g18, g19, g20, g21, g22, g23, g24, g25⟩ hl hd K hK
                    dsimp only at hK ⊢
                    have h19 : L 19 = false := by
                      cases h : L 19 with
                      | false => rfl
                      | true => have := (g21 h).1; rw [hl] at this; cases this
                    go_simp
                    exact hK _ _ ⟨_, _, _, _, _, _, _, _, _, _, _, _, _, _, _, _, _, _, _, _, _, _, rfl, hb.alloc hb.size _, g0, g1, g2, g3, g4, g5, g6, g7, g8, g9, g10, g11, g12, fun h h2 => (g13 h h2).below (abel _ _), g14, g15, g16, g17, fun _ => ⟨w'.heap.size, rfl, hb.size, (by show Blk _ _ _ (if L 19 = true then _ else _); rw [if_neg (by rw [h19]; simp)]; exact Blk.new _ _ _)⟩, g19, fun h => (g20 h).below (abel _ _), fun h => absurd (show L 19 = true from h) (by rw [h19]; simp), g22, g23, g24, g25⟩
                  · rintro L a w' ⟨v42, v43, v44, v45, v46, v47, v48, v49, v50, v51, v52, v53, v54, v55, v56, v57, v58, v9, v10, v41, va, ve, rfl, hb, g0, g1, g2, g3, g4, g5, g6, g7, g8, g9, g10, g11, g12, g13, g14, g15, g16, g17, g18, g19, g20, g21, g22, g23, g24, g25⟩ hl hd K hK
                    simp [Region.binds] at hd
                    dsimp only at hK ⊢
                    have e16 := g16 (by simp [hd])
                    subst e16
                    have hd14 : L 14 = true := by simp [hd]
                    have hd18 : L 18 = true := by simp [hd]
                    obtain ⟨N2, e1, e2, e3⟩ := g18 hd18
                    subst e1
                    rw [if_neg (by rw [hl]; simp)] at e3
                    obtain ⟨er, z, rr, vz, q1, q2, q3, q4, ko⟩ := g20 hd14
                    subst q1
                    subst q2
                    have f0 := e3.frozen 0
                    have f1 := e3.frozen 1
                    have f2 := e3.frozen 2
                    have f3 := e3.frozen 3
                    have x0 := e3.cell 0
                    have x1 := e3.cell 1
                    have x2 := e3.cell 2
                    have x3 := e3.cell 3
                    simp only [List.getElem?_toArray, List.getElem?_cons_zero, List.getElem?_cons_succ] at x0 x1 x2 x3
                    have hlt := e3.lt
                    obtain ⟨A4, k4, rfl, _, _⟩ := (Sl.of_own ko).form
                    go_simp
                    have kg := grown4 w' N2 (.int .i64 z.ver) (.int .i64 z.seq) (.int .i64 z.nid) (.slice A4 z.l.length k4)
                    have kb := blk4 (.int .i64 z.ver) (.int .i64 z.seq) (.int .i64 z.nid) (.slice A4 z.l.length k4) e3
                    exact hK _ _ ⟨_, _, _, _, _, _, _, _, _, _, _, _, _, _, _, _, _, _, _, _, _, _, rfl, below_row hb kg e2 hb.size, g0, g1, g2, g3, g4, g5, g6, g7, g8, g9, g10, g11, g12, fun _ h => absurd (show L 14 = false from h) (by rw [hd14]; simp), g14, g15, g16, g17, fun _ => ⟨N2, rfl, e2, kb⟩, g19, fun _ => ⟨er, z, rr, _, rfl, rfl, q3, q4, own_row ko kg (fun b hb' e => own_blk_ne ko e3 (by decide) (by rw [hb', e]))⟩, fun _ => ⟨hd18, hd14⟩, g22, g23, g24, g25⟩
                  · rintro L a w' ⟨v42, v43, v44, v45, v46, v47, v48, v49, v50, v51, v52, v53, v54, v55, v56, v57, v58, v9, v10, v41, va, ve, rfl, hb, g0, g1, g2, g3, g4, g5, g6, g7, g8, g9, g10, g11, g12, g13, g14, g15, g16, g17, g18, g19, g20, g21, g22, g23, g24, g25⟩ hl hd K hK
                    simp [Region.binds] at hd
                    dsimp only at hK ⊢
                    have e17 := g17 (by simp [hd])
                    subst e17
                    go_simp
                    exact hK _ _ ⟨_, _, _, _, _, _, _, _, _, _, _, _, _, _, _, _, _, _, _, _, _, _, rfl, hb, g0, g1, g2, g3, g4, g5, g6, g7, g8, g9, g10, g11, g12, g13, g14, g15, g16, g17, g18, fun _ => rfl, g20, g21, g22, g23, g24, fun _ => (by show L 17 = true; simp [hd])⟩
                rintro a w6 ⟨v42, v43, v44, v45, v46, v47, v48, v49, v50, v51, v52, v53, v54, v55, v56, v57, v58, v9, v10, v41, va, ve, rfl, hb, g0, g1, g2, g3, g4, g5, g6, g7, g8, g9, g10, g11, g12, g13, g14, g15, g16, g17, g18, g19, g20, g21, g22, g23, g24, g25⟩
                obtain ⟨er, z, rr, vz, q1, q2, q3, q4, ko⟩ := g20 rfl
                subst q1
                subst q2
                have e0 := g0 rfl
                subst e0
                have e1 := g1 rfl
                subst e1
                have e2 := g2 rfl
                subst e2
                have e3 := g3 rfl
                subst e3
                have e4 := g4 rfl
                subst e4
                have e5 := g5 rfl
                subst e5
                have e6 := g6 rfl
                subst e6
                have e7 := g7 rfl
                subst e7
                have e8 := g8 rfl
                subst e8
                have e9 := g9 rfl
                subst e9
                have e10 := g10 rfl
                subst e10
                have e11 := g11 rfl
                subst e11
                have e12 := g12 rfl
                subst e12
                have e14 := g14 rfl
                subst e14
                have e15 := g15 rfl
                subst e15
                have e16 := g16 rfl
                subst e16
                have e17 := g17 rfl
                subst e17
                have e19 := g19 rfl
                subst e19
                obtain ⟨N2, e1, hN2, bN2⟩ := g18 rfl
                subst e1
                rw [if_pos rfl] at bN2
                obtain ⟨A6, k6, rfl, hk61, hk62⟩ := (Sl.of_own ko).form
                have BN6 := Lib.hid (show Blk w6 N2 24 #[.int .i64 z.ver, .int .i64 z.seq, .int .i64 z.nid, .slice A6 z.l.length k6] from bN2)
                have O6 := Lib.hid (own_mono ko BWX.out.size)
                have B6 := Lib.hid (bst BWX.out hb)
                have OS6 := Lib.hid (OWX.out.below hb)
                have S6 := Lib.hid (SRX.out.below hb)
                have HQ3 := Lib.hid q3
                have HQ4 := Lib.hid q4
                clear g0 g1 g2 g3 g4 g5 g6 g7 g8 g9 g10 g11 g12 g13 g14 g15 g16 g17 g18 g19 g20 g21 g22 g23 g24 g25 bN2 ko hb c0 c1 c2 c3 hplt q3 q4 hR1 hRK hkR hKs
                by_cases he0 : er = 0
                case neg =>
                  have t1 : (er == 0) = false := by simpa using he0
                  clear he0
                  go_wp2
                  go_roundw
                  case rel => exact ⟨s, h, rx, HK1.out, S6.out, OS6.out, B6.out⟩
                  case measure => have h1 := HML.out; have h2 := S6.out.left; have h3 := HLS.out; omega
                case pos =>
                  subst he0
                  have HKN := Lib.hid (HK1.out.snoc HXL.out (by have h1 := HR1.out; have h2 := H8.out; have h3 := HKK.out; omega) HQ3.out HQ4.out)
                  obtain ⟨us, hu1, hu2, hu3⟩ := OS6.out
                  rw [HRR.out] at hu2
                  have HU := Lib.hid (⟨hu1, hu3⟩ : _ ∧ _)
                  clear hu1 hu3
                  have bb := BN6.out
                  have n0 := bb.cell 0
                  have n1 := bb.cell 1
                  have n2 := bb.cell 2
                  have n3 := bb.cell 3
                  simp only [List.getElem?_toArray, List.getElem?_cons_zero, List.getElem?_cons_succ] at n0 n1 n2 n3
                  clear bb
                  have hsz := B6.out.size
                  have hl6 := BN6.out.lt
                  go_wp2_with (at_builtin; go_must (refine app1 _ _ hu2 (Below.refl w.heap.size w6) (Nat.le_refl _) hsz under_snap info_snap rfl (by decide) rfl (one4 _ _ _ _ _ _) (by omega) (by omega) rfl rfl rfl rfl ?_))
                  intro g' cap' w9 ho9 hb9 hg9 hor9
                  have O9 := Lib.hid (own_snoc (h := s :: h) (s := z) (u := .slice A6 z.l.length k6) HU.out.1 (by rw [HRR.out]; exact hu2) HU.out.2 O6.out (by rw [HRR.out]; exact ho9) hg9)
                  have HAD := Lib.hid (show (Value.slice (some ad2) R cH).ownBlock ≠ some g from fun e => S6.out.own_ne hu2 (by decide) e)
                  have S9 := Lib.hid (S6.out.grown hg9 HAD.out (fun b hb => (hu2.lt b hb).1))
                  have B9 := Lib.hid (B6.out.trans hb9)
                  clear ho9 hb9 hg9 hor9 hu2 hsz n0 n1 n2 n3 hl6
                  go_wp2
                  go_roundw
                  case rel => exact ⟨s, h ++ [z], rx, HKN.out, S9.out, O9.out, B9.out⟩
                  case measure => have h1 := HML.out; have h2 := S9.out.left; have h3 := HLS.out; omega
end Go.Proofs.Ytoikgjhekemjdaa
