/-
  The contract of ref18.CheckRecord.
-/
import Derived.Test.YtoikgjhekemjdaaRecCheck
import Derived.Test.YtoikgjhekemjdaaRSnapCheck
namespace Go.Proofs.Ytoikgjhekemjdaa
open Go.RowKit Go.Sort
theorem recV_head1 {r : Rcd} (h : RecHead r) (hk : r.kind = 1) (hl : 0 < r.rem.length) : recV r = 1 :=
  recV_base h hk (List.getElem?_eq_getElem hl)
theorem inB_true {n lo hi : Int} (h : lo ≤ n ∧ n ≤ hi) : inB n lo hi = true := by simp [inB]; omega
theorem inB_false {n lo hi : Int} (h : ¬(lo ≤ n ∧ n ≤ hi)) : inB n lo hi = false := by cases hb : inB n lo hi with
  | false => rfl
  | true => simp [inB] at hb; omega
theorem inB_hid (n lo hi : Int) : ∃ b, Hid (inB n lo hi = b) ∧ Hid (b = true → lo ≤ n ∧ n ≤ hi) ∧ Hid (b = false → ¬(lo ≤ n ∧ n ≤ hi)) :=
  ⟨inB n lo hi, rfl, (show inB n lo hi = true → lo ≤ n ∧ n ≤ hi from fun h => by simp [inB] at h; omega), (show inB n lo hi = false → ¬(lo ≤ n ∧ n ≤ hi) from fun h q => by rw [inB_true q] at h; cases h)⟩
set_option maxRecDepth 100000 in
set_option maxHeartbeats 8000000 in
theorem rrecCheck_any (kind ver seq nid : Int) (add : List Ent) (rem : List Int) (va vr : Value) (w : World) (hs : Sl w 12 va add.length (ents add)) (hw : ∀ e ∈ add, e.small) (hl : add.length ≤ 9223372036854775807)
    (hr : Sl w 1 vr rem.length (ints rem)) (hrl : rem.length ≤ 9223372036854775807) :
    Calls Try.prog 48 #[.agg #[.int .i64 kind, .int .i64 ver, .int .i64 seq, .int .i64 nid, va, vr]] w (RetIB w (recV ⟨kind, ver, seq, nid, add, rem⟩)) := by
  obtain ⟨A, c, rfl, hc1, hc2⟩ := hs.form
  obtain ⟨A2, cR, rfl, hd1, hd2⟩ := hr.form
  unfold maxLen at hc2 hd2
  obtain ⟨R, hRL⟩ : ∃ R, rem.length = R := ⟨_, rfl⟩
  rw [hRL] at hr hrl hd1 ⊢
  have HRL := Lib.hid hRL
  clear hRL
  by_cases hk : kind = 1 ∨ kind = 2
  case neg =>
    have HF := Lib.hid (recV_kind (r := ⟨kind, ver, seq, nid, add, rem⟩) hk)
    have q1 : (kind != 1) = true := by simp; omega
    have q2 : (kind != 2) = true := by simp; omega
    clear hk
    go_enter Try.func48, Try.ntmps48
    go_wp2
    go_ret
    exact RetIB.mk_ HF.out (abel _ _)
  case pos =>
  obtain ⟨b1, B1, t1, n1⟩ := inB_hid ver 0 2147483647
  obtain ⟨b2, B2, t2, n2⟩ := inB_hid nid 1 2147483647
  have I1 := Lib.hid (fun X => in_b ver 0 2147483647 B1.out X)
  have I2 := Lib.hid (fun X => in_b nid 1 2147483647 B2.out X)
  by_cases hR : RecRange ⟨kind, ver, seq, nid, add, rem⟩
  case neg =>
    have HF := Lib.hid (recV_range (r := ⟨kind, ver, seq, nid, add, rem⟩) hk hR)
    have HR := Lib.hid hR
    have hq : ((kind != 1) = true ∧ (kind != 2) = false) ∨ (kind != 1) = false := by rcases hk with h | h <;> simp [h]
    clear hk hR
    rcases hq with ⟨q1, q2⟩ | q1
    all_goals
      cases b1 <;> cases b2
    all_goals
      go_enter Try.func48, Try.ntmps48
      go_wp2_with (first
        | (with_reducible refine (I1.out _).mono ?_; rintro _ _ ⟨rfl, rfl⟩)
        | (with_reducible refine (I2.out _).mono ?_; rintro _ _ ⟨rfl, rfl⟩))
      all_goals first | (go_ret; exact RetIB.mk_ HF.out (abel _ _)) | (exfalso; have u1 := t1.out (by trivial); have u2 := t2.out (by trivial); exact HR.out (show 0 ≤ ver ∧ ver ≤ 2147483647 ∧ 0 ≤ seq ∧ seq ≤ 1099511627777 ∧ 1 ≤ nid ∧ nid ≤ 2147483647 from ⟨u1.1, u1.2, by omega, by omega, u2.1, u2.2⟩))
  case pos =>
  have hRR := hR
  obtain ⟨g1, g2, g3, g4, g5, g6⟩ := hR
  simp only at g1 g2 g3 g4 g5 g6
  have e1 : b1 = true := by cases b1 with
    | true => rfl
    | false => exact absurd ⟨g1, g2⟩ (n1.out rfl)
  have e2 : b2 = true := by cases b2 with
    | true => rfl
    | false => exact absurd ⟨g5, g6⟩ (n2.out rfl)
  subst e1 e2
  clear t1 t2 n1 n2 B1 B2
  have z3 : decide (seq < 0) = false := by simp; omega
  have z4 : decide (1099511627777 < seq) = false := by simp; omega
  by_cases hL : RecLen ⟨kind, ver, seq, nid, add, rem⟩
  case neg =>
    have HF := Lib.hid (recV_len (r := ⟨kind, ver, seq, nid, add, rem⟩) hk hRR hL)
    have HL := Lib.hid hL
    have hq : ((kind != 1) = true ∧ (kind != 2) = false) ∨ (kind != 1) = false := by rcases hk with h | h <;> simp [h]
    have hq2 : (decide ((256 : Int) < (add.length : Int)) = true) ∨ (decide ((256 : Int) < (add.length : Int)) = false ∧ decide ((256 : Int) < (R : Int)) = true) := by
      by_cases h : (256 : Int) < (add.length : Int)
      · exact .inl (by simpa using h)
      · exact .inr ⟨by simpa using h, by
          by_cases h' : (256 : Int) < (R : Int)
          · simpa using h'
          · exact absurd ⟨show add.length ≤ 256 by omega, show rem.length ≤ 256 by rw [HRL.out]; omega⟩ hL⟩
    clear hk hRR hL g1 g2 g3 g4 g5 g6
    rcases hq with ⟨q1, q2⟩ | q1
    all_goals
      rcases hq2 with r1 | ⟨r1, r2⟩
    all_goals
      go_enter Try.func48, Try.ntmps48
      go_wp2_with (first
        | (with_reducible refine (I1.out _).mono ?_; rintro _ _ ⟨rfl, rfl⟩)
        | (with_reducible refine (I2.out _).mono ?_; rintro _ _ ⟨rfl, rfl⟩))
      go_ret
      exact RetIB.mk_ HF.out (abel _ _)
  case pos =>
  have HH := Lib.hid (show RecHead ⟨kind, ver, seq, nid, add, rem⟩ from ⟨hk, hRR, hL⟩)
  obtain ⟨l1, l2⟩ := hL
  simp only at l1 l2
  rw [HRL.out] at l2
  have z5 : decide ((256 : Int) < (add.length : Int)) = false := by simp; omega
  have z6 : decide ((256 : Int) < (R : Int)) = false := by simp; omega
  obtain ⟨w0, hw0⟩ : ∃ w0, w0 = w.alloc (.cells #[.int .i64 kind, .int .i64 ver, .int .i64 seq, .int .i64 nid, .slice A add.length c, .slice A2 R cR] 38) := ⟨_, rfl⟩
  have HB0 := Lib.hid (show Below w.heap.size w w0 by rw [hw0]; exact abel _ _)
  have HK0 := Lib.hid (show Blk w0 w.heap.size 38 #[.int .i64 kind, .int .i64 ver, .int .i64 seq, .int .i64 nid, .slice A add.length c, .slice A2 R cR] by rw [hw0]; exact Blk.new _ _ _)
  have hq : ((kind != 1) = true ∧ (kind != 2) = false ∧ (kind == 1) = false ∧ Hid (kind ≠ 1)) ∨ ((kind != 1) = false ∧ (kind == 1) = true ∧ Hid (kind = 1)) := by
    rcases hk with h | h
    · exact .inr ⟨by simp [h], by simp [h], h⟩
    · exact .inl ⟨by simp [h], by simp [h], by simp [h], show kind ≠ 1 by omega⟩
  clear hk hRR g1 g2 g3 g4 g5 g6
  have y0 := HK0.out.cell 0
  have y1 := HK0.out.cell 1
  have y2 := HK0.out.cell 2
  have y3 := HK0.out.cell 3
  have y4 := HK0.out.cell 4
  have y5 := HK0.out.cell 5
  simp only [List.getElem?_toArray, List.getElem?_cons_zero, List.getElem?_cons_succ] at y0 y1 y2 y3 y4 y5
  cases hE0 : entsB add with
  | false =>
    have E1 := Lib.hid (rentries_b (.slice A add.length c) add hE0 w0 (hs.below HB0.out) hw hl)
    have HF := Lib.hid (recV_ents HH.out hE0)
    clear hE0 hs hr
    rcases hq with ⟨q1, q2, q3, HKD⟩ | ⟨q1, q3, HKD⟩
    all_goals
      go_enter Try.func48, Try.ntmps48
      go_wp2_with fail
      rw [← hw0]
      clear hw0
      go_wp2_with (first
        | (with_reducible refine (I1.out _).mono ?_; rintro _ _ ⟨rfl, rfl⟩)
        | (with_reducible refine (I2.out _).mono ?_; rintro _ _ ⟨rfl, rfl⟩))
      refine E1.out.mono ?_
      rintro _ w1 ⟨rfl, hb1⟩
      have HB1 := Lib.hid (bst HB0.out hb1)
      have y0 := (HK0.out.below hb1 HK0.out.lt).cell 0
      have y5 := (HK0.out.below hb1 HK0.out.lt).cell 5
      simp only [List.getElem?_toArray, List.getElem?_cons_zero, List.getElem?_cons_succ] at y0 y5
      clear hb1
      go_wp2
      go_ret
      exact RetIB.mk_ HF.out HB1.out
  | true =>
    have E1 := Lib.hid (rentries_b (.slice A add.length c) add hE0 w0 (hs.below HB0.out) hw hl)
    have HE := Lib.hid hE0
    clear hE0 hs
    have hq' : (∃ (_ : (kind != 1) = false) (_ : (kind == 1) = true) (_ : decide ((0 : Int) < (R : Int)) = true) (_ : 0 < R), Hid (recV ⟨kind, ver, seq, nid, add, rem⟩ = 1)) ∨
        (((kind != 1) = true ∧ (kind != 2) = false ∧ (kind == 1) = false ∧ Hid (kind = 1 → rem = [])) ∨ ((kind != 1) = false ∧ (kind == 1) = true ∧ (decide ((0 : Int) < (R : Int)) = false ∧ decide (0 < R) = false) ∧ Hid (kind = 1 → rem = []))) := by
      rcases hq with ⟨q1, q2, q3, HKD⟩ | ⟨q1, q3, HKD⟩
      · exact .inr (.inl ⟨q1, q2, q3, fun h => absurd h HKD.out⟩)
      · by_cases h : 0 < R
        · exact .inl ⟨q1, q3, decide_eq_true (by omega), h, recV_head1 HH.out HKD.out (by rw [HRL.out]; exact h)⟩
        · exact .inr (.inr ⟨q1, q3, ⟨decide_eq_false (by omega), decide_eq_false h⟩, fun _ => List.eq_nil_of_length_eq_zero (by rw [HRL.out]; omega)⟩)
    clear hq
    rcases hq' with ⟨q1, q3, q4, q5, HF⟩ | hq'
    · go_enter Try.func48, Try.ntmps48
      go_wp2_with fail
      rw [← hw0]
      clear hw0
      go_wp2_with (first
        | (with_reducible refine (I1.out _).mono ?_; rintro _ _ ⟨rfl, rfl⟩)
        | (with_reducible refine (I2.out _).mono ?_; rintro _ _ ⟨rfl, rfl⟩))
      refine E1.out.mono ?_
      rintro _ w1 ⟨rfl, hb1⟩
      have HB1 := Lib.hid (bst HB0.out hb1)
      have y0 := (HK0.out.below hb1 HK0.out.lt).cell 0
      have y5 := (HK0.out.below hb1 HK0.out.lt).cell 5
      simp only [List.getElem?_toArray, List.getElem?_cons_zero, List.getElem?_cons_succ] at y0 y5
      clear hb1
      go_wp2
      go_ret
      exact RetIB.mk_ HF.out HB1.out
    rcases hq' with ⟨q1, q2, q3, HKR⟩ | ⟨q1, q3, ⟨q4, q5⟩, HKR⟩
    all_goals
      go_enter Try.func48, Try.ntmps48
      go_wp2_with fail
      rw [← hw0]
      clear hw0
      go_wp2_with (first
        | (with_reducible refine (I1.out _).mono ?_; rintro _ _ ⟨rfl, rfl⟩)
        | (with_reducible refine (I2.out _).mono ?_; rintro _ _ ⟨rfl, rfl⟩))
      refine E1.out.mono ?_
      rintro _ w1 ⟨rfl, hb1⟩
      have HB1 := Lib.hid (bst HB0.out hb1)
      have HK1 := Lib.hid (HK0.out.below hb1 HK0.out.lt)
      clear y0 y1 y2 y3 y4 y5
      have y0 := HK1.out.cell 0
      have y5 := HK1.out.cell 5
      simp only [List.getElem?_toArray, List.getElem?_cons_zero, List.getElem?_cons_succ] at y0 y5
      clear hb1
      go_wp2
      clear y0 y5 z3 z4 z5 z6 q1 q3 I1 I2 E1
      try clear q2
      try clear q4 q5
      go_loopw [61] (fun i wr => ∃ k : Nat, i = .int .i64 k ∧ k ≤ R ∧ allTo (remAt rem) k = true ∧ Below w.heap.size w wr ∧ Blk wr w.heap.size 38 #[.int .i64 kind, .int .i64 ver, .int .i64 seq, .int .i64 nid, .slice A add.length c, .slice A2 R cR]) (fun i _ => R - (intOf i).toNat)
      case atStart => exact ⟨0, rfl, Nat.zero_le _, rfl, HB1.out, HK1.out⟩
      case round =>
        obtain ⟨j, rfl, hj, hjall, hjb, hjK⟩ := hrel
        by_cases hlt : j < R
        · obtain ⟨ad, n, rfl, hn, hcn⟩ := (hr.below hjb).int_at hlt
          have hJA := Lib.hid hjall
          have hJB := Lib.hid hjb
          have hJK := Lib.hid hjK
          have y0 := hjK.cell 0
          have y5 := hjK.cell 5
          simp only [List.getElem?_toArray, List.getElem?_cons_zero, List.getElem?_cons_succ] at y0 y5
          have Hn := Lib.hid hn
          have hcp : ∀ m, j = m + 1 → ∃ a, rem[m]? = some a ∧ wr.cell? (ad.add m) = some (.int .i64 a) := fun m hm => by
            obtain ⟨ad', a, e', ha, hca⟩ := (hr.below hjb).int_at (show m < R by omega)
            cases e'
            exact ⟨a, ha, hca⟩
          clear hjall hjb hjK hn
          by_cases ho : 1 ≤ n ∧ n ≤ 2147483647
          · have OB := Lib.hid (fun X => in_b n 1 2147483647 (inB_true ho) X)
            rcases j with _ | m
            · clear hcp
              have hcn0 : wr.cell? ad = some (.int .i64 n) := by simpa [Addr.add] using hcn
              have HNX := Lib.hid (allTo_next hJA.out (remAt_zero Hn.out ho.1 ho.2))
              clear ho
              go_wp2_with (with_reducible refine (OB.out _).mono ?_; rintro _ _ ⟨rfl, rfl⟩)
              go_roundw
              case rel => exact ⟨1, by go_num, by omega, HNX.out, hJB.out, hJK.out⟩
              case measure => simp [intOf]; omega
            · obtain ⟨a, ha, hca⟩ := hcp m rfl
              obtain ⟨p1, hp1⟩ : ∃ p1, ad.add (m + 1) = p1 := ⟨_, rfl⟩
              rw [hp1] at hcn
              obtain ⟨p2, hp2⟩ : ∃ p2, ad.add m = p2 := ⟨_, rfl⟩
              rw [hp2] at hca
              have Ha := Lib.hid ha
              clear ha hcp
              by_cases hlt2 : a < n
              · have dasc : decide (n ≤ a) = false := by simp; omega
                have HNX := Lib.hid (allTo_next hJA.out (remAt_succ Ha.out Hn.out ho.1 ho.2 (t := true) (by simpa using hlt2)))
                clear ho hlt2
                go_wp2_with (with_reducible refine (OB.out _).mono ?_; rintro _ _ ⟨rfl, rfl⟩)
                go_roundw
                case rel => exact ⟨m + 2, by go_num, by omega, HNX.out, hJB.out, hJK.out⟩
                case measure => simp [intOf]; omega
              · have dasc : decide (n ≤ a) = true := by simp; omega
                have HN := Lib.hid (show recV ⟨kind, ver, seq, nid, add, rem⟩ = 1 from recV_rem HH.out (allTo_false (by rw [HRL.out]; exact hlt) (remAt_succ Ha.out Hn.out ho.1 ho.2 (t := false) (by simpa using hlt2))))
                clear ho hlt2
                go_wp2_with (with_reducible refine (OB.out _).mono ?_; rintro _ _ ⟨rfl, rfl⟩)
                go_ret
                exact RetIB.mk_ HN.out hJB.out
          · have OB := Lib.hid (fun X => in_b n 1 2147483647 (inB_false ho) X)
            have HN := Lib.hid (show recV ⟨kind, ver, seq, nid, add, rem⟩ = 1 from recV_rem HH.out (allTo_false (by rw [HRL.out]; exact hlt) (remAt_bad Hn.out ho)))
            clear ho hcp
            go_wp2_with (with_reducible refine (OB.out _).mono ?_; rintro _ _ ⟨rfl, rfl⟩)
            go_ret
            exact RetIB.mk_ HN.out hJB.out
        · have hjR : j = rem.length := by rw [HRL.out]; omega
          have HN := Lib.hid (show recV ⟨kind, ver, seq, nid, add, rem⟩ = 0 from recV_ok HH.out HE.out (by rw [hjR] at hjall; exact hjall) HKR.out)
          have hjR' : j = R := by omega
          clear hjR
          subst hjR'
          have HB2 := Lib.hid hjb
          clear hjall hjb hjK
          go_wp2
          go_ret
          exact RetIB.mk_ HN.out HB2.out
end Go.Proofs.Ytoikgjhekemjdaa
