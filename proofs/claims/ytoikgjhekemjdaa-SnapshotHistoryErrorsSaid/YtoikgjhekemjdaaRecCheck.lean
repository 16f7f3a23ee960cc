/-
  The contract of manifest.Check.
-/
import Derived.Test.YtoikgjhekemjdaaSnapCheck
import Derived.Test.YtoikgjhekemjdaaApplySpec
namespace Go.Proofs.Ytoikgjhekemjdaa
open Go.RowKit Go.Sort
def RetIB (w : World) (n : Int) (e : Ending) (w' : World) : Prop := e = .returned (.int .i64 n) ∧ Below w.heap.size w w'
theorem RetIB.mk_ {w w' : World} {n m : Int} (h : n = m) (hb : Below w.heap.size w w') : RetIB w n (.returned (.int .i64 m)) w' := by subst h; exact ⟨rfl, hb⟩
def RecRange (r : Rcd) : Prop := 0 ≤ r.ver ∧ r.ver ≤ 2147483647 ∧ 0 ≤ r.seq ∧ r.seq ≤ 1099511627777 ∧ 1 ≤ r.nid ∧ r.nid ≤ 2147483647
def RecLen (r : Rcd) : Prop := r.add.length ≤ 256 ∧ r.rem.length ≤ 256
def RecHead (r : Rcd) : Prop := (r.kind = 1 ∨ r.kind = 2) ∧ RecRange r ∧ RecLen r
theorem recV_kind {r : Rcd} (h : ¬(r.kind = 1 ∨ r.kind = 2)) : recV r = 1 := by unfold recV; rw [if_pos (by omega)]
theorem recV_range {r : Rcd} (h : r.kind = 1 ∨ r.kind = 2) (h2 : ¬RecRange r) : recV r = 4 := by unfold recV; unfold RecRange at h2; rw [if_neg (by omega), if_pos h2]
theorem recV_len {r : Rcd} (h : r.kind = 1 ∨ r.kind = 2) (h2 : RecRange r) (h3 : ¬RecLen r) : recV r = 7 := by unfold recV; unfold RecLen at h3; rw [if_neg (by omega), if_neg (fun k => k h2), if_pos h3]
theorem recV_head {r : Rcd} (h : RecHead r) : recV r = if entsB r.add = true ∧ remB r.rem = true ∧ (r.kind = 1 → r.rem = []) then 0 else 1 := by
  obtain ⟨h1, h2, h3⟩ := h
  unfold recV; rw [if_neg (by omega), if_neg (fun k => k h2), if_neg (fun k => k h3)]
theorem recV_ents {r : Rcd} (h : RecHead r) (he : entsB r.add = false) : recV r = 1 := by rw [recV_head h, if_neg (fun k => by rw [he] at k; cases k.1)]
theorem recV_rem {r : Rcd} (h : RecHead r) (he : remB r.rem = false) : recV r = 1 := by rw [recV_head h, if_neg (fun k => by rw [he] at k; cases k.2.1)]
theorem recV_base {r : Rcd} (h : RecHead r) (hk : r.kind = 1) {k : Nat} {n : Int} (hn : r.rem[k]? = some n) : recV r = 1 := by
  rw [recV_head h, if_neg (fun q => by rw [q.2.2 hk] at hn; simp at hn)]
theorem recV_ok {r : Rcd} (h : RecHead r) (he : entsB r.add = true) (hr : remB r.rem = true) (hb : r.kind = 1 → r.rem = []) : recV r = 0 := by rw [recV_head h, if_pos ⟨he, hr, hb⟩]
theorem remAt_bad {l : List Int} {k : Nat} {n : Int} (h : l[k]? = some n) (hn : ¬(1 ≤ n ∧ n ≤ 2147483647)) : remAt l k = false := by
  unfold remAt; rw [h]; simp only [Bool.and_eq_false_iff, decide_eq_false_iff_not]; exact .inl (by omega)
theorem remAt_zero {l : List Int} {n : Int} (h : l[0]? = some n) (h1 : 1 ≤ n) (h2 : n ≤ 2147483647) : remAt l 0 = true := by
  unfold remAt; rw [h]; simp [h1, h2]
theorem remAt_succ {l : List Int} {k : Nat} {a n : Int} (ha : l[k]? = some a) (h : l[k + 1]? = some n) (h1 : 1 ≤ n) (h2 : n ≤ 2147483647) {t : Bool} (ht : decide (a < n) = t) : remAt l (k + 1) = t := by
  unfold remAt; rw [h]; simp [h1, h2, ha, ht]
theorem remB_nil_of {l : List Int} {k : Nat} (h : l.length ≤ k) (h0 : k = 0) : l = [] := List.eq_nil_of_length_eq_zero (by omega)
def Rcd.cells (r : Rcd) (va vr : Value) : Array Value := #[.int .i64 r.kind, .int .i64 r.ver, .int .i64 r.seq, .int .i64 r.nid, va, vr]
theorem objB_true {n : Int} (h : 1 ≤ n ∧ n ≤ 2147483647) : objB n = true := by simp [objB]; omega
theorem objB_false {n : Int} (h : ¬(1 ≤ n ∧ n ≤ 2147483647)) : objB n = false := by cases hb : objB n with
  | false => rfl
  | true => simp [objB] at hb; omega
theorem object_b (n : Int) {b : Bool} (hb : objB n = b) (w : World) : Calls Try.prog 64 #[.int .i64 n] w fun e w' => e = .returned (.bool b) ∧ w = w' := by subst hb; exact object_any n w
set_option maxRecDepth 100000 in
set_option maxHeartbeats 8000000 in
theorem recCheck_any (kind ver seq nid : Int) (add : List Ent) (rem : List Int) (va vr : Value) (w : World) (hs : Sl w 12 va add.length (ents add)) (hw : ∀ e ∈ add, e.small) (hl : add.length ≤ 9223372036854775807)
    (hr : Sl w 1 vr rem.length (ints rem)) (hrl : rem.length ≤ 9223372036854775807) :
    Calls Try.prog 36 #[.agg #[.int .i64 kind, .int .i64 ver, .int .i64 seq, .int .i64 nid, va, vr]] w (RetIB w (recV ⟨kind, ver, seq, nid, add, rem⟩)) := by
  obtain ⟨A, c, rfl, hc1, hc2⟩ := hs.form
  obtain ⟨A2, cR, rfl, hd1, hd2⟩ := hr.form
  unfold maxLen at hc2 hd2
  by_cases hk : kind = 1 ∨ kind = 2
  case neg =>
    have HF := Lib.hid (recV_kind (r := ⟨kind, ver, seq, nid, add, rem⟩) hk)
    have q1 : (kind != 1) = true := by simp; omega
    have q2 : (kind != 2) = true := by simp; omega
    clear hk
    go_enter Try.func36, Try.ntmps36
    go_wp2
    go_ret
    exact RetIB.mk_ HF.out (abel _ _)
  case pos =>
  by_cases hR : RecRange ⟨kind, ver, seq, nid, add, rem⟩
  case neg =>
    have HF := Lib.hid (recV_range (r := ⟨kind, ver, seq, nid, add, rem⟩) hk hR)
    have HR := Lib.hid hR
    have OB := Lib.hid (fun X => object_any nid X)
    have hq : ((kind != 1) = true ∧ (kind != 2) = false) ∨ (kind != 1) = false := by rcases hk with h | h <;> simp [h]
    clear hk hR
    rcases hq with ⟨q1, q2⟩ | q1
    all_goals
      by_cases hn : 1 ≤ nid ∧ nid ≤ 2147483647
      · rw [objB_true hn] at OB
        go_enter Try.func36, Try.ntmps36
        go_wp2_with (with_reducible refine (OB.out _).mono ?_; rintro _ _ ⟨rfl, rfl⟩)
        all_goals first | (go_ret; exact RetIB.mk_ HF.out (abel _ _)) | (exfalso; exact HR.out (show 0 ≤ ver ∧ ver ≤ 2147483647 ∧ 0 ≤ seq ∧ seq ≤ 1099511627777 ∧ 1 ≤ nid ∧ nid ≤ 2147483647 from ⟨by omega, by omega, by omega, by omega, by omega, by omega⟩))
      · rw [objB_false hn] at OB
        clear hn
        go_enter Try.func36, Try.ntmps36
        go_wp2_with (with_reducible refine (OB.out _).mono ?_; rintro _ _ ⟨rfl, rfl⟩)
        all_goals (go_ret; exact RetIB.mk_ HF.out (abel _ _))
  case pos =>
  have hRR := hR
  obtain ⟨g1, g2, g3, g4, g5, g6⟩ := hR
  simp only at g1 g2 g3 g4 g5 g6
  have z1 : decide (ver < 0) = false := by simp; omega
  have z2 : decide (2147483647 < ver) = false := by simp; omega
  have z3 : decide (seq < 0) = false := by simp; omega
  have z4 : decide (1099511627777 < seq) = false := by simp; omega
  have OB := Lib.hid (fun X => object_b nid (objB_true ⟨g5, g6⟩) X)
  by_cases hL : RecLen ⟨kind, ver, seq, nid, add, rem⟩
  case neg =>
    have HF := Lib.hid (recV_len (r := ⟨kind, ver, seq, nid, add, rem⟩) hk hRR hL)
    have HL := Lib.hid hL
    have hq : ((kind != 1) = true ∧ (kind != 2) = false) ∨ (kind != 1) = false := by rcases hk with h | h <;> simp [h]
    have hq2 : (decide ((256 : Int) < (add.length : Int)) = true) ∨ (decide ((256 : Int) < (add.length : Int)) = false ∧ decide ((256 : Int) < (rem.length : Int)) = true) := by
      by_cases h : (256 : Int) < (add.length : Int)
      · exact .inl (by simpa using h)
      · exact .inr ⟨by simpa using h, by
          by_cases h' : (256 : Int) < (rem.length : Int)
          · simpa using h'
          · exact absurd ⟨show add.length ≤ 256 by omega, show rem.length ≤ 256 by omega⟩ hL⟩
    clear hk hRR hL g1 g2 g3 g4 g5 g6
    rcases hq with ⟨q1, q2⟩ | q1
    all_goals
      rcases hq2 with r1 | ⟨r1, r2⟩
    all_goals
      go_enter Try.func36, Try.ntmps36
      go_wp2_with (with_reducible refine (OB.out _).mono ?_; rintro _ _ ⟨rfl, rfl⟩)
      go_ret
      exact RetIB.mk_ HF.out (abel _ _)
  case pos =>
  have HH := Lib.hid (show RecHead ⟨kind, ver, seq, nid, add, rem⟩ from ⟨hk, hRR, hL⟩)
  obtain ⟨l1, l2⟩ := hL
  simp only at l1 l2
  have z5 : decide ((256 : Int) < (add.length : Int)) = false := by simp; omega
  have z6 : decide ((256 : Int) < (rem.length : Int)) = false := by simp; omega
  obtain ⟨w0, hw0⟩ : ∃ w0, w0 = w.alloc (.cells #[.int .i64 kind, .int .i64 ver, .int .i64 seq, .int .i64 nid, .slice A add.length c, .slice A2 rem.length cR] 38) := ⟨_, rfl⟩
  have HB0 := Lib.hid (show Below w.heap.size w w0 by rw [hw0]; exact abel _ _)
  have HK0 := Lib.hid (show Blk w0 w.heap.size 38 #[.int .i64 kind, .int .i64 ver, .int .i64 seq, .int .i64 nid, .slice A add.length c, .slice A2 rem.length cR] by rw [hw0]; exact Blk.new _ _ _)
  have hq : ((kind != 1) = true ∧ (kind != 2) = false ∧ (kind == 1) = false ∧ Hid (kind ≠ 1)) ∨ ((kind != 1) = false ∧ (kind == 1) = true ∧ Hid (kind = 1)) := by
    rcases hk with h | h
    · exact .inr ⟨by simp [h], by simp [h], h⟩
    · exact .inl ⟨by simp [h], by simp [h], by simp [h], show kind ≠ 1 by omega⟩
  clear hk hRR g1 g2 g3 g4 g5 g6
  have y0 := HK0.out.cell 0
  have y1 := HK0.out.cell 1
  have y2 := HK0.out.cell 2
  have y3 := HK0.out.cell 3
  have y4 := HK0.out.cell 4
  have y5 := HK0.out.cell 5
  simp only [List.getElem?_toArray, List.getElem?_cons_zero, List.getElem?_cons_succ] at y0 y1 y2 y3 y4 y5
  rcases hq with ⟨q1, q2, q3, HKD⟩ | ⟨q1, q3, HKD⟩
  all_goals
    go_enter Try.func36, Try.ntmps36
    go_wp2_with fail
    rw [← hw0]
    clear hw0
    go_wp2_with (with_reducible refine (OB.out _).mono ?_; rintro _ _ ⟨rfl, rfl⟩)
    clear y0 y1 y2 y3 y4 y5 z1 z2 z3 z4 z5 z6 OB q1
    try clear q2
    go_loopw [55] (fun i wr => ∃ k : Nat, i = .int .i64 k ∧ k ≤ add.length ∧ allTo (okAt add) k = true ∧ Below w.heap.size w wr ∧ Blk wr w.heap.size 38 #[.int .i64 kind, .int .i64 ver, .int .i64 seq, .int .i64 nid, .slice A add.length c, .slice A2 rem.length cR]) (fun i _ => add.length - (intOf i).toNat)
    case atStart => exact ⟨0, rfl, Nat.zero_le _, rfl, HB0.out, HK0.out⟩
    case round =>
      obtain ⟨k, rfl, hk, hall, hb, hK⟩ := hrel
      by_cases hlt : k < add.length
      · obtain ⟨ad, e, p, rfl, he, hp, hE⟩ := (hs.below hb).ent_load rfl hlt
        have HA := Lib.hid hall
        have HB := Lib.hid hb
        have HK := Lib.hid hK
        obtain ⟨hplt, c0, c1, c2, c3, c4, c5, c6, c7, c8, c9, c10, c11⟩ := hE
        clear hall hb hK
        have hesm := hw e (List.mem_of_getElem? he)
        obtain ⟨W, hW⟩ : ∃ W, W = wr.alloc (.cells e.cells.toArray 34) := ⟨_, rfl⟩
        have HBW := Lib.hid (show Below w.heap.size w W by rw [hW]; exact HB.out.alloc HB.out.size _)
        have HKW := Lib.hid (show Blk W w.heap.size 38 #[.int .i64 kind, .int .i64 ver, .int .i64 seq, .int .i64 nid, .slice (some ad) add.length c, .slice A2 rem.length cR] by rw [hW]; exact HK.out.alloc _)
        have hE2 : EntAt W ⟨wr.heap.size, 0, none⟩ e := EntAt.of_blk (by rw [hW]; exact Blk.new _ _ _)
        have f0 := fun d os => (hE2.regrown d os).c0
        have f1 := fun d os => (hE2.regrown d os).c1
        have f2 := fun d os => (hE2.regrown d os).c2
        have f3 := fun d os => (hE2.regrown d os).c3
        have f4 := fun d os => (hE2.regrown d os).c4
        have f5 := fun d os => (hE2.regrown d os).c5
        have f6 := fun d os => (hE2.regrown d os).c6
        have f7 := fun d os => (hE2.regrown d os).c7
        have f8 := fun d os => (hE2.regrown d os).c8
        have f9 := fun d os => (hE2.regrown d os).c9
        have f10 := fun d os => (hE2.regrown d os).c10
        have f11 := fun d os => (hE2.regrown d os).c11
        have k4 := cell_regrown (HKW.out.cell 4)
        clear hE2
        by_cases hok : e.okB = true
        · have A1 := Lib.hid (reg_bb (w := W) (fun X => entry_b e hesm hok X))
          rcases k with _ | m
          · have HN := Lib.hid (allTo_next HA.out (okAt_first he hok))
            clear hok he
            unfold Ent.cells at hW
            go_wp2_with fail
            rw [← hW]
            clear hW
            refine wp_region_quiet_below (by kernel_rfl) (by kernel_rfl) ?_
            repeat (go_big_quiet_step ((first | (with_reducible exact A1.out _ _))))
            refine wpQuiet_nil ?_
            intro _ hw'
            obtain ⟨⟨dq, osq⟩, hw''⟩ := hw'
            subst hw''
            go_wp2
            go_roundw
            case rel => exact ⟨1, by go_num, by omega, HN.out, bst HBW.out (below_regrown W dq osq), HKW.out.below (below_regrown W dq osq) HKW.out.lt⟩
            case measure => simp [intOf]; omega
          · obtain ⟨ad', a, p', hA', ha, hp', hE'⟩ := (hs.below HB.out).ent_load rfl (show m < add.length by omega)
            cases hA'
            have hE3 : EntAt W p' a := by rw [hW]; exact hE'.below ((Below.refl _ _).alloc (Nat.le_refl _) _)
            have g0 := fun d os => (hE3.regrown d os).c0
            clear hE' hE3
            by_cases hlt2 : a.id < e.id
            · have dasc : decide (e.id ≤ a.id) = false := by simp; omega
              have HN := Lib.hid (allTo_next HA.out (okAt_asc ha he hok (t := true) (by simpa using hlt2)))
              clear hok he ha
              unfold Ent.cells at hW
              go_wp2_with fail
              rw [← hW]
              clear hW
              refine wp_region_quiet_below (by kernel_rfl) (by kernel_rfl) ?_
              repeat (go_big_quiet_step ((first | (with_reducible exact A1.out _ _))))
              refine wpQuiet_nil ?_
              intro _ hw'
              obtain ⟨⟨dq, osq⟩, hw''⟩ := hw'
              subst hw''
              go_wp2
              go_roundw
              case rel => exact ⟨m + 2, by go_num, by omega, HN.out, bst HBW.out (below_regrown W dq osq), HKW.out.below (below_regrown W dq osq) HKW.out.lt⟩
              case measure => simp [intOf]; omega
            · have HN := Lib.hid (show recV ⟨kind, ver, seq, nid, add, rem⟩ = 1 from recV_ents HH.out (allTo_false hlt (okAt_asc ha he hok (t := false) (by simpa using hlt2))))
              clear hok he ha
              unfold Ent.cells at hW
              go_wp2_with fail
              rw [← hW]
              clear hW
              refine wp_region_quiet_below (by kernel_rfl) (by kernel_rfl) ?_
              repeat (go_big_quiet_step ((first | (with_reducible exact A1.out _ _))))
              refine wpQuiet_nil ?_
              intro _ hw'
              obtain ⟨⟨dq, osq⟩, hw''⟩ := hw'
              subst hw''
              go_wp2
              go_ret
              exact RetIB.mk_ HN.out (bst HBW.out (below_regrown W dq osq))
        · have hok' : e.okB = false := by simpa using hok
          have A1 := Lib.hid (reg_bb (w := W) (fun X => entry_b e hesm hok' X))
          have HN := Lib.hid (show recV ⟨kind, ver, seq, nid, add, rem⟩ = 1 from recV_ents HH.out (allTo_false hlt (okAt_false he hok')))
          clear hok hok' he
          unfold Ent.cells at hW
          go_wp2_with fail
          rw [← hW]
          clear hW
          refine wp_region_quiet_below (by kernel_rfl) (by kernel_rfl) ?_
          repeat (go_big_quiet_step ((first | (with_reducible exact A1.out _ _))))
          refine wpQuiet_nil ?_
          intro _ hw'
          obtain ⟨⟨dq, osq⟩, hw''⟩ := hw'
          subst hw''
          go_wp2
          go_ret
          exact RetIB.mk_ HN.out (bst HBW.out (below_regrown W dq osq))
      · obtain rfl : k = add.length := by omega
        have HE := Lib.hid (show entsB add = true from hall)
        have HB := Lib.hid hb
        have HK := Lib.hid hK
        have y5 := hK.cell 5
        simp only [List.getElem?_toArray, List.getElem?_cons_zero, List.getElem?_cons_succ] at y5
        clear hall hb hK
        obtain ⟨wo, rfl⟩ : ∃ wo : World, wo = wr := ⟨_, rfl⟩
        go_wp2
        clear y5
        go_loopw [83] (fun i wr => ∃ k : Nat, i = .int .i64 k ∧ k ≤ rem.length ∧ allTo (remAt rem) k = true ∧ Hid (kind = 1 → k = 0) ∧ Below w.heap.size w wr ∧ Blk wr w.heap.size 38 #[.int .i64 kind, .int .i64 ver, .int .i64 seq, .int .i64 nid, .slice A add.length c, .slice A2 rem.length cR]) (fun i _ => rem.length - (intOf i).toNat)
        case atStart => exact ⟨0, rfl, Nat.zero_le _, rfl, fun _ => rfl, HB.out, HK.out⟩
        case round =>
          obtain ⟨j, rfl, hj, hjall, hj0, hjb, hjK⟩ := hrel
          by_cases hlt : j < rem.length
          · obtain ⟨ad, n, rfl, hn, hcn⟩ := (hr.below hjb).int_at hlt
            have hJA := Lib.hid hjall
            have hJB := Lib.hid hjb
            have hJK := Lib.hid hjK
            have y0 := hjK.cell 0
            have y5 := hjK.cell 5
            simp only [List.getElem?_toArray, List.getElem?_cons_zero, List.getElem?_cons_succ] at y0 y5
            have Hn := Lib.hid hn
            have hcp : ∀ m, j = m + 1 → ∃ a, rem[m]? = some a ∧ wr.cell? (ad.add m) = some (.int .i64 a) := fun m hm => by
              obtain ⟨ad', a, e', ha, hca⟩ := (hr.below hjb).int_at (show m < rem.length by omega)
              cases e'
              exact ⟨a, ha, hca⟩
            clear hjall hjb hjK hn
            by_cases ho : 1 ≤ n ∧ n ≤ 2147483647
            · have OB := Lib.hid (fun X => object_b n (objB_true ho) X)
              rcases j with _ | m
              · clear hcp
                have hcn0 : wr.cell? ad = some (.int .i64 n) := by simpa [Addr.add] using hcn
                have HNX := Lib.hid (allTo_next hJA.out (remAt_zero Hn.out ho.1 ho.2))
                have HBX := Lib.hid (fun hb : kind = 1 => recV_base (r := ⟨kind, ver, seq, nid, add, rem⟩) HH.out hb Hn.out)
                clear ho
                go_wp2_with (with_reducible refine (OB.out _).mono ?_; rintro _ _ ⟨rfl, rfl⟩)
                first
                | (go_ret; exact RetIB.mk_ (HBX.out HKD.out) hJB.out)
                | (go_roundw
                   case rel => exact ⟨1, by go_num, by omega, HNX.out, fun h => absurd h HKD.out, hJB.out, hJK.out⟩
                   case measure => simp [intOf]; omega)
              · obtain ⟨a, ha, hca⟩ := hcp m rfl
                obtain ⟨p1, hp1⟩ : ∃ p1, ad.add (m + 1) = p1 := ⟨_, rfl⟩
                rw [hp1] at hcn
                obtain ⟨p2, hp2⟩ : ∃ p2, ad.add m = p2 := ⟨_, rfl⟩
                rw [hp2] at hca
                have Ha := Lib.hid ha
                clear ha hcp
                by_cases hlt2 : a < n
                · have dasc : decide (n ≤ a) = false := by simp; omega
                  have HNX := Lib.hid (allTo_next hJA.out (remAt_succ Ha.out Hn.out ho.1 ho.2 (t := true) (by simpa using hlt2)))
                  have HBX := Lib.hid (fun hb : kind = 1 => recV_base (r := ⟨kind, ver, seq, nid, add, rem⟩) HH.out hb Hn.out)
                  clear ho hlt2
                  go_wp2_with (with_reducible refine (OB.out _).mono ?_; rintro _ _ ⟨rfl, rfl⟩)
                  first
                  | (go_ret; exact RetIB.mk_ (HBX.out HKD.out) hJB.out)
                  | (go_roundw
                     case rel => exact ⟨m + 2, by go_num, by omega, HNX.out, fun h => absurd h HKD.out, hJB.out, hJK.out⟩
                     case measure => simp [intOf]; omega)
                · have dasc : decide (n ≤ a) = true := by simp; omega
                  have HN := Lib.hid (show recV ⟨kind, ver, seq, nid, add, rem⟩ = 1 from recV_rem HH.out (allTo_false hlt (remAt_succ Ha.out Hn.out ho.1 ho.2 (t := false) (by simpa using hlt2))))
                  clear ho hlt2
                  go_wp2_with (with_reducible refine (OB.out _).mono ?_; rintro _ _ ⟨rfl, rfl⟩)
                  go_ret
                  exact RetIB.mk_ HN.out hJB.out
            · have OB := Lib.hid (fun X => object_b n (objB_false ho) X)
              have HN := Lib.hid (show recV ⟨kind, ver, seq, nid, add, rem⟩ = 1 from recV_rem HH.out (allTo_false hlt (remAt_bad Hn.out ho)))
              clear ho hcp
              go_wp2_with (with_reducible refine (OB.out _).mono ?_; rintro _ _ ⟨rfl, rfl⟩)
              go_ret
              exact RetIB.mk_ HN.out hJB.out
          · obtain rfl : j = rem.length := by omega
            have HN := Lib.hid (show recV ⟨kind, ver, seq, nid, add, rem⟩ = 0 from recV_ok HH.out HE.out hjall (fun h => List.eq_nil_of_length_eq_zero (hj0.out h)))
            have HB2 := Lib.hid hjb
            clear hjall hjb hjK
            go_wp2
            go_ret
            exact RetIB.mk_ HN.out HB2.out
end Go.Proofs.Ytoikgjhekemjdaa
