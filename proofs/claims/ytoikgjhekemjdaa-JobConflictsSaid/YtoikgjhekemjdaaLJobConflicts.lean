/-
  The walk of the law JobConflicts.
-/
import Derived.Test.YtoikgjhekemjdaaJCommit
import Derived.Test.YtoikgjhekemjdaaJOutputs
import Derived.Test.YtoikgjhekemjdaaKSnap
import Derived.Test.YtoikgjhekemjdaaSteps
import Derived.Test.YtoikgjhekemjdaaJLaw
import Derived.Test.YtoikgjhekemjdaaInsert
namespace Go.Proofs.Ytoikgjhekemjdaa
open Go.RowKit Go.Sort
def RecOk (r : Value) : Prop := ∃ (a b c d : Int) (A A' : Option Addr) (m m' k k' : Nat), r = .agg #[.int .i64 a, .int .i64 b, .int .i64 c, .int .i64 d, .slice A m k, .slice A' m' k']
def ErrOk (P : Prop) (v : Value) : Prop := ∃ err : Int, v = .int .i64 err ∧ (err = 16 ↔ ¬ P)
def TupOk (P : Prop) (v : Value) : Prop := ∃ (r : Value) (err : Int), v = .tuple #[r, .int .i64 err] ∧ RecOk r ∧ (err = 16 ↔ ¬ P)
theorem RetCommit.tup {w w' : World} {x q n nx : Int} {l ins us : List Ent} {e : Ending} (h : RetCommit w x q n nx l ins us e w') : ∃ v, e = .returned v ∧ TupOk (fitP ins l) v ∧ Below w.heap.size w w' := by
  rcases h with ⟨err, rfl, h1, h2, h3⟩ | ⟨rem, z, va, vr, rfl, h1, h2, h3, h4, h5, h6⟩
  · exact ⟨_, rfl, ⟨_, _, rfl, ⟨_, _, _, _, _, _, _, _, _, _, rfl⟩, h2⟩, h3⟩
  · obtain ⟨A, c, rfl, _, _⟩ := (Sl.of_own h4).form
    obtain ⟨A', c', rfl, _, _⟩ := (Sl.of_own h5).form
    exact ⟨_, rfl, ⟨_, _, rfl, ⟨_, _, _, _, _, _, _, _, _, _, rfl⟩, ⟨fun h => absurd h (by decide), fun h => absurd h1 h⟩⟩, h6⟩
theorem fitTo_full {ins l : List Ent} : fitTo ins l ins.length ↔ fitP ins l := by
  unfold fitTo fitP freshV
  rw [List.take_length]
  refine and_congr_right fun _ => ?_
  rw [Bool.not_eq_true', Bool.eq_false_iff, ne_eq, List.any_eq_true]
  constructor
  · rintro h ⟨e, he, h2⟩
    have := h e he
    rw [show (l.any fun y => eqE y e) = (l.any fun y => eqE e y) from by congr 1; funext y; exact eqE_comm y e] at this
    rw [this] at h2; cases h2
  · intro h e he
    rw [show (l.any fun y => eqE y e) = (l.any fun y => eqE e y) from by congr 1; funext y; exact eqE_comm y e]
    cases h2 : l.any fun y => eqE e y with
    | true => rfl
    | false => exact absurd ⟨e, he, by rw [h2]; rfl⟩ h
set_option maxRecDepth 100000 in
set_option maxHeartbeats 8000000 in
theorem jobConflicts_walk (z1 z2 z3 : Value) (xs ys zs : List Int) (w : World)
    (h1 : Sl w 1 z1 xs.length (ints xs)) (h1l : xs.length ≤ 9223372036854775807) (h1r : ∀ x ∈ xs, -9223372036854775808 ≤ x ∧ x ≤ 9223372036854775807)
    (h2 : Sl w 1 z2 ys.length (ints ys)) (h2l : ys.length ≤ 9223372036854775807) (h2r : ∀ x ∈ ys, -9223372036854775808 ≤ x ∧ x ≤ 9223372036854775807)
    (h3 : Sl w 1 z3 zs.length (ints zs)) (h3l : zs.length ≤ 9223372036854775807) (h3r : ∀ x ∈ zs, -9223372036854775808 ≤ x ∧ x ≤ 9223372036854775807) :
    Calls Try.prog 10 #[z1, z2, z3] w (RetBe w true) := by
  obtain ⟨A1, c1, rfl, _, _⟩ := h1.form
  obtain ⟨A2, c2, rfl, _, _⟩ := h2.form
  obtain ⟨A3, c3, rfl, _, _⟩ := h3.form
  have HK := Lib.hid (ksnap_any _ xs w h1 h1l h1r)
  have S2 := Lib.hid h2
  have S3 := Lib.hid h3
  have R2 := Lib.hid h2r
  have R3 := Lib.hid h3r
  clear h1 h2 h3 h1r h2r h3r
  go_enter Try.func10, Try.ntmps10
  go_wp2_with fail
  refine HK.out.mono ?_
  rintro e v1 ⟨x, q, n, sv, l, rfl, k1, k2, k3, k4, k5, k6, hlen, hG, hown, hb1⟩
  obtain ⟨AS, cS, rfl, hS1, hS2⟩ := (Sl.of_own hown).form
  have SS1 := Lib.hid (Sl.of_own hown)
  have hsm : ∀ e ∈ l, e.small := fun e he => Ent.gen_small (hG.mem e he).1
  have HSB := Lib.hid (gen_snapB k1 k2 k3 k4 k5 k6 hlen hG)
  have HS := Lib.hid hsm
  obtain ⟨v2, hv⟩ : ∃ v2, v2 = v1.alloc (.cells #[.int .i64 x, .int .i64 q, .int .i64 n, .slice AS l.length cS] 24) := ⟨_, rfl⟩
  have hb2 : Below v1.heap.size v1 v2 := by rw [hv]; exact abel _ _
  have BS := Lib.hid (show Blk v2 v1.heap.size 24 #[.int .i64 x, .int .i64 q, .int .i64 n, .slice AS l.length cS] by rw [hv]; exact Blk.new _ _ _)
  have SS := Lib.hid (SS1.out.below hb2)
  have HB2 := Lib.hid (bst hb1 hb2)
  have hl6 := hlen
  clear hG hown hb1 hb2 HK hsm
  have HIN := Lib.hid (inputs_any x q n (.slice AS l.length cS) (.slice A2 ys.length c2) l ys v2 SS.out (by omega) HS.out (S2.out.below HB2.out) h2l R2.out)
  have bb := BS.out
  have s0 := bb.cell 0
  have s1 := bb.cell 1
  have s2 := bb.cell 2
  have s3 := bb.cell 3
  simp only [List.getElem?_toArray, List.getElem?_cons_zero, List.getElem?_cons_succ] at s0 s1 s2 s3
  clear bb
  go_upto_region 2 with (fail)
  rw [← hv]
  clear hv
  go_wp2_with fail
  refine HIN.out.mono ?_
  rintro _ v3 ⟨vi, ins, rfl, oI, hism, hil, hb3⟩
  obtain ⟨AI, cI, rfl, hI1, hI2⟩ := (Sl.of_own oI).form
  have SI := Lib.hid (Sl.of_own oI)
  have B3 := Lib.hid hb3
  have hil2 : ins.length ≤ 7 := by omega
  clear s0 s1 s2 s3 oI hb3 HIN hil
  go_wp2
  go_loopw [9, 26] (fun f i wr => ∃ (k : Nat) (b : Bool), i = .int .i64 k ∧ f = .bool b ∧ k ≤ ins.length ∧ Hid (b = true ↔ fitTo ins l k) ∧ Below v3.heap.size v3 wr) (fun _ i _ => ins.length - (intOf i).toNat)
  case atStart => exact ⟨0, true, rfl, rfl, Nat.zero_le _, Lib.hid (fitTo_zero ins l), Below.refl _ _⟩
  case round =>
    obtain ⟨k, b, rfl, rfl, hk, hfit, hbel⟩ := hrel
    obtain ⟨wo, rfl⟩ : ∃ wo : World, wo = wr := ⟨_, rfl⟩
    by_cases hlt : k < ins.length
    · obtain ⟨ad, e, p, rfl, he, hp, hE⟩ := (SI.out.below hbel).ent_load rfl hlt
      obtain ⟨hplt, m0, m1, m2, m3, m4, m5, m6, m7, m8, m9, m10, m11⟩ := hE
      have HE := Lib.hid he
      have HLT := Lib.hid hlt
      obtain ⟨E, hE0⟩ : ∃ E, wo.heap.size = E := ⟨_, rfl⟩
      obtain ⟨U, hU⟩ : ∃ U, U = wo.alloc (.cells #[.int .i64 e.id, .int .i64 e.rows, .int .i64 e.live, .bool e.lo.null, .int .i64 e.lo.n, .string e.lo.s, .int .i64 e.lo.seq, .bool e.hi.null, .int .i64 e.hi.n, .string e.hi.s, .int .i64 e.hi.seq, .int .i64 e.del] 34) := ⟨_, rfl⟩
      have BE := Lib.hid (show Blk U E 34 #[.int .i64 e.id, .int .i64 e.rows, .int .i64 e.live, .bool e.lo.null, .int .i64 e.lo.n, .string e.lo.s, .int .i64 e.lo.seq, .bool e.hi.null, .int .i64 e.hi.n, .string e.hi.s, .int .i64 e.hi.seq, .int .i64 e.del] by rw [hU, ← hE0]; exact Blk.new _ _ _)
      have BU := Lib.hid (show Below v3.heap.size v3 U by rw [hU]; exact hbel.alloc hbel.size _)
      have SSU := Lib.hid ((SS.out.below B3.out).below BU.out)
      have SIU := Lib.hid (SI.out.below BU.out)
      have BSU := Lib.hid ((BS.out.below B3.out BS.out.lt).below BU.out (by have := BS.out.lt; have := B3.out.size; omega))
      clear he hbel
      go_upto_region 7 with (fail)
      rw [← hU]
      clear hU
      clear m0 m1 m2 m3 m4 m5 m6 m7 m8 m9 m10 m11
      have bb := BSU.out
      have s0 := bb.cell 0
      have s1 := bb.cell 1
      have s2 := bb.cell 2
      have s3 := bb.cell 3
      simp only [List.getElem?_toArray, List.getElem?_cons_zero, List.getElem?_cons_succ] at s0 s1 s2 s3
      clear bb
      have hk2 := hlt
      go_wp2
      clear s0 s1 s2 s3
      go_loopw [12, 34] (fun f i wr => ∃ (j : Nat) (b : Bool), i = .int .i64 j ∧ f = .bool b ∧ j ≤ l.length ∧ Hid (b = (l.take j).any (fun y => eqE y e)) ∧ Below U.heap.size U wr) (fun _ i _ => l.length - (intOf i).toNat)
      case atStart => exact ⟨0, false, rfl, rfl, Nat.zero_le _, Lib.hid (by simp), Below.refl _ _⟩
      case round =>
        obtain ⟨j, f, rfl, rfl, hj, hf, hbj⟩ := hrel
        by_cases hjl : j < l.length
        · obtain ⟨aj, y, pj, hA, hy, hpj, hY⟩ := (SSU.out.below hbj).ent_load rfl hjl
          cases hA
          obtain ⟨hpl, y0, y1, y2, y3, y4, y5, y6, y7, y8, y9, y10, y11⟩ := hY
          have HY := Lib.hid hy
          have HBJ := Lib.hid hbj
          have HJL := Lib.hid hjl
          have bb := (BE.out.below hbj BE.out.lt).alloc (.cells #[.int .i64 y.id, .int .i64 y.rows, .int .i64 y.live, .bool y.lo.null, .int .i64 y.lo.n, .string y.lo.s, .int .i64 y.lo.seq, .bool y.hi.null, .int .i64 y.hi.n, .string y.hi.s, .int .i64 y.hi.seq, .int .i64 y.del] 34)
          have e0 := bb.cell 0
          have e1 := bb.cell 1
          have e2 := bb.cell 2
          have e3 := bb.cell 3
          have e4 := bb.cell 4
          have e5 := bb.cell 5
          have e6 := bb.cell 6
          have e7 := bb.cell 7
          have e8 := bb.cell 8
          have e9 := bb.cell 9
          have e10 := bb.cell 10
          have e11 := bb.cell 11
          simp only [List.getElem?_toArray, List.getElem?_cons_zero, List.getElem?_cons_succ] at e0 e1 e2 e3 e4 e5 e6 e7 e8 e9 e10 e11
          clear bb
          have HA := Lib.hid (any_take (p := fun y => eqE y e) hy)
          clear hy hbj
          cases f with
          | true =>
            go_wp2
            go_roundw
            case rel => exact ⟨j + 1, _, by go_num, rfl, HJL.out, Lib.hid (by rw [HA.out, ← hf.out]; rfl), HBJ.out.alloc HBJ.out.size _⟩
            case measure => have := HJL.out; simp [intOf]; omega
          | false =>
            have EQ := eql_ent y e
            cases hq : eqE y e with
            | true =>
              rw [hq] at EQ
              have HQ := Lib.hid hq
              clear hq
              go_wp2
              go_roundw
              case rel => exact ⟨j + 1, _, by go_num, rfl, HJL.out, Lib.hid (by rw [HA.out, ← hf.out]; simp [HQ.out]), HBJ.out.alloc HBJ.out.size _⟩
              case measure => have := HJL.out; simp [intOf]; omega
            | false =>
              rw [hq] at EQ
              have HQ := Lib.hid hq
              clear hq
              go_wp2
              go_roundw
              case rel => exact ⟨j + 1, _, by go_num, rfl, HJL.out, Lib.hid (by rw [HA.out, ← hf.out]; simp [HQ.out]), HBJ.out.alloc HBJ.out.size _⟩
              case measure => have := HJL.out; simp [intOf]; omega
        · have HF := Lib.hid (show f = l.any (fun y => eqE y e) by rw [hf.out, show j = l.length by omega, List.take_length])
          have HBJ := Lib.hid hbj
          clear hbj
          obtain ⟨tk, htk⟩ : ∃ tk, tk = ins.take k := ⟨_, rfl⟩
          have HTK := Lib.hid htk
          have HTL := Lib.hid (show k = tk.length by rw [htk, List.length_take]; omega)
          have ST := Lib.hid (show Sl U 12 (.slice (some ad) k cI) k (ents tk) by rw [htk]; exact SIU.out.take12 rfl hk)
          clear htk
          go_wp2
          go_loopw [12, 49] (fun ff i wr => ∃ (j : Nat) (b : Bool), i = .int .i64 j ∧ ff = .bool b ∧ j ≤ k ∧ Hid (b = (f && (tk.take j).all (fun y => y.id != e.id))) ∧ Below U.heap.size U wr) (fun _ i _ => k - (intOf i).toNat)
          case atStart => exact ⟨0, f, rfl, rfl, Nat.zero_le _, Lib.hid (by simp), HBJ.out⟩
          case round =>
            obtain ⟨j, g, rfl, rfl, hj, hg, hbj⟩ := hrel
            by_cases hjl : j < k
            · obtain ⟨aj, y, pj, hA, hy, hpj, hY⟩ := (ST.out.below hbj).ent_load HTL.out hjl
              cases hA
              obtain ⟨hpl, y0, y1, y2, y3, y4, y5, y6, y7, y8, y9, y10, y11⟩ := hY
              have HY := Lib.hid hy
              have HBK := Lib.hid hbj
              have HJL := Lib.hid hjl
              have bb := (BE.out.below hbj BE.out.lt).alloc (.cells #[.int .i64 y.id, .int .i64 y.rows, .int .i64 y.live, .bool y.lo.null, .int .i64 y.lo.n, .string y.lo.s, .int .i64 y.lo.seq, .bool y.hi.null, .int .i64 y.hi.n, .string y.hi.s, .int .i64 y.hi.seq, .int .i64 y.del] 34)
              have e0 := bb.cell 0
              have e1 := bb.cell 1
              have e2 := bb.cell 2
              have e3 := bb.cell 3
              have e4 := bb.cell 4
              have e5 := bb.cell 5
              have e6 := bb.cell 6
              have e7 := bb.cell 7
              have e8 := bb.cell 8
              have e9 := bb.cell 9
              have e10 := bb.cell 10
              have e11 := bb.cell 11
              simp only [List.getElem?_toArray, List.getElem?_cons_zero, List.getElem?_cons_succ] at e0 e1 e2 e3 e4 e5 e6 e7 e8 e9 e10 e11
              clear bb
              have HA := Lib.hid (all_take (p := fun y => y.id != e.id) hy)
              clear hy hbj
              cases g with
              | false =>
                go_wp2
                go_roundw
                case rel => exact ⟨j + 1, _, by go_num, rfl, HJL.out, Lib.hid (by rw [HA.out, ← Bool.and_assoc, ← hg.out]; rfl), HBK.out.alloc HBK.out.size _⟩
                case measure => have := HJL.out; simp [intOf]; omega
              | true =>
                go_wp2
                go_roundw
                case rel => exact ⟨j + 1, _, by go_num, rfl, HJL.out, Lib.hid (by rw [HA.out, ← Bool.and_assoc, ← hg.out]; simp), HBK.out.alloc HBK.out.size _⟩
                case measure => have := HJL.out; simp [intOf]; omega
            · have HG := Lib.hid (show g = (f && tk.all (fun y => y.id != e.id)) by rw [hg.out, show j = tk.length by have := HTL.out; omega, List.take_length])
              have HBK := Lib.hid hbj
              clear hbj
              have HGG := Lib.hid (show g = ((l.any fun y => eqE y e) && (ins.take k).all fun y => y.id != e.id) by rw [HG.out, HF.out, HTK.out])
              have HBU := Lib.hid (BU.out.trans (HBK.out.mono BU.out.size))
              clear HG HF hg hf
              cases b with
              | false =>
                have HN := Lib.hid (show false = true ↔ fitTo ins l (k + 1) from ⟨fun h => (by cases h), fun h => (by have := hfit.out.2 ((fitTo_succ HE.out).1 h).1; cases this)⟩)
                go_wp2
                go_roundw
                case rel => exact ⟨k + 1, _, by go_num, rfl, HLT.out, HN, HBU.out⟩
                case measure => have := HLT.out; simp [intOf]; omega
              | true =>
                have HN := Lib.hid (show g = true ↔ fitTo ins l (k + 1) from ⟨fun h => (fitTo_succ HE.out).2 ⟨hfit.out.1 rfl, HGG.out ▸ h⟩, fun h => HGG.out ▸ ((fitTo_succ HE.out).1 h).2⟩)
                go_wp2
                go_roundw
                case rel => exact ⟨k + 1, _, by go_num, rfl, HLT.out, HN, HBU.out⟩
                case measure => have := HLT.out; simp [intOf]; omega
    · have HFP := Lib.hid (show b = true ↔ fitP ins l from hfit.out.trans (by rw [show k = ins.length by omega]; exact fitTo_full))
      have HBO := Lib.hid hbel
      have SIO := Lib.hid (SI.out.below hbel)
      have BSO := Lib.hid ((BS.out.below B3.out BS.out.lt).below hbel (by have := BS.out.lt; have := B3.out.size; omega))
      have SSO := Lib.hid ((SS.out.below B3.out).below hbel)
      have HBw := Lib.hid (show Below w.heap.size w wo from bst (bst HB2.out B3.out) hbel)
      have hk3 := hlt
      clear hbel hfit
      go_upto_region 20 with (fail)
      refine wp_region_inv (by kernel_rfl) (by kernel_rfl) (fun L a w' => ∃ u17 u18 u67 u68 u69 u70 u71 u72 u73 u74 u75 u76 u77 u78 u79 : Value, a = ⟨#[.slice A1 xs.length c1, .slice A2 ys.length c2, .slice A3 zs.length c3, undef, undef, undef, .bool false, .pointer (some ⟨v1.heap.size, 0, none⟩), .slice AI ins.length cI, .bool b, u10, u11, u12, undef, u14, undef, u16, u17, u18, .slice A1 xs.length c1, .agg #[.int .i64 x, .int .i64 q, .int .i64 n, .slice AS l.length cS], .agg #[.int .i64 x, .int .i64 q, .int .i64 n, .slice AS l.length cS], .slice A2 ys.length c2, .slice AI ins.length cI, .slice AI ins.length cI, .int .i64 ins.length, .int .i64 k, .bool false, u28, u29, u30, u31, u32, u33, u34, u35, u36, u37, u38, u39, u40, u41, u42, u43, u44, u45, u46, u47, u48, u49, u50, u51, u52, u53, u54, u55, u56, u57, u58, u59, u60, u61, u62, u63, u64, u65, u66, u67, u68, u69, u70, u71, u72, u73, u74, u75, u76, u77, u78, u79, undef, undef, undef, undef, undef, undef, undef, undef], []⟩ ∧
          Below wo.heap.size wo w' ∧ Got (L 0) u68 (.agg #[.int .i64 x, .int .i64 q, .int .i64 n, .slice AS l.length cS]) ∧ Got (L 1) u69 (.slice AI ins.length cI) ∧ Got (L 2) u70 (.pointer (some ⟨v1.heap.size, 2, none⟩)) ∧ Got (L 3) u71 (.int .i64 n) ∧ Got (L 4) u72 (.slice A3 zs.length c3) ∧ (L 5 = true → ∃ us : List Ent, w'.ownsRow wo.heap.size 34 12 u73 us.length (ents us) ∧ (∀ e ∈ us, e.small) ∧ us.length ≤ 2) ∧ Got (L 6) u74 (.pointer (some ⟨v1.heap.size, 2, none⟩)) ∧ Got (L 7) u75 (.int .i64 n) ∧ Got (L 8) u76 (.int .i64 (n + 4)) ∧ (L 9 = true → TupOk (fitP ins l) u77) ∧ (L 10 = true → TupOk (fitP ins l) u67) ∧ (L 11 = true → RecOk u78) ∧ (L 12 = true → ErrOk (fitP ins l) u79) ∧ (L 13 = true → ∃ N, u17 = .pointer (some ⟨N, 0, none⟩) ∧ wo.heap.size ≤ N ∧ (L 14 = false → Blk w' N 38 #[.int .i64 0, .int .i64 0, .int .i64 0, .int .i64 0, .slice none 0 0, .slice none 0 0])) ∧ (L 14 = true → L 13 = true) ∧ (L 15 = true → ErrOk (fitP ins l) u18))
        ?_ ?_ ?_
      · exact ⟨_, _, _, _, _, _, _, _, _, _, _, _, _, _, _, rfl, (Below.refl _ _).drew, nofun, nofun, nofun, nofun, nofun, nofun, nofun, nofun, nofun, nofun, nofun, nofun, nofun, nofun, nofun, nofun⟩
      · refine ⟨?_, ?_, ?_, ?_, ?_, ?_, ?_, ?_, ?_, ?_, ?_, ?_, ?_, ?_, ?_, ?_, trivial⟩
        · rintro L a w' ⟨u17, u18, u67, u68, u69, u70, u71, u72, u73, u74, u75, u76, u77, u78, u79, rfl, hb, g0, g1, g2, g3, g4, g5, g6, g7, g8, g9, g10, g11, g12, g13, g14, g15⟩ hl hd K hK
          dsimp only at hK ⊢
          have bb := BSO.out.below hb BSO.out.lt
          have cc0 := bb.cell 0
          have cc1 := bb.cell 1
          have cc2 := bb.cell 2
          have cc3 := bb.cell 3
          simp only [List.getElem?_toArray, List.getElem?_cons_zero, List.getElem?_cons_succ] at cc0 cc1 cc2 cc3
          clear bb
          go_simp
          exact hK _ _ ⟨_, _, _, _, _, _, _, _, _, _, _, _, _, _, _, rfl, hb, fun _ => rfl, g1, g2, g3, g4, g5, g6, g7, g8, g9, g10, g11, g12, g13, g14, g15⟩
        · rintro L a w' ⟨u17, u18, u67, u68, u69, u70, u71, u72, u73, u74, u75, u76, u77, u78, u79, rfl, hb, g0, g1, g2, g3, g4, g5, g6, g7, g8, g9, g10, g11, g12, g13, g14, g15⟩ hl hd K hK
          dsimp only at hK ⊢
          go_simp
          exact hK _ _ ⟨_, _, _, _, _, _, _, _, _, _, _, _, _, _, _, rfl, hb, g0, fun _ => rfl, g2, g3, g4, g5, g6, g7, g8, g9, g10, g11, g12, g13, g14, g15⟩
        · rintro L a w' ⟨u17, u18, u67, u68, u69, u70, u71, u72, u73, u74, u75, u76, u77, u78, u79, rfl, hb, g0, g1, g2, g3, g4, g5, g6, g7, g8, g9, g10, g11, g12, g13, g14, g15⟩ hl hd K hK
          dsimp only at hK ⊢
          go_simp
          exact hK _ _ ⟨_, _, _, _, _, _, _, _, _, _, _, _, _, _, _, rfl, hb, g0, g1, fun _ => rfl, g3, g4, g5, g6, g7, g8, g9, g10, g11, g12, g13, g14, g15⟩
        · rintro L a w' ⟨u17, u18, u67, u68, u69, u70, u71, u72, u73, u74, u75, u76, u77, u78, u79, rfl, hb, g0, g1, g2, g3, g4, g5, g6, g7, g8, g9, g10, g11, g12, g13, g14, g15⟩ hl hd K hK
          simp [Region.binds] at hd
          dsimp only at hK ⊢
          have e2 := g2 (by simp [hd])
          subst e2
          have bb := BSO.out.below hb BSO.out.lt
          have cc2 := bb.cell 2
          simp only [List.getElem?_toArray, List.getElem?_cons_zero, List.getElem?_cons_succ] at cc2
          clear bb
          go_simp
          exact hK _ _ ⟨_, _, _, _, _, _, _, _, _, _, _, _, _, _, _, rfl, hb, g0, g1, g2, fun _ => rfl, g4, g5, g6, g7, g8, g9, g10, g11, g12, g13, g14, g15⟩
        · rintro L a w' ⟨u17, u18, u67, u68, u69, u70, u71, u72, u73, u74, u75, u76, u77, u78, u79, rfl, hb, g0, g1, g2, g3, g4, g5, g6, g7, g8, g9, g10, g11, g12, g13, g14, g15⟩ hl hd K hK
          dsimp only at hK ⊢
          go_simp
          exact hK _ _ ⟨_, _, _, _, _, _, _, _, _, _, _, _, _, _, _, rfl, hb, g0, g1, g2, g3, fun _ => rfl, g5, g6, g7, g8, g9, g10, g11, g12, g13, g14, g15⟩
        · rintro L a w' ⟨u17, u18, u67, u68, u69, u70, u71, u72, u73, u74, u75, u76, u77, u78, u79, rfl, hb, g0, g1, g2, g3, g4, g5, g6, g7, g8, g9, g10, g11, g12, g13, g14, g15⟩ hl hd K hK
          simp [Region.binds] at hd
          dsimp only at hK ⊢
          have e3 := g3 (by simp [hd])
          subst e3
          have e4 := g4 (by simp [hd])
          subst e4
          go_wp2_with fail
          refine (outputs_any n (.slice A3 zs.length c3) zs w' (S3.out.below (bst HBw.out hb)) h3l R3.out).mono ?_
          rintro _ w4 ⟨v4, us, rfl, o4, s4, l4, hb4⟩
          exact hK _ _ ⟨_, _, _, _, _, _, _, _, _, _, _, _, _, _, _, rfl, bst hb hb4, g0, g1, g2, g3, g4, fun _ => ⟨us, own_mono o4 hb.size, s4, l4⟩, g6, g7, g8, g9, g10, g11, g12, fun h => by obtain ⟨N, e1, e2, e3⟩ := g13 h; exact ⟨N, e1, e2, fun h4 => (e3 h4).below hb4 (e3 h4).lt⟩, g14, g15⟩
        · rintro L a w' ⟨u17, u18, u67, u68, u69, u70, u71, u72, u73, u74, u75, u76, u77, u78, u79, rfl, hb, g0, g1, g2, g3, g4, g5, g6, g7, g8, g9, g10, g11, g12, g13, g14, g15⟩ hl hd K hK
          dsimp only at hK ⊢
          go_simp
          exact hK _ _ ⟨_, _, _, _, _, _, _, _, _, _, _, _, _, _, _, rfl, hb, g0, g1, g2, g3, g4, g5, fun _ => rfl, g7, g8, g9, g10, g11, g12, g13, g14, g15⟩
        · rintro L a w' ⟨u17, u18, u67, u68, u69, u70, u71, u72, u73, u74, u75, u76, u77, u78, u79, rfl, hb, g0, g1, g2, g3, g4, g5, g6, g7, g8, g9, g10, g11, g12, g13, g14, g15⟩ hl hd K hK
          simp [Region.binds] at hd
          dsimp only at hK ⊢
          have e6 := g6 (by simp [hd])
          subst e6
          have bb := BSO.out.below hb BSO.out.lt
          have cc2 := bb.cell 2
          simp only [List.getElem?_toArray, List.getElem?_cons_zero, List.getElem?_cons_succ] at cc2
          clear bb
          go_simp
          exact hK _ _ ⟨_, _, _, _, _, _, _, _, _, _, _, _, _, _, _, rfl, hb, g0, g1, g2, g3, g4, g5, g6, fun _ => rfl, g8, g9, g10, g11, g12, g13, g14, g15⟩
        · rintro L a w' ⟨u17, u18, u67, u68, u69, u70, u71, u72, u73, u74, u75, u76, u77, u78, u79, rfl, hb, g0, g1, g2, g3, g4, g5, g6, g7, g8, g9, g10, g11, g12, g13, g14, g15⟩ hl hd K hK
          simp [Region.binds] at hd
          dsimp only at hK ⊢
          have e7 := g7 (by simp [hd])
          subst e7
          have wn : IntKind.i64.wrap (n + 4) = n + 4 := IntWalk.i64_in _ (by omega)
          go_simp
          exact hK _ _ ⟨_, _, _, _, _, _, _, _, _, _, _, _, _, _, _, rfl, hb, g0, g1, g2, g3, g4, g5, g6, g7, fun _ => rfl, g9, g10, g11, g12, g13, g14, g15⟩
        · rintro L a w' ⟨u17, u18, u67, u68, u69, u70, u71, u72, u73, u74, u75, u76, u77, u78, u79, rfl, hb, g0, g1, g2, g3, g4, g5, g6, g7, g8, g9, g10, g11, g12, g13, g14, g15⟩ hl hd K hK
          simp [Region.binds] at hd
          dsimp only at hK ⊢
          have e0 := g0 (by simp [hd])
          subst e0
          have e1 := g1 (by simp [hd])
          subst e1
          have e8 := g8 (by simp [hd])
          subst e8
          obtain ⟨us, o1, o2, o3⟩ := g5 (by simp [hd])
          obtain ⟨A4, k4, rfl, _, _⟩ := (Sl.of_own o1).form
          go_wp2_with fail
          refine (commit_any x q n (n + 4) (.slice AS l.length cS) (.slice AI ins.length cI) (.slice A4 us.length k4) l ins us w' (SSO.out.below hb) HS.out (SIO.out.below hb) (by omega) (Sl.of_own o1) o2 (by omega) HSB.out (by omega)).mono ?_
          intro e w4 h4
          obtain ⟨v4, rfl, t4, hb4⟩ := h4.tup
          exact hK _ _ ⟨_, _, _, _, _, _, _, _, _, _, _, _, _, _, _, rfl, bst hb hb4, g0, g1, g2, g3, g4, fun _ => ⟨us, own_below o1 hb4, o2, o3⟩, g6, g7, g8, fun _ => t4, g10, g11, g12, fun h => by obtain ⟨N, e1, e2, e3⟩ := g13 h; exact ⟨N, e1, e2, fun h4 => (e3 h4).below hb4 (e3 h4).lt⟩, g14, g15⟩
        · rintro L a w' ⟨u17, u18, u67, u68, u69, u70, u71, u72, u73, u74, u75, u76, u77, u78, u79, rfl, hb, g0, g1, g2, g3, g4, g5, g6, g7, g8, g9, g10, g11, g12, g13, g14, g15⟩ hl hd K hK
          simp [Region.binds] at hd
          dsimp only at hK ⊢
          have t9 := g9 (by simp [hd])
          go_simp
          exact hK _ _ ⟨_, _, _, _, _, _, _, _, _, _, _, _, _, _, _, rfl, hb, g0, g1, g2, g3, g4, g5, g6, g7, g8, g9, fun _ => t9, g11, g12, g13, g14, g15⟩
        · rintro L a w' ⟨u17, u18, u67, u68, u69, u70, u71, u72, u73, u74, u75, u76, u77, u78, u79, rfl, hb, g0, g1, g2, g3, g4, g5, g6, g7, g8, g9, g10, g11, g12, g13, g14, g15⟩ hl hd K hK
          simp [Region.binds] at hd
          dsimp only at hK ⊢
          obtain ⟨r, err, rfl, r1, r2⟩ := g10 (by simp [hd])
          go_simp
          exact hK _ _ ⟨_, _, _, _, _, _, _, _, _, _, _, _, _, _, _, rfl, hb, g0, g1, g2, g3, g4, g5, g6, g7, g8, g9, fun _ => ⟨r, err, rfl, r1, r2⟩, fun _ => r1, g12, g13, g14, g15⟩
        · rintro L a w' ⟨u17, u18, u67, u68, u69, u70, u71, u72, u73, u74, u75, u76, u77, u78, u79, rfl, hb, g0, g1, g2, g3, g4, g5, g6, g7, g8, g9, g10, g11, g12, g13, g14, g15⟩ hl hd K hK
          simp [Region.binds] at hd
          dsimp only at hK ⊢
          obtain ⟨r, err, rfl, r1, r2⟩ := g10 (by simp [hd])
          go_simp
          exact hK _ _ ⟨_, _, _, _, _, _, _, _, _, _, _, _, _, _, _, rfl, hb, g0, g1, g2, g3, g4, g5, g6, g7, g8, g9, fun _ => ⟨r, err, rfl, r1, r2⟩, g11, fun _ => ⟨err, rfl, r2⟩, g13, g14, g15⟩
        · rintro L a w' ⟨u17, u18, u67, u68, u69, u70, u71, u72, u73, u74, u75, u76, u77, u78, u79, rfl, hb, g0, g1, g2, g3, g4, g5, g6, g7, g8, g9, g10, g11, g12, g13, g14, g15⟩ hl hd K hK
          dsimp only at hK ⊢
          go_simp
          exact hK _ _ ⟨_, _, _, _, _, _, _, _, _, _, _, _, _, _, _, rfl, hb.alloc hb.size _, g0, g1, g2, g3, g4, fun h => by obtain ⟨us, o1, o2, o3⟩ := g5 h; exact ⟨us, o1.alloc _, o2, o3⟩, g6, g7, g8, g9, g10, g11, g12, fun _ => ⟨w'.heap.size, rfl, hb.size, fun _ => Blk.new _ _ _⟩, fun h => rfl, g15⟩
        · rintro L a w' ⟨u17, u18, u67, u68, u69, u70, u71, u72, u73, u74, u75, u76, u77, u78, u79, rfl, hb, g0, g1, g2, g3, g4, g5, g6, g7, g8, g9, g10, g11, g12, g13, g14, g15⟩ hl hd K hK
          simp [Region.binds] at hd
          dsimp only at hK ⊢
          have hd1 : L 13 = true := by simp [hd]
          obtain ⟨a0, a1, a2, a3, B1, B2, b1, b2, b3, b4, rfl⟩ := g11 (by simp [hd])
          obtain ⟨N, rfl, e2, e3⟩ := g13 hd1
          have bb := e3 hl
          have f0 := bb.frozen 0
          have f1 := bb.frozen 1
          have f2 := bb.frozen 2
          have f3 := bb.frozen 3
          have f4 := bb.frozen 4
          have f5 := bb.frozen 5
          have cc0 := bb.cell 0
          have cc1 := bb.cell 1
          have cc2 := bb.cell 2
          have cc3 := bb.cell 3
          have cc4 := bb.cell 4
          have cc5 := bb.cell 5
          simp only [List.getElem?_toArray, List.getElem?_cons_zero, List.getElem?_cons_succ] at cc0 cc1 cc2 cc3 cc4 cc5
          have hlt := bb.lt
          have kg := grown6 w' N (.int .i64 a0) (.int .i64 a1) (.int .i64 a2) (.int .i64 a3) (.slice B1 b1 b3) (.slice B2 b2 b4)
          have KG := Lib.hid kg
          clear kg
          go_simp
          exact hK _ _ ⟨_, _, _, _, _, _, _, _, _, _, _, _, _, _, _, rfl, below_row hb KG.out e2 hb.size, g0, g1, g2, g3, g4, fun h => by obtain ⟨us, o1, o2, o3⟩ := g5 h; exact ⟨us, own_row o1 KG.out (fun b hb2 e => own_blk_ne o1 bb (by decide) (by rw [hb2, e])), o2, o3⟩, g6, g7, g8, g9, g10, g11, g12, fun _ => ⟨N, rfl, e2, nofun⟩, fun _ => hd1, g15⟩
        · rintro L a w' ⟨u17, u18, u67, u68, u69, u70, u71, u72, u73, u74, u75, u76, u77, u78, u79, rfl, hb, g0, g1, g2, g3, g4, g5, g6, g7, g8, g9, g10, g11, g12, g13, g14, g15⟩ hl hd K hK
          simp [Region.binds] at hd
          dsimp only at hK ⊢
          obtain ⟨err, rfl, r2⟩ := g12 (by simp [hd])
          go_simp
          exact hK _ _ ⟨_, _, _, _, _, _, _, _, _, _, _, _, _, _, _, rfl, hb, g0, g1, g2, g3, g4, g5, g6, g7, g8, g9, g10, g11, fun _ => ⟨err, rfl, r2⟩, g13, g14, fun _ => ⟨err, rfl, r2⟩⟩
      rintro a w9 ⟨u17, u18, u67, u68, u69, u70, u71, u72, u73, u74, u75, u76, u77, u78, u79, rfl, hb, g0, g1, g2, g3, g4, g5, g6, g7, g8, g9, g10, g11, g12, g13, g14, g15⟩
      obtain ⟨N, rfl, _, _⟩ := g13 rfl
      obtain ⟨err, rfl, her⟩ := g15 rfl
      have HBF := Lib.hid (bst HBw.out hb)
      clear g0 g1 g2 g3 g4 g5 g6 g7 g8 g9 g10 g11 g12 g13 g14 g15 hb
      go_wp2_with fail
      refine (awake_any w9).mono ?_
      rintro _ w10 ⟨rfl, hb10⟩
      have HBG := Lib.hid (bst HBF.out hb10)
      clear hb10
      cases b with
      | true =>
        have t1 : (err == 16) = false := by rw [Bool.eq_false_iff]; intro h; exact her.1 (by simpa using h) (HFP.out.1 rfl)
        clear her
        go_wp2
        go_ret
        exact RetBe.mk_ rfl HBG.out
      | false =>
        have t1 : (err == 16) = true := by have := her.2 (fun h => by have := HFP.out.2 h; cases this); simpa using this
        clear her
        go_wp2
        go_ret
        exact RetBe.mk_ rfl HBG.out
end Go.Proofs.Ytoikgjhekemjdaa
