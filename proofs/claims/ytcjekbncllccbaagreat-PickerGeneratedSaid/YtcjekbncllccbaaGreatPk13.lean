/-
  The contract of law28.agrees.
-/
import Derived.Test.YtcjekbncllccbaaGreatPk12
import Derived.Test.YtcjekbncllccbaaGreatSameG
import Derived.Test.YtcjekbncllccbaaGreatBase
import Derived.Test.YtcjekbncllccbaaGreatPk9
namespace Go.Proofs.YtcjekbncllccbaaGreat
open Go.RowKit Go.Sort

theorem same_refl (l : List Int) : same l l = true := (same_yes rfl).symm
set_option maxRecDepth 100000 in
set_option maxHeartbeats 8000000 in
theorem agrees28_any (v : Value) (l : List Ent) (a b d y rows : Int) (w : World) (hs : Sl w 12 v l.length (ents l)) (h : Loose l) (hl : l.length ≤ 1000) :
    Calls Tryz.prog 6 #[.int .i64 1, v, .int .i64 a, .int .i64 b, .int .i64 d, .int .i64 y, .int .i64 rows] w (RetBe w true) := by
  obtain ⟨A, c, rfl, hc1, hc2⟩ := hs.form
  obtain ⟨S, hS⟩ : ∃ S, pairV 1 l (candR 1 l rows l.length) = S := ⟨_, rfl⟩
  obtain ⟨ck, hck⟩ : ∃ S, chkEs 1 l = S := ⟨_, rfl⟩
  obtain ⟨LR, hLR⟩ : ∃ S, l.map rgOf = S := ⟨_, rfl⟩
  obtain ⟨aj, haj⟩ : ∃ S, adjR 1 l a b = S := ⟨_, rfl⟩
  obtain ⟨KP, hKP⟩ : ∃ S, peakW 1 l d y = S := ⟨_, rfl⟩
  obtain ⟨KI, hKI⟩ : ∃ S, pickW 1 l d y rows = S := ⟨_, rfl⟩
  have hLRl : LR.length ≤ 1000 := by rw [← hLR, List.length_map]; exact hl
  have HPP := Lib.hid (fun X (hX : Below w.heap.size w X) => show Calls Tryz.prog 15 #[.int .i64 1, .slice A l.length c, .int .i64 rows] X (RetPair X S) by rw [← hS, ← h.pair]; exact ppair_any 1 _ l rows X (hs.below hX) h.small (by omega) h.live)
  have HRP := Lib.hid (fun X (hX : Below w.heap.size w X) => show Calls Tryz.prog 16 #[.int .i64 1, .slice A l.length c, .int .i64 rows] X (RetPair X S) by rw [← hS]; exact rpair_any 1 _ l rows X (hs.below hX) h.small (by omega) h.live (fun hc x hx z hz hb hm => adjR_E (h.asc hc) h.low hc hx hz hb hm))
  have HPC := Lib.hid (fun X (hX : Below w.heap.size w X) => show Calls Tryz.prog 17 #[.int .i64 1, .slice A l.length c] X (RetB1' X ck) by rw [← hck]; exact pcheck_any 1 _ l X (hs.below hX) h.small (by omega))
  have HRC := Lib.hid (fun X (hX : Below w.heap.size w X) => show Calls Tryz.prog 18 #[.int .i64 1, .slice A l.length c] X (RetB1' X ck) by rw [← hck]; exact rchkEs_any 1 _ l X (hs.below hX) h.small (by omega))
  have HPR := Lib.hid (fun X (hX : Below w.heap.size w X) => show Calls Tryz.prog 20 #[.slice A l.length c] X (RetRow X 43 8 LR.length (rngs LR)) by rw [← hLR]; exact pranges_any _ l X (hs.below hX) (by omega))
  have HRR := Lib.hid (fun X (hX : Below w.heap.size w X) => show Calls Tryz.prog 21 #[.slice A l.length c] X (RetRow X 43 8 LR.length (rngs LR)) by rw [← hLR]; exact rranges_any _ l X (hs.below hX) (by omega))
  have HPA := Lib.hid (fun X (hX : Below w.heap.size w X) => show Calls Tryz.prog 7 #[.int .i64 1, .slice A l.length c, .int .i64 a, .int .i64 b] X (RetBe X aj) by rw [← haj, ← h.adj]; exact padj_any 1 _ l a b X (hs.below hX) h.small (by omega))
  have HRA := Lib.hid (fun X (hX : Below w.heap.size w X) => show Calls Tryz.prog 8 #[.int .i64 1, .slice A l.length c, .int .i64 a, .int .i64 b] X (RetBe X aj) by rw [← haj]; exact radjacent_any 1 _ l a b X (hs.below hX) h.small (by omega))
  have HPK := Lib.hid (fun X (hX : Below w.heap.size w X) => show Calls Tryz.prog 23 #[.int .i64 1, .slice A l.length c, .int .i64 d, .int .i64 y] X (RetIds X KP) by rw [← hKP, ← h.peak]; exact peak_any 1 _ l d y X (hs.below hX) h.small (by omega))
  have HRK := Lib.hid (fun X (hX : Below w.heap.size w X) => show Calls Tryz.prog 24 #[.int .i64 1, .slice A l.length c, .int .i64 d, .int .i64 y] X (RetIds X KP) by rw [← hKP]; exact rpeak_any 1 _ l d y X (hs.below hX) h.small (by omega))
  have HPI := Lib.hid (fun X (hX : Below w.heap.size w X) => show Calls Tryz.prog 25 #[.int .i64 1, .slice A l.length c, .int .i64 d, .int .i64 y, .int .i64 rows] X (RetIds X KI) by rw [← hKI, ← h.pick]; exact pick28_any 1 _ l d y rows X (hs.below hX) h.small (by omega) h.live)
  have HRI := Lib.hid (fun X (hX : Below w.heap.size w X) => show Calls Tryz.prog 26 #[.int .i64 1, .slice A l.length c, .int .i64 d, .int .i64 y, .int .i64 rows] X (RetIds X KI) by rw [← hKI]; exact rpick_any _ l d y rows X (hs.below hX) h (by omega))
  clear hs h hS hck hLR haj hKP hKI
  have q1 : (ck == ck) = true := by simp
  have q2 : (aj == aj) = true := by simp
  obtain ⟨s1, hs1⟩ : ∃ q, (pairE S).1.id = q := ⟨_, rfl⟩
  obtain ⟨s2, hs2⟩ : ∃ q, (pairE S).2.id = q := ⟨_, rfl⟩
  obtain ⟨s3, hs3⟩ : ∃ q, S.isSome = q := ⟨_, rfl⟩
  unfold RetPair at HPP HRP
  rw [hs1, hs2, hs3] at HPP HRP
  clear hs1 hs2 hs3
  have q3 : (s1 == s1) = true := by simp
  have q4 : (s2 == s2) = true := by simp
  have q5 : (s3 == s3) = true := by simp
  go_enter Tryz.func6, Tryz.ntmps6
  go_wp2_with fail
  refine (HPP.out _ (Below.refl _ _)).mono ?_
  rintro _ w1 ⟨rfl, hb⟩
  have B1 := Lib.hid (hb)
  clear hb
  go_wp2_with fail
  refine (HRP.out _ B1.out).mono ?_
  rintro _ w2 ⟨rfl, hb⟩
  have B2 := Lib.hid (bst B1.out hb)
  clear hb
  go_wp2_with fail
  refine (HPC.out _ B2.out).mono ?_
  rintro _ w3 ⟨rfl, hb⟩
  have B3 := Lib.hid (bst B2.out hb)
  clear hb
  go_wp2_with fail
  refine (HRC.out _ B3.out).mono ?_
  rintro _ w4 ⟨rfl, hb⟩
  have B4 := Lib.hid (bst B3.out hb)
  clear hb
  go_wp2_with fail
  refine (HPR.out _ B4.out).mono ?_
  rintro _ w5 ⟨v5, rfl, hb, ho⟩
  have SA := Lib.hid (Sl.of_own ho)
  obtain ⟨A5, c5, rfl, _, _⟩ := (Sl.of_own ho).form
  clear ho
  have B5 := Lib.hid (bst B4.out hb)
  clear hb
  go_wp2_with fail
  refine (HRR.out _ B5.out).mono ?_
  rintro _ w6 ⟨v6, rfl, hb, ho⟩
  have SB := Lib.hid (Sl.of_own ho)
  obtain ⟨A6, c6, rfl, _, _⟩ := (Sl.of_own ho).form
  clear ho
  have B6 := Lib.hid (bst B5.out hb)
  have SA := Lib.hid (SA.out.below hb)
  clear hb
  have HQ := Lib.hid (sameG_any _ _ LR LR _ SA.out SB.out (by omega))
  rw [sameRgs_refl] at HQ
  go_wp2_with fail
  refine HQ.out.mono ?_
  rintro _ w7 ⟨rfl, ⟨k7, rfl⟩⟩
  obtain ⟨w7, hw7⟩ : ∃ q, w6.drewN k7 = q := ⟨_, rfl⟩
  have hb : Below w6.heap.size w6 w7 := by rw [← hw7]; exact below_drewN (Below.refl _ _) _
  simp only [hw7]
  clear HQ hw7
  have B7 := Lib.hid (bst B6.out hb)
  clear hb
  go_wp2_with fail
  refine (HPA.out _ B7.out).mono ?_
  rintro _ w8 ⟨rfl, hb⟩
  have B8 := Lib.hid (bst B7.out hb)
  clear hb
  go_wp2_with fail
  refine (HRA.out _ B8.out).mono ?_
  rintro _ w9 ⟨rfl, hb⟩
  have B9 := Lib.hid (bst B8.out hb)
  clear hb
  go_wp2_with fail
  refine (HPK.out _ B9.out).mono ?_
  rintro _ w10 ⟨v10, rfl, hb, ho, _⟩
  have SC := Lib.hid (Sl.of_own ho)
  obtain ⟨A10, c10, rfl, _, _⟩ := (Sl.of_own ho).form
  clear ho
  have B10 := Lib.hid (bst B9.out hb)
  clear hb
  go_wp2_with fail
  refine (HRK.out _ B10.out).mono ?_
  rintro _ w11 ⟨v11, rfl, hb, ho, _⟩
  have SD := Lib.hid (Sl.of_own ho)
  obtain ⟨A11, c11, rfl, _, _⟩ := (Sl.of_own ho).form
  clear ho
  have B11 := Lib.hid (bst B10.out hb)
  have SC := Lib.hid (SC.out.below hb)
  clear hb
  have HQ := Lib.hid (same_any _ _ KP KP _ SC.out SD.out)
  rw [same_refl] at HQ
  go_wp2_with fail
  refine HQ.out.mono ?_
  rintro _ w12 ⟨rfl, ⟨k12, rfl⟩⟩
  obtain ⟨w12, hw12⟩ : ∃ q, w11.drewN k12 = q := ⟨_, rfl⟩
  have hb : Below w11.heap.size w11 w12 := by rw [← hw12]; exact below_drewN (Below.refl _ _) _
  simp only [hw12]
  clear HQ hw12
  have B12 := Lib.hid (bst B11.out hb)
  clear hb
  go_wp2_with fail
  refine (HPI.out _ B12.out).mono ?_
  rintro _ w13 ⟨v13, rfl, hb, ho, _⟩
  have SE := Lib.hid (Sl.of_own ho)
  obtain ⟨A13, c13, rfl, _, _⟩ := (Sl.of_own ho).form
  clear ho
  have B13 := Lib.hid (bst B12.out hb)
  clear hb
  go_wp2_with fail
  refine (HRI.out _ B13.out).mono ?_
  rintro _ w14 ⟨v14, rfl, hb, ho, _⟩
  have SF := Lib.hid (Sl.of_own ho)
  obtain ⟨A14, c14, rfl, _, _⟩ := (Sl.of_own ho).form
  clear ho
  have B14 := Lib.hid (bst B13.out hb)
  have SE := Lib.hid (SE.out.below hb)
  clear hb
  have HQ := Lib.hid (same_any _ _ KI KI _ SE.out SF.out)
  rw [same_refl] at HQ
  go_wp2_with fail
  refine HQ.out.mono ?_
  rintro _ w15 ⟨rfl, ⟨k15, rfl⟩⟩
  obtain ⟨w15, hw15⟩ : ∃ q, w14.drewN k15 = q := ⟨_, rfl⟩
  have hb : Below w14.heap.size w14 w15 := by rw [← hw15]; exact below_drewN (Below.refl _ _) _
  simp only [hw15]
  clear HQ hw15
  have B15 := Lib.hid (bst B14.out hb)
  clear hb
  go_wp2
  go_ret
  exact RetBe.mk_ rfl B15.out
end Go.Proofs.YtcjekbncllccbaaGreat
