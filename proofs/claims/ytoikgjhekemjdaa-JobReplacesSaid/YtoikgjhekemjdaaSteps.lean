/-
  The contracts of job.Writes, job.Steps and of the statements' helper awake.
-/
import Derived.Test.YtoikgjhekemjdaaOuts
import Derived.Test.YtoikgjhekemjdaaReads
import Derived.Test.YtoikgjhekemjdaaSame
namespace Go.Proofs.Ytoikgjhekemjdaa
open Go.RowKit
set_option maxHeartbeats 400000 in
theorem writes_any (live rows b : Int) (w : World) (hb : b ≤ 9223372036854775807) :
    Calls Try.prog 80 #[.int .i64 live, .int .i64 rows, .int .i64 b] w (RetLL w 36 3 (reads (outs live rows) b)) := by
  have hl := outs_length live rows
  go_enter Try.func80, Try.ntmps80
  go_wp2_with fail
  refine (outs_any _ _ _).mono ?_
  rintro e w1 ⟨v, rfl, hbel, hown⟩
  go_wp2_with fail
  refine (reads_any v (outs live rows) b w1 (Sl.of_own hown) (by omega) hb).mono ?_
  rintro e w2 ⟨v2, vs, rfl, hbel2, hown2, hll⟩
  go_wp2
  go_ret
  exact ⟨v2, vs, rfl, bst hbel hbel2, own_mono hown2 hbel.size, ⟨hll.len, fun j u g hu hg => own_mono (hll.rows j u g hu hg) hbel.size⟩⟩
/-- The call answers the number x; nothing that was there has turned. -/
def RetInt (w : World) (x : Int) (e : Ending) (w' : World) : Prop := e = .returned (.int .i64 x) ∧ Below w.heap.size w w'
def RetBool (w : World) (x : Bool) (e : Ending) (w' : World) : Prop := e = .returned (.bool x) ∧ Below w.heap.size w w'
def steps (rs : List Int) (live size b : Int) : Int := (reads rs b).length + (reads (outs live size) b).length + 1
theorem reads_length (zs : List Int) (b : Int) : (reads zs b).length ≤ zs.length := by
  unfold reads
  split
  · simp
  · rename_i h
    rw [List.any_eq_true] at h
    have hgood : ∀ (k : Nat) (x : Int), zs[k]? = some x → 1 ≤ x ∧ x ≤ 1024 ∧ x ≤ b := by
      intro k x hx
      have : ¬ badRow b x = true := fun hb => h ⟨x, List.mem_of_getElem? hx, hb⟩
      simp [badRow] at this
      omega
    rcases Nat.eq_zero_or_pos zs.length with h0 | h0
    · rw [h0]; simp [grp]
    · have := hgood 0 zs[0] (List.getElem?_eq_getElem h0)
      exact (grp_bounds (by omega) zs.length (fun j y _ hy => hgood j y hy) (Nat.le_refl _)).2.2
set_option maxHeartbeats 400000 in
theorem steps_any (v : Value) (zs : List Int) (live size b : Int) (w : World) (hs : Sl w 1 v zs.length (ints zs)) (hl : zs.length ≤ 5000000000000) (hb : b ≤ 9223372036854775807) :
    Calls Try.prog 63 #[v, .int .i64 live, .int .i64 size, .int .i64 b] w (RetInt w (steps zs live size b)) := by
  have h1 := reads_length zs b
  have h2 := reads_length (outs live size) b
  have h3 := outs_length live size
  obtain ⟨A, c, rfl, _, _⟩ := hs.form
  go_enter Try.func63, Try.ntmps63
  go_wp2_with fail
  refine (reads_any _ zs b w hs hl hb).mono ?_
  rintro e w1 ⟨v1, vs, rfl, hbel, hown, hll⟩
  obtain ⟨A1, c1, rfl, _, _⟩ := (Sl.of_own hown).form
  go_wp2_with fail
  refine (writes_any live size b w1 hb).mono ?_
  rintro e w2 ⟨v2, vs2, rfl, hbel2, hown2, hll2⟩
  obtain ⟨A2, c2, rfl, _, _⟩ := (Sl.of_own hown2).form
  go_wp2
  go_ret
  exact ⟨rfl, bst hbel hbel2⟩
/-- A literal row of integers, just made. -/
theorem lit_ints (w : World) (t : TypeId) (l : List Int) (hl : l.length ≤ 1000) : (w.alloc (.cells (ints l).toArray t)).ownsRow w.heap.size t 1 (.slice (some ⟨w.heap.size, 0, none⟩) l.length l.length) l.length (ints l) := by
  have := World.ownsRow_lit (e := t) (size := 1) w (ints l).toArray l.length (Nat.le_refl _) (by unfold maxLen; omega) (by simp [ints])
  simpa using this
theorem lit_sl (w : World) (t : TypeId) (l : List Int) (hl : l.length ≤ 1000) : Sl (w.alloc (.cells (ints l).toArray t)) 1 (.slice (some ⟨w.heap.size, 0, none⟩) l.length l.length) l.length (ints l) := Sl.of_own (lit_ints w t l hl)
def litW (w : World) (tO tI : TypeId) (a b : List Int) : World :=
  ((w.alloc (.cells (ints a).toArray tI)).alloc (.cells (ints b).toArray tI)).alloc (.cells #[.slice (some ⟨w.heap.size, 0, none⟩) a.length a.length, .slice (some ⟨w.heap.size + 1, 0, none⟩) b.length b.length] tO)
theorem litW_below (w : World) (tO tI : TypeId) (a b : List Int) : Below w.heap.size w (litW w tO tI a b) :=
  (((Below.refl _ _).alloc (Nat.le_refl _) _).alloc (by simp) _).alloc (by simp; omega) _
theorem litW_sl (w : World) (tO tI : TypeId) (a b : List Int) : Sl (litW w tO tI a b) 1 (.slice (some ⟨w.heap.size + 1 + 1, 0, none⟩) 2 2) 2 [.slice (some ⟨w.heap.size, 0, none⟩) a.length a.length, .slice (some ⟨w.heap.size + 1, 0, none⟩) b.length b.length] := by
  have := World.ownsRow_lit (e := tO) (size := 1) ((w.alloc (.cells (ints a).toArray tI)).alloc (.cells (ints b).toArray tI)) #[.slice (some ⟨w.heap.size, 0, none⟩) a.length a.length, .slice (some ⟨w.heap.size + 1, 0, none⟩) b.length b.length] 2 (Nat.le_refl _) (by simp [maxLen]) rfl
  have h2 := Sl.of_own this
  simpa [litW] using h2
theorem litW_rl (w : World) (tO tI : TypeId) (a b : List Int) (ha : a.length ≤ 1000) (hb : b.length ≤ 1000) : RL (litW w tO tI a b) [.slice (some ⟨w.heap.size, 0, none⟩) a.length a.length, .slice (some ⟨w.heap.size + 1, 0, none⟩) b.length b.length] [a, b] := by
  have h1 := ((lit_sl w tI a ha).alloc (.cells (ints b).toArray tI)).alloc (.cells #[.slice (some ⟨w.heap.size, 0, none⟩) a.length a.length, .slice (some ⟨w.heap.size + 1, 0, none⟩) b.length b.length] tO)
  have h2 := (lit_sl (w.alloc (.cells (ints a).toArray tI)) tI b hb).alloc (.cells #[.slice (some ⟨w.heap.size, 0, none⟩) a.length a.length, .slice (some ⟨w.heap.size + 1, 0, none⟩) b.length b.length] tO)
  refine ⟨rfl, fun j u g hu hg => ?_⟩
  match j, hu, hg with
  | 0, hu, hg => simp at hu hg; subst hu; subst hg; exact h1
  | 1, hu, hg =>
    simp at hu hg; subst hu; subst hg
    have e : (w.alloc (.cells (ints a).toArray tI)).heap.size = w.heap.size + 1 := by simp
    rw [e] at h2
    exact h2
set_option maxHeartbeats 400000 in
theorem awake_any (w : World) : Calls Try.prog 35 #[] w (RetBool w true) := by
  have hR : reads [3, 2, 4] 5 = [[0, 1], [2]] := by decide
  have hS : steps [3, 2, 4] 7 3 5 = 5 := by decide
  have hT : sameL [[0, 1], [2]] [[0, 1], [2]] = true := by decide
  have HR := Lib.hid hR
  have HS := Lib.hid hS
  have HT := Lib.hid hT
  clear hR hS hT
  go_enter Try.func35, Try.ntmps35
  go_wp2_with fail
  refine (reads_any _ [3, 2, 4] 5 _ (lit_sl w 3 [3, 2, 4] (by decide)) (by decide) (by decide)).mono ?_
  rw [HR.out]
  rintro e w1 ⟨v1, vs, rfl, hbel, hown, hll⟩
  have hb1 : Below w.heap.size w w1 := bst ((Below.refl _ _).alloc (Nat.le_refl _) _) hbel
  obtain ⟨A1, c1, rfl, _, _⟩ := (Sl.of_own hown).form
  go_wp2_with fail
  have hb2 := litW_below w1 36 3 [0, 1] [2]
  refine (sameL_any _ _ vs _ [[0, 1], [2]] [[0, 1], [2]] (litW w1 36 3 [0, 1] [2]) ((Sl.of_own hown).below hb2) (litW_sl w1 _ _ _ _) (hll.rl.below hb2) (litW_rl w1 _ _ _ _ (by decide) (by decide))).mono ?_
  rw [HT.out]
  rintro e w2 ⟨rfl, n, hw2⟩
  have hb3 : Below w.heap.size w w2 := by rw [hw2]; exact below_drewN (bst hb1 hb2) n
  clear hw2
  go_wp2_with fail
  refine (steps_any _ [3, 2, 4] 7 3 5 _ (lit_sl w2 3 [3, 2, 4] (by decide)) (by decide) (by decide)).mono ?_
  rw [HS.out]
  rintro e w3 ⟨rfl, hb4⟩
  go_wp2
  go_ret
  exact ⟨rfl, bst (hb3.alloc hb3.size _) hb4⟩
end Go.Proofs.Ytoikgjhekemjdaa
