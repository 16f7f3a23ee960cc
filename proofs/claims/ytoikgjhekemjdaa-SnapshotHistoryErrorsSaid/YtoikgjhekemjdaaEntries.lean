/-
  The contracts of ref18.entries, ref18.CheckSnapshot and snapshot.Check.
-/
import Derived.Test.YtoikgjhekemjdaaEntry
import Derived.Test.YtoikgjhekemjdaaSrcMem
import Derived.Deep.QuietTactic
import Derived.BigQuiet
namespace Go.Proofs.Ytoikgjhekemjdaa
open Go.RowKit Go.Sort
/-- A known element of a read slice of entries: its address and its cells. -/
theorem Sl.ent_at {w : World} {A : Option Addr} {c k : Nat} {l : List Ent} {n : Nat} (h : Sl w 12 (.slice A n c) n (ents l)) (hn : n = l.length) (hk : k < n) : ∃ ad e, A = some ad ∧ l[k]? = some e ∧ ∀ j u, e.cells[j]? = some u → w.cell? (ad.add (k * 12 + j)) = some u := by
  obtain ⟨A', c', e0, h1, h2, h3, h4⟩ := h
  injection e0 with e1 e2 e3
  subst e1
  obtain ⟨ad, e, hb, hc⟩ := h4 (by omega)
  have hl : k < l.length := by omega
  refine ⟨ad, l[k], e, List.getElem?_eq_getElem hl, fun j u hu => ?_⟩
  have hj : j < 12 := by have := (List.getElem?_eq_some_iff.1 hu).1; rwa [Ent.cells_length] at this
  exact hc _ u ((ents_get (List.getElem?_eq_getElem hl) hj).trans hu)
/-- Entry e lies at p. -/
structure EntAt (w : World) (p : Addr) (e : Ent) : Prop where
  lt : p.block < w.heap.size
  c0 : w.cell? p = some (.int .i64 e.id)
  c1 : w.cell? { block := p.block, off := p.off + 1 } = some (.int .i64 e.rows)
  c2 : w.cell? { block := p.block, off := p.off + 2 } = some (.int .i64 e.live)
  c3 : w.cell? { block := p.block, off := p.off + 3 } = some (.bool e.lo.null)
  c4 : w.cell? { block := p.block, off := p.off + 4 } = some (.int .i64 e.lo.n)
  c5 : w.cell? { block := p.block, off := p.off + 5 } = some (.string e.lo.s)
  c6 : w.cell? { block := p.block, off := p.off + 6 } = some (.int .i64 e.lo.seq)
  c7 : w.cell? { block := p.block, off := p.off + 7 } = some (.bool e.hi.null)
  c8 : w.cell? { block := p.block, off := p.off + 8 } = some (.int .i64 e.hi.n)
  c9 : w.cell? { block := p.block, off := p.off + 9 } = some (.string e.hi.s)
  c10 : w.cell? { block := p.block, off := p.off + 10 } = some (.int .i64 e.hi.seq)
  c11 : w.cell? { block := p.block, off := p.off + 11 } = some (.int .i64 e.del)
theorem EntAt.keep {w w' : World} {p : Addr} {e : Ent} (h : EntAt w p e) (hs : w.heap.size ≤ w'.heap.size) (hk : ∀ q : Addr, q.block < w.heap.size → w'.cell? q = w.cell? q) : EntAt w' p e :=
  have k := h.lt
  ⟨by omega, (hk _ k).trans h.c0, (hk ⟨p.block, p.off + 1, none⟩ k).trans h.c1, (hk ⟨p.block, p.off + 2, none⟩ k).trans h.c2, (hk ⟨p.block, p.off + 3, none⟩ k).trans h.c3, (hk ⟨p.block, p.off + 4, none⟩ k).trans h.c4, (hk ⟨p.block, p.off + 5, none⟩ k).trans h.c5, (hk ⟨p.block, p.off + 6, none⟩ k).trans h.c6, (hk ⟨p.block, p.off + 7, none⟩ k).trans h.c7, (hk ⟨p.block, p.off + 8, none⟩ k).trans h.c8, (hk ⟨p.block, p.off + 9, none⟩ k).trans h.c9, (hk ⟨p.block, p.off + 10, none⟩ k).trans h.c10, (hk ⟨p.block, p.off + 11, none⟩ k).trans h.c11⟩
theorem EntAt.below {w w' : World} {p : Addr} {e : Ent} (h : EntAt w p e) (hb : Below w.heap.size w w') : EntAt w' p e := h.keep hb.size fun _ hq => hb.cell hq
theorem EntAt.of_blk {w : World} {g : Nat} {t : TypeId} {e : Ent} (h : Blk w g t e.cells.toArray) : EntAt w ⟨g, 0, none⟩ e :=
  ⟨h.lt, h.cell 0, h.cell 1, h.cell 2, h.cell 3, h.cell 4, h.cell 5, h.cell 6, h.cell 7, h.cell 8, h.cell 9, h.cell 10, h.cell 11⟩
theorem add_off (a : Addr) (i j : Nat) (hj : 0 < j) : a.add (i + j) = { block := (a.add i).block, off := (a.add i).off + j } := by
  rw [← add_of_add]
  generalize a.add i = p
  unfold Addr.add
  rw [if_neg (by omega)]
theorem Sl.ent_load {w : World} {A : Option Addr} {c k : Nat} {l : List Ent} {n : Nat} (h : Sl w 12 (.slice A n c) n (ents l)) (hn : n = l.length) (hk : k < n) : ∃ ad e p, A = some ad ∧ l[k]? = some e ∧ ad.add (k * 12) = p ∧ EntAt w p e := by
  obtain ⟨ad, e, rfl, he, hc⟩ := h.ent_at hn hk
  refine ⟨ad, e, _, rfl, he, rfl, ?_⟩
  have h0 := hc 0 _ rfl
  rw [Nat.add_zero] at h0
  have hj : ∀ j u, 0 < j → e.cells[j]? = some u → w.cell? { block := (ad.add (k * 12)).block, off := (ad.add (k * 12)).off + j } = some u := fun j u h1 h2 => by rw [← add_off _ _ _ h1]; exact hc j u h2
  exact ⟨World.block_lt_of_cell? w _ h0, h0, hj 1 _ (by omega) rfl, hj 2 _ (by omega) rfl, hj 3 _ (by omega) rfl, hj 4 _ (by omega) rfl, hj 5 _ (by omega) rfl, hj 6 _ (by omega) rfl, hj 7 _ (by omega) rfl, hj 8 _ (by omega) rfl, hj 9 _ (by omega) rfl, hj 10 _ (by omega) rfl, hj 11 _ (by omega) rfl⟩
def Ent.small (e : Ent) : Prop := e.lo.s.size ≤ 9223372036854775807 ∧ e.hi.s.size ≤ 9223372036854775807
theorem rentry_b (e : Ent) (hs : e.small) {b : Bool} (hb : e.okB = b) (w : World) : Calls Try.prog 93 #[.agg #[.int .i64 e.id, .int .i64 e.rows, .int .i64 e.live, .bool e.lo.null, .int .i64 e.lo.n, .string e.lo.s, .int .i64 e.lo.seq, .bool e.hi.null, .int .i64 e.hi.n, .string e.hi.s, .int .i64 e.hi.seq, .int .i64 e.del]] w (RetB1' w b) := by subst hb; exact rentry_any e w hs.1 hs.2
theorem entry_b (e : Ent) (hs : e.small) {b : Bool} (hb : e.okB = b) (w : World) : Calls Try.prog 51 #[.agg #[.int .i64 e.id, .int .i64 e.rows, .int .i64 e.live, .bool e.lo.null, .int .i64 e.lo.n, .string e.lo.s, .int .i64 e.lo.seq, .bool e.hi.null, .int .i64 e.hi.n, .string e.hi.s, .int .i64 e.hi.seq, .int .i64 e.del]] w (RetB1' w b) := by subst hb; exact entry_any e w hs.1 hs.2
theorem reg_bb {P : Program} {f : FuncId} {args : Array Value} {w : World} {b : Bool} (h : ∀ W, Calls P f args W (RetB1' W b)) : ∀ d os, Calls P f args (grow (redrawn w d) os) fun e w'' => e = .returned (.bool b) ∧ ∃ p : Regrown, w'' = grow (redrawn w p.d) p.os :=
  fun d os => Calls.regrown_of ((h (grow (redrawn w d) os)).mono fun _ _ h => h)
/-- The cells of an entry in every world that has only grown. -/
theorem EntAt.regrown {w : World} {p : Addr} {e : Ent} (h : EntAt w p e) (d : Nat) (os : Array Obj) : EntAt (grow (redrawn w d) os) p e := h.below (below_regrown w d os)
theorem okAt_false {l : List Ent} {k : Nat} {e : Ent} (he : l[k]? = some e) (h : e.okB = false) : okAt l k = false := by rw [okAt_get he, h]; rfl
theorem okAt_asc {l : List Ent} {m : Nat} {a b : Ent} {t : Bool} (ha : l[m]? = some a) (hb : l[m + 1]? = some b) (h : b.okB = true) (ht : decide (a.id < b.id) = t) : okAt l (m + 1) = t := by rw [okAt_get hb, h, ascAt_succ ha hb, ht]; rfl
theorem okAt_first {l : List Ent} {b : Ent} (hb : l[0]? = some b) (h : b.okB = true) : okAt l 0 = true := by rw [okAt_get hb, h]; rfl
theorem allTo_next {f : Nat → Bool} {k : Nat} (h : allTo f k = true) (h' : f k = true) : allTo f (k + 1) = true := by simp [allTo, h, h']
set_option maxRecDepth 100000 in
set_option maxHeartbeats 4000000 in
theorem rentries_any (v : Value) (l : List Ent) (w : World) (hs : Sl w 12 v l.length (ents l)) (hw : ∀ e ∈ l, e.small) (hl : l.length ≤ 9223372036854775807) : Calls Try.prog 71 #[v] w (RetB1' w (entsB l)) := by
  obtain ⟨A, c, rfl, hc1, hc2⟩ := hs.form
  unfold maxLen at hc2
  go_enter Try.func71, Try.ntmps71
  go_wp2
  go_loopw [7] (fun i wr => ∃ k : Nat, i = .int .i64 k ∧ k ≤ l.length ∧ allTo (okAt l) k = true ∧ Below w.heap.size w wr) (fun i _ => l.length - (intOf i).toNat)
  case atStart => exact ⟨0, rfl, Nat.zero_le _, rfl, Below.refl _ _⟩
  case round =>
    obtain ⟨k, rfl, hk, hall, hb⟩ := hrel
    by_cases hlt : k < l.length
    · obtain ⟨ad, e, p, rfl, he, hp, hE⟩ := (hs.below hb).ent_load rfl hlt
      have HA := Lib.hid hall
      have HB := Lib.hid hb
      have HS := Lib.hid hE
      obtain ⟨hplt, c0, c1, c2, c3, c4, c5, c6, c7, c8, c9, c10, c11⟩ := hE
      clear hall hb
      have hesm := hw e (List.mem_of_getElem? he)
      obtain ⟨W, hW⟩ : ∃ W, W = wr.alloc (.cells e.cells.toArray 34) := ⟨_, rfl⟩
      have HBW := Lib.hid (show Below w.heap.size w W by rw [hW]; exact HB.out.alloc HB.out.size _)
      have hE2 : EntAt W ⟨wr.heap.size, 0, none⟩ e := EntAt.of_blk (by rw [hW]; exact Blk.new _ _ _)
      have f0 := fun d os => (hE2.regrown d os).c0
      have f1 := fun d os => (hE2.regrown d os).c1
      have f2 := fun d os => (hE2.regrown d os).c2
      have f3 := fun d os => (hE2.regrown d os).c3
      have f4 := fun d os => (hE2.regrown d os).c4
      have f5 := fun d os => (hE2.regrown d os).c5
      have f6 := fun d os => (hE2.regrown d os).c6
      have f7 := fun d os => (hE2.regrown d os).c7
      have f8 := fun d os => (hE2.regrown d os).c8
      have f9 := fun d os => (hE2.regrown d os).c9
      have f10 := fun d os => (hE2.regrown d os).c10
      have f11 := fun d os => (hE2.regrown d os).c11
      clear hE2
      by_cases hok : e.okB = true
      · have A1 := Lib.hid (reg_bb (w := W) (fun X => rentry_b e hesm hok X))
        rcases k with _ | m
        · have HN := Lib.hid (allTo_next HA.out (okAt_first he hok))
          clear hok he
          unfold Ent.cells at hW
          go_wp2_with fail
          rw [← hW]
          clear hW
          refine wp_region_quiet_below (by kernel_rfl) (by kernel_rfl) ?_
          repeat (go_big_quiet_step ((first | (with_reducible exact A1.out _ _))))
          refine wpQuiet_nil ?_
          intro _ hw'
          obtain ⟨⟨dq, osq⟩, hw''⟩ := hw'
          subst hw''
          go_wp2
          go_roundw
          case rel => exact ⟨1, rfl, by omega, HN.out, bst HBW.out (below_regrown W dq osq)⟩
          case measure => simp [intOf]; omega
        · obtain ⟨ad', a, p', hA', ha, hp', hE'⟩ := (hs.below HB.out).ent_load rfl (show m < l.length by omega)
          cases hA'
          have hE3 : EntAt W p' a := by rw [hW]; exact hE'.below ((Below.refl _ _).alloc (Nat.le_refl _) _)
          have g0 := fun d os => (hE3.regrown d os).c0
          clear hE' hE3
          by_cases hlt2 : a.id < e.id
          · have HN := Lib.hid (allTo_next HA.out (okAt_asc ha he hok (t := true) (by simpa using hlt2)))
            clear hok he ha
            unfold Ent.cells at hW
            go_wp2_with fail
            rw [← hW]
            clear hW
            refine wp_region_quiet_below (by kernel_rfl) (by kernel_rfl) ?_
            repeat (go_big_quiet_step ((first | (with_reducible exact A1.out _ _))))
            refine wpQuiet_nil ?_
            intro _ hw'
            obtain ⟨⟨dq, osq⟩, hw''⟩ := hw'
            subst hw''
            go_wp2
            go_roundw
            case rel => exact ⟨m + 2, by go_num, by omega, HN.out, bst HBW.out (below_regrown W dq osq)⟩
            case measure => simp [intOf]; omega
          · have HN := Lib.hid (show entsB l = false from allTo_false hlt (okAt_asc ha he hok (t := false) (by simpa using hlt2)))
            clear hok he ha
            unfold Ent.cells at hW
            go_wp2_with fail
            rw [← hW]
            clear hW
            refine wp_region_quiet_below (by kernel_rfl) (by kernel_rfl) ?_
            repeat (go_big_quiet_step ((first | (with_reducible exact A1.out _ _))))
            refine wpQuiet_nil ?_
            intro _ hw'
            obtain ⟨⟨dq, osq⟩, hw''⟩ := hw'
            subst hw''
            go_wp2
            go_ret
            exact ⟨ret_bool HN.out.symm, bst HBW.out (below_regrown W dq osq)⟩
      · have hok' : e.okB = false := by simpa using hok
        have A1 := Lib.hid (reg_bb (w := W) (fun X => rentry_b e hesm hok' X))
        have HN := Lib.hid (show entsB l = false from allTo_false hlt (okAt_false he hok'))
        clear hok hok' he
        unfold Ent.cells at hW
        go_wp2_with fail
        rw [← hW]
        clear hW
        refine wp_region_quiet_below (by kernel_rfl) (by kernel_rfl) ?_
        repeat (go_big_quiet_step ((first | (with_reducible exact A1.out _ _))))
        refine wpQuiet_nil ?_
        intro _ hw'
        obtain ⟨⟨dq, osq⟩, hw''⟩ := hw'
        subst hw''
        go_wp2
        go_ret
        exact ⟨ret_bool HN.out.symm, bst HBW.out (below_regrown W dq osq)⟩
    · obtain rfl : k = l.length := by omega
      have HN := Lib.hid (show entsB l = true from hall)
      have HB := Lib.hid hb
      clear hall hb
      go_wp2
      go_ret
      exact ⟨ret_bool HN.out.symm, HB.out⟩
end Go.Proofs.Ytoikgjhekemjdaa
