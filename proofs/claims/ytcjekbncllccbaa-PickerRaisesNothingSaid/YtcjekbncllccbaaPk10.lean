/-
  The contract of law28.chosen.
-/
import Derived.Test.YtcjekbncllccbaaPk8
namespace Go.Proofs.Ytcjekbncllccbaa
open Go.RowKit Go.Sort

def oneE (e : Ent) (ids : List Int) : List Ent := (ids.filter fun i => decide (e.id = i)).map fun _ => e
def chosenE (l : List Ent) (ids : List Int) : List Ent := l.flatMap fun e => oneE e ids
theorem oneE_next {e : Ent} {ids : List Int} {n : Nat} {i : Int} (h : ids[n]? = some i) : oneE e (ids.take (n + 1)) = oneE e (ids.take n) ++ (if e.id = i then [e] else []) := by
  unfold oneE
  rw [List.take_add_one, h, List.filter_append, List.map_append, Option.toList_some]
  congr 1
  by_cases hi : e.id = i <;> simp [hi]
theorem chosenE_next {l : List Ent} {ids : List Int} {m : Nat} {e : Ent} (h : l[m]? = some e) : chosenE (l.take (m + 1)) ids = chosenE (l.take m) ids ++ oneE e ids := by
  unfold chosenE
  rw [List.take_add_one, h, List.flatMap_append, Option.toList_some]
  simp
theorem oneE_len (e : Ent) (ids : List Int) : (oneE e ids).length ≤ ids.length := by
  unfold oneE; rw [List.length_map]; exact List.length_filter_le _ _
theorem chosenE_len (l : List Ent) (ids : List Int) : (chosenE l ids).length ≤ l.length * ids.length := by
  induction l with
  | nil => simp [chosenE]
  | cons e r ih =>
    have h1 := oneE_len e ids
    have e1 : chosenE (e :: r) ids = oneE e ids ++ chosenE r ids := by simp [chosenE]
    rw [e1, List.length_append, List.length_cons, Nat.add_mul]; omega
theorem oneE_take_len (e : Ent) (ids : List Int) (n : Nat) : (oneE e (ids.take n)).length ≤ ids.length := Nat.le_trans (oneE_len _ _) (by rw [List.length_take]; omega)
set_option maxRecDepth 100000 in
set_option maxHeartbeats 8000000 in
theorem chosen28_any (v u : Value) (l : List Ent) (ids : List Int) (w : World) (hs : Sl w 12 v l.length (ents l)) (hi : Sl w 1 u ids.length (ints ids)) (hl : l.length ≤ 1000) (hil : ids.length ≤ 100) :
    Calls Try.prog 16 #[v, u] w (RetRow w 41 12 (chosenE l ids).length (ents (chosenE l ids))) := by
  obtain ⟨A, c, rfl, hc1, hc2⟩ := hs.form
  obtain ⟨A', c', rfl, hd1, hd2⟩ := hi.form
  have HS := Lib.hid hs
  have HI := Lib.hid hi
  clear hs hi
  go_enter Try.func16, Try.ntmps16
  go_wp2
  go_loopw [5, 12] (fun v i wr => ∃ (m : Nat) (cs : List Ent), m ≤ l.length ∧ i = .int .i64 m ∧ cs.length ≤ m * 100 ∧ Hid (cs = chosenE (l.take m) ids) ∧ wr.ownsRow w.heap.size 41 12 v cs.length (ents cs) ∧ Below w.heap.size w wr) (fun _ i _ => l.length - (intOf i).toNat)
  case atStart => exact ⟨0, [], by omega, rfl, by simp, Lib.hid rfl, World.ownsRow_nil _ _ _ _, Below.refl _ _⟩
  case round =>
    obtain ⟨m, cs, hm, rfl, hcl, hcs, hown, hbel⟩ := hrel
    by_cases hlt : m < l.length
    · obtain ⟨ad, e, pe, rfl, he, hpe, hE⟩ := (HS.out.below hbel).ent_load rfl hlt
      obtain ⟨hplt, c0, c1, c2, c3, c4, c5, c6, c7, c8, c9, c10, c11⟩ := hE
      have HNX := Lib.hid (chosenE_next (ids := ids) he)
      have HMT := Lib.hid hlt
      have qm : decide (m < l.length) = true := by simpa using hlt
      obtain ⟨N, hN⟩ : ∃ N, wr.heap.size = N := ⟨_, rfl⟩
      obtain ⟨U, hU⟩ : ∃ U, U = wr.alloc (.cells #[.int .i64 e.id, .int .i64 e.rows, .int .i64 e.live, .bool e.lo.null, .int .i64 e.lo.n, .string e.lo.s, .int .i64 e.lo.seq, .bool e.hi.null, .int .i64 e.hi.n, .string e.hi.s, .int .i64 e.hi.seq, .int .i64 e.del] 41) := ⟨_, rfl⟩
      have hbU : Below wr.heap.size wr U := by rw [hU]; exact abel _ _
      have UE := Lib.hid (show Blk U N 41 #[.int .i64 e.id, .int .i64 e.rows, .int .i64 e.live, .bool e.lo.null, .int .i64 e.lo.n, .string e.lo.s, .int .i64 e.lo.seq, .bool e.hi.null, .int .i64 e.hi.n, .string e.hi.s, .int .i64 e.hi.seq, .int .i64 e.del] by rw [hU, ← hN]; exact Blk.new _ _ _)
      have HNB := Lib.hid (show ∀ b, u5.ownBlock = some b → b ≠ N from fun b hb => by have := (hown.lt b hb).2; omega)
      have UO := Lib.hid (own_below hown hbU)
      have UB := Lib.hid (hbel.trans (hbU.mono hbel.size))
      have HCL := Lib.hid hcl
      clear he hbU hown hbel hcl
      go_upto_region 5 with (fail)
      rw [← hU]
      try simp only [hN]
      clear hU hN c0 c1 c2 c3 c4 c5 c6 c7 c8 c9 c10 c11 hpe hplt
      obtain ⟨w0r, hw0r⟩ : ∃ q : World, q = wr := ⟨_, rfl⟩
      go_wp2
      go_loopw [5, 18] (fun v i wi => ∃ (n : Nat) (ds : List Ent), n ≤ ids.length ∧ i = .int .i64 n ∧ ds.length ≤ m * 100 + n ∧ Hid (ds = cs ++ oneE e (ids.take n)) ∧ Hid (∀ b, v.ownBlock = some b → b ≠ N) ∧ wi.ownsRow w.heap.size 41 12 v ds.length (ents ds) ∧ Blk wi N 41 #[.int .i64 e.id, .int .i64 e.rows, .int .i64 e.live, .bool e.lo.null, .int .i64 e.lo.n, .string e.lo.s, .int .i64 e.lo.seq, .bool e.hi.null, .int .i64 e.hi.n, .string e.hi.s, .int .i64 e.hi.seq, .int .i64 e.del] ∧ Below w.heap.size w wi) (fun _ i _ => ids.length - (intOf i).toNat)
      case atStart => exact ⟨0, cs, by omega, rfl, by have := HCL.out; omega, Lib.hid (by simp [oneE]), HNB, UO.out, UE.out, UB.out⟩
      case round =>
        obtain ⟨n, ds, hn, rfl, hdl, hds, hnb, hown, bE, hbel⟩ := hrel
        by_cases hlt2 : n < ids.length
        · obtain ⟨ad2, i, rfl, hix, hcell⟩ := (HI.out.below hbel).int_at hlt2
          have HNY := Lib.hid (oneE_next (e := e) hix)
          have HNT := Lib.hid hlt2
          have qn : decide (n < ids.length) = true := by simpa using hlt2
          have HDL := Lib.hid hdl
          have VO := Lib.hid hown
          have VE := Lib.hid bE
          have VB := Lib.hid hbel
          clear hix hown bE hbel hdl
          have bb := VE.out
          have d0 := bb.cell 0
          have d1 := bb.cell 1
          have d2 := bb.cell 2
          have d3 := bb.cell 3
          have d4 := bb.cell 4
          have d5 := bb.cell 5
          have d6 := bb.cell 6
          have d7 := bb.cell 7
          have d8 := bb.cell 8
          have d9 := bb.cell 9
          have d10 := bb.cell 10
          have d11 := bb.cell 11
          simp only [List.getElem?_toArray, List.getElem?_cons_zero, List.getElem?_cons_succ] at d0 d1 d2 d3 d4 d5 d6 d7 d8 d9 d10 d11
          clear bb
          by_cases hid : e.id = i
          · have HN := Lib.hid (show ds ++ [e] = cs ++ oneE e (ids.take (n + 1)) by rw [HNY.out, if_pos hid, hds.out, List.append_assoc])
            have q1 : (e.id == i) = true := by simpa using hid
            obtain ⟨R, hR⟩ : ∃ R, ds.length = R := ⟨_, rfl⟩
            have HRR := Lib.hid hR
            have hrn : R < 1000000 := by have := HDL.out; have := HMT.out; omega
            have hO := VO.out
            have hB := VB.out
            simp only [hR] at hO
            try simp only [hR]
            clear hR hid
            have hsz := hB.size
            go_wp2_with (at_builtin; go_must (refine app1 _ _ hO hB (Nat.le_refl _) hsz under_entry info_entry rfl (by decide) rfl (one12 _ _ _ _ _ _ _ _ _ _ _ _) (by omega) (by omega) rfl rfl rfl rfl ?_))
            intro g' cap' w9 hown9 hbel9 hgr9 hob9
            have ZE := Lib.hid (VE.out.grown hgr9 (fun e => hnb.out N e rfl))
            have HNB9 := Lib.hid (show ∀ b, (Value.slice (some ⟨g', 0, none⟩) (R + 1) cap').ownBlock = some b → b ≠ N from fun b hb => by
              rcases hob9 with h | ⟨b', h, h'⟩
              · exact hnb.out b (h ▸ hb)
              · rw [h] at hb; injection hb with hb; have := VE.out.lt; omega)
            clear hO hB hsz
            go_wp2
            go_roundw
            case rel => exact ⟨n + 1, ds ++ [e], HNT.out, by go_num, by have := HDL.out; simp; omega, HN, HNB9, own_entsR HRR.out hown9, ZE.out, hbel9⟩
            case measure => have := HNT.out; simp [intOf]; omega
          · have HN := Lib.hid (show ds = cs ++ oneE e (ids.take (n + 1)) by rw [HNY.out, if_neg hid, List.append_nil]; exact hds.out)
            have q1 : (e.id == i) = false := by simpa using hid
            clear hid
            go_wp2
            go_roundw
            case rel => exact ⟨n + 1, ds, HNT.out, by go_num, by have := HDL.out; omega, HN, hnb, VO.out, VE.out, VB.out⟩
            case measure => have := HNT.out; simp [intOf]; omega
        · have HN := Lib.hid (show ds = chosenE (l.take (m + 1)) ids by rw [HNX.out, hds.out, ← hcs.out, show n = ids.length by omega, List.take_length])
          have HDL := Lib.hid hdl
          have VO := Lib.hid hown
          have VB := Lib.hid hbel
          clear hown bE hbel hdl
          go_wp2
          go_roundw
          case rel => exact ⟨m + 1, ds, HMT.out, by go_num, by have := HDL.out; omega, HN, VO.out, VB.out⟩
          case measure => have := HMT.out; simp [intOf]; omega
    · have HF := Lib.hid (show cs = chosenE l ids by rw [hcs.out, show m = l.length by omega, List.take_length])
      have VO := Lib.hid hown
      have VB := Lib.hid hbel
      clear hown hbel
      go_wp2
      go_ret
      exact RetRow.mk_ VB.out VO.out (by rw [HF.out]) (by rw [HF.out])
end Go.Proofs.Ytcjekbncllccbaa
