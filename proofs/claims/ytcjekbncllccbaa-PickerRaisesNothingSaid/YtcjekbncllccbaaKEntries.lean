/-
  The contract of keep.Entries.
-/
import Derived.Test.YtcjekbncllccbaaKRanges
import Derived.Test.YtcjekbncllccbaaBase
import Derived.IntWalk
namespace Go.Proofs.Ytcjekbncllccbaa
open Go.RowKit
/-- An entry that the statements' helpers make. -/
def Ent.gen (e : Ent) : Prop := 1 ≤ e.id ∧ 1 ≤ e.rows ∧ e.rows ≤ 8 ∧ 1 ≤ e.live ∧ e.live ≤ e.rows ∧ 0 ≤ e.del ∧ e.del ≤ 20 ∧ (e.live < e.rows → 1 ≤ e.del) ∧ (e.live = e.rows → e.del = 0) ∧ e.lo.gen ∧ e.hi.gen ∧ (e.lo.n < e.hi.n ∨ e.lo.n = e.hi.n ∧ e.lo.seq ≤ e.hi.seq)
/-- Such entries, their numbers ascending up to top. -/
def GenL : Int → List Ent → Prop
  | top, [] => 0 ≤ top
  | top, e :: r => e.gen ∧ (∀ x ∈ r, e.id < x.id) ∧ e.id ≤ top ∧ GenL top r
theorem GenL.snoc {t id : Int} : ∀ {l : List Ent} {e : Ent}, GenL t l → e.gen → t < e.id → e.id ≤ id → GenL id (l ++ [e])
  | [], e, h, he, h1, h2 => ⟨he, by simp, h2, by have := (show 0 ≤ t from h); show 0 ≤ id; omega⟩
  | x :: r, e, ⟨hx, hlt, htop, hr⟩, he, h1, h2 => by
    refine ⟨hx, fun y hy => ?_, by omega, GenL.snoc hr he h1 h2⟩
    rcases List.mem_append.1 hy with h | h
    · exact hlt y h
    · simp at h; subst h; omega
theorem GenL.top {a b : Int} : ∀ {l : List Ent}, GenL a l → a ≤ b → GenL b l
  | [], h, hab => by have h' : 0 ≤ a := h; show 0 ≤ b; omega
  | x :: r, ⟨h1, h2, h3, h4⟩, hab => ⟨h1, h2, by omega, h4.top hab⟩
theorem GenL.mem {t : Int} : ∀ {l : List Ent}, GenL t l → ∀ e ∈ l, e.gen ∧ e.id ≤ t
  | x :: r, ⟨hx, hlt, htop, hr⟩, e, he => by
    rcases List.mem_cons.1 he with rfl | h
    · exact ⟨hx, htop⟩
    · exact hr.mem e h
theorem info_entry : (Try.prog.info? 41).map (fun i => (i.zero, i.size, i.bytes)) = some (some (.agg #[.int .i64 0, .int .i64 0, .int .i64 0, .bool false, .int .i64 0, .string { data := #[] }, .int .i64 0, .bool false, .int .i64 0, .string { data := #[] }, .int .i64 0, .int .i64 0]), 12, 112) := by kernel_rfl
theorem under_entry : Try.prog.underlying 25 = some (.slice 41) := Try.underlying25
theorem one12 (i0 i1 i2 i4 i6 i8 i10 i11 : Int) (b3 b7 : Bool) (s5 s9 : ByteArray) : ∀ u ∈ (#[Value.int .i64 i0, .int .i64 i1, .int .i64 i2, .bool b3, .int .i64 i4, .string s5, .int .i64 i6, .bool b7, .int .i64 i8, .string s9, .int .i64 i10, .int .i64 i11] : Array Value).toList, u.oneCell' = true := by
  intro u hu
  simp only [List.mem_cons, List.not_mem_nil, or_false] at hu
  rcases hu with rfl | rfl | rfl | rfl | rfl | rfl | rfl | rfl | rfl | rfl | rfl | rfl <;> rfl
theorem own_ents {w : World} {base : Nat} {t : TypeId} {v : Value} {l : List Ent} {e : Ent} {us : List Value} (hu : us = e.cells) (h : w.ownsRow base t 12 v (l.length + 1) (ents l ++ us)) : w.ownsRow base t 12 v (l ++ [e]).length (ents (l ++ [e])) := by
  subst hu; rw [ents_snoc, List.length_append]; exact h
theorem own_ents12 {w : World} {base : Nat} {t : TypeId} {v : Value} {l : List Ent} {i0 i1 i2 i4 i6 i8 i10 i11 : Int} {b3 b7 : Bool} {s5 s9 : ByteArray}
    (h : w.ownsRow base t 12 v (l.length + 1) (ents l ++ (#[Value.int .i64 i0, .int .i64 i1, .int .i64 i2, .bool b3, .int .i64 i4, .string s5, .int .i64 i6, .bool b7, .int .i64 i8, .string s9, .int .i64 i10, .int .i64 i11] : Array Value).toList)) :
    w.ownsRow base t 12 v (l ++ [(⟨i0, i1, i2, ⟨b3, i4, s5, i6⟩, ⟨b7, i8, s9, i10⟩, i11⟩ : Ent)]).length (ents (l ++ [⟨i0, i1, i2, ⟨b3, i4, s5, i6⟩, ⟨b7, i8, s9, i10⟩, i11⟩])) := own_ents rfl h
def RetEnts (w : World) (n : Int) (e : Ending) (w' : World) : Prop :=
  ∃ (v : Value) (l : List Ent), e = .returned v ∧ (l.length : Int) ≤ n ∧ GenL (3 * l.length) l ∧ w'.ownsRow w.heap.size 41 12 v l.length (ents l) ∧ Below w.heap.size w w'
/-- A range lies at p. -/
structure RgAt (w : World) (p : Addr) (r : Rg) : Prop where
  lt : p.block < w.heap.size
  c0 : w.cell? p = some (.bool r.lo.null)
  c1 : w.cell? { block := p.block, off := p.off + 1 } = some (.int .i64 r.lo.n)
  c2 : w.cell? { block := p.block, off := p.off + 2 } = some (.string r.lo.s)
  c3 : w.cell? { block := p.block, off := p.off + 3 } = some (.int .i64 r.lo.seq)
  c4 : w.cell? { block := p.block, off := p.off + 4 } = some (.bool r.hi.null)
  c5 : w.cell? { block := p.block, off := p.off + 5 } = some (.int .i64 r.hi.n)
  c6 : w.cell? { block := p.block, off := p.off + 6 } = some (.string r.hi.s)
  c7 : w.cell? { block := p.block, off := p.off + 7 } = some (.int .i64 r.hi.seq)
theorem Sl.rg_load {w : World} {A : Option Addr} {c k : Nat} {l : List Rg} {n : Nat} (h : Sl w 8 (.slice A n c) n (rngs l)) (hn : n = l.length) (hk : k < n) : ∃ ad e p, A = some ad ∧ l[k]? = some e ∧ ad.add (k * 8) = p ∧ RgAt w p e := by
  obtain ⟨A', c', e0, h1, h2, h3, h4⟩ := h
  injection e0 with e1 e2 e3
  subst e1
  obtain ⟨ad, e, hb, hc⟩ := h4 (by omega)
  have hl : k < l.length := by omega
  have he := List.getElem?_eq_getElem hl
  refine ⟨ad, l[k], _, e, he, rfl, ?_⟩
  have hj : ∀ j u, j < 8 → l[k].cells[j]? = some u → w.cell? (ad.add (k * 8 + j)) = some u := fun j u h1 h2 => hc _ u ((rngs_get he h1).trans h2)
  have h0 := hj 0 _ (by omega) rfl
  rw [Nat.add_zero] at h0
  have hj' : ∀ j u, 0 < j → j < 8 → l[k].cells[j]? = some u → w.cell? { block := (ad.add (k * 8)).block, off := (ad.add (k * 8)).off + j } = some u := fun j u h1 h2 h3 => by rw [← add_off _ _ _ h1]; exact hj j u h2 h3
  exact ⟨World.block_lt_of_cell? w _ h0, h0, hj' 1 _ (by omega) (by omega) rfl, hj' 2 _ (by omega) (by omega) rfl, hj' 3 _ (by omega) (by omega) rfl, hj' 4 _ (by omega) (by omega) rfl, hj' 5 _ (by omega) (by omega) rfl, hj' 6 _ (by omega) (by omega) rfl, hj' 7 _ (by omega) (by omega) rfl⟩
set_option maxRecDepth 100000 in
set_option maxHeartbeats 4000000 in
theorem kentries_any (v : Value) (zs : List Int) (n : Int) (w : World) (hs : Sl w 1 v zs.length (ints zs)) (hl : zs.length ≤ 9223372036854775807) (hr : ∀ x ∈ zs, -9223372036854775808 ≤ x ∧ x ≤ 9223372036854775807) (hn0 : 0 ≤ n) (hn1 : n ≤ 1000) :
    Calls Try.prog 11 #[v, .int .i64 n] w (RetEnts w n) := by
  have HF := Lib.hid (from_any v zs w hs hl hr)
  have HR := Lib.hid (fun (W : World) (h : Below w.heap.size w W) => kranges_any v zs n W (hs.below h) hl hr hn0 hn1)
  obtain ⟨A, c, rfl, _, _⟩ := hs.form
  clear hs hl hr
  go_enter Try.func11, Try.ntmps11
  go_wp2_with fail
  refine HF.out.mono ?_
  rintro e w1 ⟨g, rfl, hb1, hsrc⟩
  go_wp2_with fail
  refine (HR.out w1 hb1).mono ?_
  rintro e w2 ⟨v2, rs, rfl, hlen, hgen, hown, hb2⟩
  have hge := hsrc.ge
  have hgl := hsrc.lt
  have HB2 := Lib.hid (bst hb1 hb2)
  have HS2 := Lib.hid (hsrc.below hb2)
  have hsl := Sl.of_own hown
  have hz12 := hb1.size
  obtain ⟨A2, cp2, rfl, hc1, hc2⟩ := hsl.form
  unfold maxLen at hc2
  have HO2 := Lib.hid hown
  clear hsrc hb1 hb2 HF HR hown hsl
  go_wp2
  go_loopw [7, 8, 19] (fun v id i wr => ∃ (k : Nat) (l : List Ent) (x : Int) (rest : List Int), i = .int .i64 k ∧ k ≤ rs.length ∧ l.length = k ∧ id = .int .i64 x ∧ 0 ≤ x ∧ x ≤ 3 * k ∧ GenL x l ∧ wr.ownsRow w.heap.size 41 12 v l.length (ents l) ∧ Src wr w.heap.size 86 g rest ∧ Below w.heap.size w wr ∧ wr.ownsRow w1.heap.size 44 8 (.slice A2 rs.length cp2) rs.length (rngs rs)) (fun _ _ i _ => rs.length - (intOf i).toNat)
  case atStart => exact ⟨0, [], 0, _, rfl, Nat.zero_le _, rfl, rfl, Int.le_refl 0, by omega, Int.le_refl 0, World.ownsRow_nil _ _ _ _, HS2.out, HB2.out, HO2.out⟩
  case round =>
    obtain ⟨k, l, x, rest, rfl, hk, hlk, rfl, hx0, hx, hG, hown, hsrc, hbel, hro⟩ := hrel
    have HLK := Lib.hid hlk
    have hlb : l.length ≤ 1000 := by omega
    clear hlk
    by_cases hlt : k < rs.length
    · obtain ⟨ad, r, p, rfl, he, hp, hR⟩ := (Sl.of_own hro).rg_load rfl hlt
      obtain ⟨hplt, c0, c1, c2, c3, c4, c5, c6, c7⟩ := hR
      have HGr := Lib.hid (hgen r (List.mem_of_getElem? he))
      obtain ⟨⟨ln, lx, lz, lq⟩, ⟨hn, hx', hz, hq⟩⟩ := r
      obtain ⟨W, hW⟩ : ∃ W, W = wr.alloc (.cells #[.bool ln, .int .i64 lx, .string lz, .int .i64 lq, .bool hn, .int .i64 hx', .string hz, .int .i64 hq] 44) := ⟨_, rfl⟩
      have b1 : Blk W wr.heap.size 44 #[.bool ln, .int .i64 lx, .string lz, .int .i64 lq, .bool hn, .int .i64 hx', .string hz, .int .i64 hq] := by rw [hW]; exact Blk.new _ _ _
      have hownW := hown.alloc (.cells #[.bool ln, .int .i64 lx, .string lz, .int .i64 lq, .bool hn, .int .i64 hx', .string hz, .int .i64 hq] 44)
      have hroW := hro.alloc (.cells #[.bool ln, .int .i64 lx, .string lz, .int .i64 lq, .bool hn, .int .i64 hx', .string hz, .int .i64 hq] 44)
      have hsW := hsrc.alloc (.cells #[.bool ln, .int .i64 lx, .string lz, .int .i64 lq, .bool hn, .int .i64 hx', .string hz, .int .i64 hq] 44)
      have hbW := hbel.alloc hbel.size (.cells #[.bool ln, .int .i64 lx, .string lz, .int .i64 lq, .bool hn, .int .i64 hx', .string hz, .int .i64 hq] 44)
      rw [← hW] at hownW hroW hsW hbW
      have hgwr := hsrc.lt
      have hwwr := hbel.size
      have HW : W.heap.size = wr.heap.size + 1 := by rw [hW]; simp
      have HHW := Lib.hid HW
      clear HW hown hro hsrc hbel he hgen
      go_wp2_with fail
      rw [← hW]
      clear hW
      refine (next_any _ g 3 rest W hsW (by omega) (by omega)).mono ?_
      rintro e w3 ⟨rfl, ho, hs3⟩
      have y1 := nxt_lo 3 rest (by omega)
      have y2 := nxt_hi 3 rest (by omega)
      obtain ⟨y, hy⟩ : ∃ y, nxt 3 rest = y := ⟨_, rfl⟩
      rw [hy] at y1 y2 ⊢
      have b3 := b1.grown ho (by simp; omega)
      have hown3 := own_only hownW hsW (by decide) ho
      have hro3 := own_only hroW hsW (by decide) ho
      have hbel3 := below_only hbW ho hge hbW.size
      have hsz3 : wr.heap.size < w3.heap.size := by have := ho.size; rw [HHW.out] at this; omega
      clear hy ho hsW hownW hroW hbW b1 c0 c1 c2 c3 c4 c5 c6 c7
      have c0 := b3.cell 0
      have c1 := b3.cell 1
      have c2 := b3.cell 2
      have c3 := b3.cell 3
      have c4 := b3.cell 4
      have c5 := b3.cell 5
      have c6 := b3.cell 6
      have c7 := b3.cell 7
      simp only [List.getElem?_toArray, List.getElem?_cons_zero, List.getElem?_cons_succ] at c0 c1 c2 c3 c4 c5 c6 c7
      have hg3 := hs3.lt
      have HB3 := Lib.hid b3
      have HO3 := Lib.hid hown3
      have HR3 := Lib.hid hro3
      have HL3 := Lib.hid hbel3
      have hz1 := nxt_lo 8 rest.tail (by omega)
      have hz2 := nxt_hi 8 rest.tail (by omega)
      obtain ⟨z, hz⟩ : ∃ z, nxt 8 rest.tail = z := ⟨_, rfl⟩
      rw [hz] at hz1 hz2
      have HZ := Lib.hid hz
      clear hz b3 hown3 hro3 hbel3
      have hne : wr.heap.size ≠ g := by omega
      go_wp2_with fail
      refine wp_region_inv (by kernel_rfl) (by kernel_rfl) (fun L a w' => ∃ v11 v28 v29 v30 v31 v32 v33 v34 v35 v36 : Value, a = ⟨#[.slice A zs.length c, .int .i64 n, undef, undef, .slice none 0 0, .pointer (some ⟨g, 0, none⟩), .slice (some ad) rs.length cp2, u7, .int .i64 (x + (1 + y)), undef, .pointer (some ⟨wr.heap.size, 0, none⟩), v11, .slice A zs.length c, .pointer (some ⟨g, 0, none⟩), .slice A zs.length c, .int .i64 n, .slice (some ad) rs.length cp2, .slice (some ad) rs.length cp2, .int .i64 rs.length, .int .i64 k, .bool true, .pointer (some p), .agg #[.bool ln, .int .i64 lx, .string lz, .int .i64 lq, .bool hn, .int .i64 hx', .string hz, .int .i64 hq], .int .i64 x, .pointer (some ⟨g, 0, none⟩), .int .i64 y, .int .i64 (1 + y), .int .i64 (x + (1 + y)), v28, v29, v30, v31, v32, v33, v34, v35, v36, u37, u38, u39, u40, u41, u42, u43, u44, u45, u46, u47, u48, u49, u50, u51, u52, u53, u54, u55, u56, undef], []⟩ ∧
        (L 0 = true → v28 = .int .i64 (x + (1 + y))) ∧ (L 1 = true → v29 = .pointer (some ⟨g, 0, none⟩)) ∧ (L 2 = true → v30 = .int .i64 z) ∧ (L 3 = true → v31 = .int .i64 (1 + z)) ∧
        (L 4 = true → v32 = .pointer (some ⟨wr.heap.size, 0, none⟩)) ∧ (L 5 = true → v33 = .agg #[.bool ln, .int .i64 lx, .string lz, .int .i64 lq]) ∧ (L 6 = true → v34 = .pointer (some ⟨wr.heap.size, 4, none⟩)) ∧ (L 7 = true → v35 = .agg #[.bool hn, .int .i64 hx', .string hz, .int .i64 hq]) ∧ (L 8 = true → v36 = .agg #[.int .i64 (x + (1 + y)), .int .i64 (1 + z), .int .i64 0, .bool ln, .int .i64 lx, .string lz, .int .i64 lq, .bool hn, .int .i64 hx', .string hz, .int .i64 hq, .int .i64 0]) ∧
        Only g w3 w' ∧ Blk w' wr.heap.size 44 #[.bool ln, .int .i64 lx, .string lz, .int .i64 lq, .bool hn, .int .i64 hx', .string hz, .int .i64 hq] ∧ Src w' w.heap.size 86 g (if L 2 = true then rest.tail.tail else rest.tail) ∧
        (L 10 = true → L 9 = true) ∧
        (L 9 = true → ∃ Bk, v11 = .pointer (some ⟨Bk, 0, none⟩) ∧ w3.heap.size ≤ Bk ∧ Blk w' Bk 41 (if L 10 = true then #[.int .i64 (x + (1 + y)), .int .i64 (1 + z), .int .i64 0, .bool ln, .int .i64 lx, .string lz, .int .i64 lq, .bool hn, .int .i64 hx', .string hz, .int .i64 hq, .int .i64 0] else #[.int .i64 0, .int .i64 0, .int .i64 0, .bool false, .int .i64 0, .string { data := #[] }, .int .i64 0, .bool false, .int .i64 0, .string { data := #[] }, .int .i64 0, .int .i64 0]))) ?_ ?_ ?_
      · exact ⟨_, _, _, _, _, _, _, _, _, _, rfl, nofun, nofun, nofun, nofun, nofun, nofun, nofun, nofun, nofun, (Only.refl g w3).drewN 1, HB3.out.drewN 1, hs3.drewN 1, nofun, nofun⟩
      · refine ⟨?_, ?_, ?_, ?_, ?_, ?_, ?_, ?_, ?_, ?_, ?_, trivial⟩
        all_goals
          rintro L a w' ⟨v11, v28, v29, v30, v31, v32, v33, v34, v35, v36, rfl, i0, i1, i2, i3, i4, i5, i6, i7, i8, kO, kB, kS, kT, kA⟩ hl hd K hK
          simp [Region.binds] at hd
        all_goals dsimp only at hK ⊢
        · go_simp
          exact hK _ _ ⟨_, _, _, _, _, _, _, _, _, _, rfl, fun _ => rfl, i1, i2, i3, i4, i5, i6, i7, i8, kO, kB, kS, kT, kA⟩
        · go_simp
          exact hK _ _ ⟨_, _, _, _, _, _, _, _, _, _, rfl, i0, fun _ => rfl, i2, i3, i4, i5, i6, i7, i8, kO, kB, kS, kT, kA⟩
        · have e1 := i1 hd
          subst e1
          have kS' : Src w' w.heap.size 86 g rest.tail := by have := kS; rw [hl] at this; simpa using this
          go_wp2_with fail
          refine (next_any _ g 8 rest.tail w' kS' (by omega) (by omega)).mono ?_
          rintro _ w4 ⟨rfl, ho4, hs4⟩
          rw [HZ.out]
          exact hK _ _ ⟨_, _, _, _, _, _, _, _, _, _, rfl, i0, fun _ => rfl, fun _ => rfl, i3, i4, i5, i6, i7, i8, kO.trans ho4, kB.grown ho4 (by intro e; injection e with e; exact hne e.symm), hs4, kT, fun h => by
            obtain ⟨Bk, e1, e2, e3⟩ := kA h
            exact ⟨Bk, e1, e2, e3.grown ho4 (by intro e; injection e with e; omega)⟩⟩
        · have e1 := i2 hd
          subst e1
          have hwz : IntKind.i64.wrap (1 + z) = 1 + z := IntWalk.i64_in _ (by omega)
          go_simp
          exact hK _ _ ⟨_, _, _, _, _, _, _, _, _, _, rfl, i0, i1, i2, fun _ => rfl, i4, i5, i6, i7, i8, kO, kB, kS, kT, kA⟩
        · go_simp
          exact hK _ _ ⟨_, _, _, _, _, _, _, _, _, _, rfl, i0, i1, i2, i3, fun _ => rfl, i5, i6, i7, i8, kO, kB, kS, kT, kA⟩
        · have e1 := i4 hd
          subst e1
          have c0 := kB.cell 0
          have c1 := kB.cell 1
          have c2 := kB.cell 2
          have c3 := kB.cell 3
          have c4 := kB.cell 4
          have c5 := kB.cell 5
          have c6 := kB.cell 6
          have c7 := kB.cell 7
          simp only [List.getElem?_toArray, List.getElem?_cons_zero, List.getElem?_cons_succ] at c0 c1 c2 c3 c4 c5 c6 c7
          go_simp
          exact hK _ _ ⟨_, _, _, _, _, _, _, _, _, _, rfl, i0, i1, i2, i3, i4, fun _ => rfl, i6, i7, i8, kO, kB, kS, kT, kA⟩
        · go_simp
          exact hK _ _ ⟨_, _, _, _, _, _, _, _, _, _, rfl, i0, i1, i2, i3, i4, i5, fun _ => rfl, i7, i8, kO, kB, kS, kT, kA⟩
        · have e1 := i6 hd
          subst e1
          have c0 := kB.cell 0
          have c1 := kB.cell 1
          have c2 := kB.cell 2
          have c3 := kB.cell 3
          have c4 := kB.cell 4
          have c5 := kB.cell 5
          have c6 := kB.cell 6
          have c7 := kB.cell 7
          simp only [List.getElem?_toArray, List.getElem?_cons_zero, List.getElem?_cons_succ] at c0 c1 c2 c3 c4 c5 c6 c7
          go_simp
          exact hK _ _ ⟨_, _, _, _, _, _, _, _, _, _, rfl, i0, i1, i2, i3, i4, i5, i6, fun _ => rfl, i8, kO, kB, kS, kT, kA⟩
        · have e1 := i0 hd.1
          have e2 := i3 hd.2.1
          have e3 := i5 hd.2.2.1
          have e4 := i7 hd.2.2.2
          subst e1 e2 e3 e4
          go_simp
          exact hK _ _ ⟨_, _, _, _, _, _, _, _, _, _, rfl, i0, i1, i2, i3, i4, i5, i6, i7, fun _ => rfl, kO, kB, kS, kT, kA⟩
        · go_simp
          exact hK _ _ ⟨_, _, _, _, _, _, _, _, _, _, rfl, i0, i1, i2, i3, i4, i5, i6, i7, i8, kO.alloc _, kB.alloc _, kS.alloc _, fun _ => rfl, fun _ => ⟨_, rfl, kO.size, by rw [if_neg (show ¬upd L 9 10 = true from fun h => by have h' : L 9 = true := kT h; rw [hl] at h'; cases h')]; exact Blk.new _ _ _⟩⟩
        · have e1 := i8 hd.2.1
          obtain ⟨Bk, e2, e3, bB⟩ := kA hd.1
          rw [hl] at bB
          simp only [Bool.false_eq_true, if_false] at bB
          subst e1 e2
          have n0 := bB.cell 0
          have f0 := bB.frozen 0
          have n1 := bB.cell 1
          have f1 := bB.frozen 1
          have n2 := bB.cell 2
          have f2 := bB.frozen 2
          have n3 := bB.cell 3
          have f3 := bB.frozen 3
          have n4 := bB.cell 4
          have f4 := bB.frozen 4
          have n5 := bB.cell 5
          have f5 := bB.frozen 5
          have n6 := bB.cell 6
          have f6 := bB.frozen 6
          have n7 := bB.cell 7
          have f7 := bB.frozen 7
          have n8 := bB.cell 8
          have f8 := bB.frozen 8
          have n9 := bB.cell 9
          have f9 := bB.frozen 9
          have n10 := bB.cell 10
          have f10 := bB.frozen 10
          have n11 := bB.cell 11
          have f11 := bB.frozen 11
          simp only [List.getElem?_toArray, List.getElem?_cons_zero, List.getElem?_cons_succ] at n0 n1 n2 n3 n4 n5 n6 n7 n8 n9 n10 n11
          have hA1 : w3.heap.size ≤ Bk := e3
          have kr := grown12 w' Bk (.int .i64 (x + (1 + y))) (.int .i64 (1 + z)) (.int .i64 0) (.bool ln) (.int .i64 lx) (.string lz) (.int .i64 lq) (.bool hn) (.int .i64 hx') (.string hz) (.int .i64 hq) (.int .i64 0)
          have kb := blk12 (.int .i64 (x + (1 + y))) (.int .i64 (1 + z)) (.int .i64 0) (.bool ln) (.int .i64 lx) (.string lz) (.int .i64 lq) (.bool hn) (.int .i64 hx') (.string hz) (.int .i64 hq) (.int .i64 0) bB
          go_simp
          exact hK _ _ ⟨_, _, _, _, _, _, _, _, _, _, rfl, fun _ => rfl, fun _ => rfl, fun _ => rfl, fun _ => rfl, fun _ => rfl, fun _ => rfl, fun _ => rfl, fun _ => rfl, fun _ => rfl, kO.row kr hA1, kB.row kr (by omega), kS.row kr (by omega) (by omega), fun _ => hd.1, fun _ => ⟨Bk, rfl, e3, kb⟩⟩
      · rintro a w5 ⟨v11, v28, v29, v30, v31, v32, v33, v34, v35, v36, rfl, i0, i1, i2, i3, i4, i5, i6, i7, i8, kO, kB, kS, kT, kA⟩
        have e0 := i0 rfl
        have e1 := i1 rfl
        have e2 := i2 rfl
        have e3 := i3 rfl
        have e4 := i4 rfl
        have e5 := i5 rfl
        have e6 := i6 rfl
        have e7 := i7 rfl
        have e8 := i8 rfl
        obtain ⟨Bk, e9, hBk, bB⟩ := kA rfl
        subst e0 e1 e2 e3 e4 e5 e6 e7 e8 e9
        simp only [if_true] at bB kS
        dsimp only
        have hsrc5 : Src w5 w.heap.size 86 g rest.tail.tail := kS
        have hown5 := own_only HO3.out hs3 (by decide) kO
        have hro5 := own_only HR3.out hs3 (by decide) kO
        have hbel5 := below_only HL3.out kO hge HL3.out.size
        have hzw3 := HL3.out.size
        have hsz5 := kO.size
        obtain ⟨rest5, hrest5⟩ : ∃ r, r = rest.tail.tail := ⟨_, rfl⟩
        rw [← hrest5] at hsrc5
        clear hrest5 i0 i1 i2 i3 i4 i5 i6 i7 i8 kO kB kS kT kA c0 c1 c2 c3 c4 c5 c6 c7
        have m1 := bB.cell 1
        simp only [List.getElem?_toArray, List.getElem?_cons_zero, List.getElem?_cons_succ] at m1
        go_wp2_with fail
        refine (next_any _ g (1 + z) rest5 w5 hsrc5 (by omega) (by omega)).mono ?_
        rintro e w6 ⟨rfl, ho6, hs6⟩
        have v1 := nxt_lo (1 + z) rest5 (by omega)
        have v2 := nxt_hi (1 + z) rest5 (by omega)
        obtain ⟨v, hv⟩ : ∃ v, nxt (1 + z) rest5 = v := ⟨_, rfl⟩
        rw [hv] at v1 v2 ⊢
        have b6 := bB.grown ho6 (by intro e; injection e with e; omega)
        have hown6 := own_only hown5 hsrc5 (by decide) ho6
        have hro6 := own_only hro5 hsrc5 (by decide) ho6
        have hbel6 := below_only hbel5 ho6 hge hbel5.size
        have hsz6 := ho6.size
        clear hv ho6 hsrc5 hown5 hro5 hbel5 bB m1
        have f2 := b6.frozen 2
        have m2' := b6.cell 2
        simp only [List.getElem?_toArray, List.getElem?_cons_zero, List.getElem?_cons_succ] at m2'
        go_upto_region 11 with (fail)
        have kg := grownBy_set w6 ⟨Bk, 2, none⟩ (.int .i64 (1 + v))
        have hbn : ∀ b, u7.ownBlock = some b → b ≠ Bk := fun b hb => by have := (HO3.out.lt b hb).2; omega
        have hbr : ∀ b, (Value.slice (some ad) rs.length cp2).ownBlock = some b → b ≠ Bk := fun b hb => by have := (HR3.out.lt b hb).2; omega
        have b7 := b6.set_ 2 (.int .i64 (1 + v))
        simp only [List.setIfInBounds_toArray, List.set_cons_zero, List.set_cons_succ] at b7
        have hown7 := own_row hown6 kg hbn
        have hro7 := own_row hro6 kg hbr
        have hs7 := hs6.row (A := Bk) kg (by omega) (by omega)
        have hbel7 := below_row hbel6 kg (by show w.heap.size ≤ Bk; omega) hbel6.size
        have hsz7 : w6.heap.size = (w6.setCell ⟨Bk, 2, none⟩ (.int .i64 (1 + v))).heap.size := by simp [World.setCell]
        obtain ⟨X, hX⟩ : ∃ X, X = w6.setCell ⟨Bk, 2, none⟩ (.int .i64 (1 + v)) := ⟨_, rfl⟩
        rw [← hX] at b7 hown7 hro7 hs7 hbel7 hsz7 ⊢
        clear hX kg b6 hown6 hro6 hs6 hbel6 f2 m2'
        have m1 := b7.cell 1
        have m2' := b7.cell 2
        simp only [List.getElem?_toArray, List.getElem?_cons_zero, List.getElem?_cons_succ] at m1 m2'
        by_cases hlv : 1 + v < 1 + z
        · go_wp2_with fail
          refine (next_any _ g 20 _ X hs7 (by omega) (by omega)).mono ?_
          rintro e w8 ⟨rfl, ho8, hs8⟩
          have t1 := nxt_lo 20 rest5.tail (by omega)
          have t2 := nxt_hi 20 rest5.tail (by omega)
          obtain ⟨u, hu⟩ : ∃ u, nxt 20 rest5.tail = u := ⟨_, rfl⟩
          rw [hu] at t1 t2 ⊢
          have b8 := b7.grown ho8 (by intro e; injection e with e; omega)
          have hown8 := own_only hown7 hs7 (by decide) ho8
          have hro8 := own_only hro7 hs7 (by decide) ho8
          have hbel8 := below_only hbel7 ho8 hge hbel7.size
          clear hu ho8 hs7 hown7 hro7 hbel7 b7 m1 m2'
          have f11 := b8.frozen 11
          have m11 := b8.cell 11
          simp only [List.getElem?_toArray, List.getElem?_cons_zero, List.getElem?_cons_succ] at m11
          go_upto_region 13 with (fail)
          have kg := grownBy_set w8 ⟨Bk, 11, none⟩ (.int .i64 (1 + u))
          have b9 := b8.set_ 11 (.int .i64 (1 + u))
          simp only [List.setIfInBounds_toArray, List.set_cons_zero, List.set_cons_succ] at b9
          have hown9 := own_row hown8 kg hbn
          have hro9 := own_row hro8 kg hbr
          have hs9 := hs8.row (A := Bk) kg (by omega) (by omega)
          have hbel9 := below_row hbel8 kg (by show w.heap.size ≤ Bk; omega) hbel8.size
          obtain ⟨Y, hY⟩ : ∃ Y, Y = w8.setCell ⟨Bk, 11, none⟩ (.int .i64 (1 + u)) := ⟨_, rfl⟩
          rw [← hY] at b9 hown9 hro9 hs9 hbel9 ⊢
          clear hY kg b8 hown8 hro8 hs8 hbel8 f11 m11
          have n0 := b9.cell 0
          have n1 := b9.cell 1
          have n2 := b9.cell 2
          have n3 := b9.cell 3
          have n4 := b9.cell 4
          have n5 := b9.cell 5
          have n6 := b9.cell 6
          have n7 := b9.cell 7
          have n8 := b9.cell 8
          have n9 := b9.cell 9
          have n10 := b9.cell 10
          have n11 := b9.cell 11
          simp only [List.getElem?_toArray, List.getElem?_cons_zero, List.getElem?_cons_succ] at n0 n1 n2 n3 n4 n5 n6 n7 n8 n9 n10 n11
          have HOx := Lib.hid (hown9)
          have HRx := Lib.hid (hro9)
          have HSx := Lib.hid (hs9)
          have hbx := hbel9
          have HE := Lib.hid (show GenL (x + (1 + y)) (l ++ [⟨x + (1 + y), 1 + z, 1 + v, ⟨ln, lx, lz, lq⟩, ⟨hn, hx', hz, hq⟩, 1 + u⟩]) from hG.snoc ⟨by show 1 ≤ x + (1 + y); omega, by show 1 ≤ 1 + z; omega, by show 1 + z ≤ 8; omega, by show 1 ≤ 1 + v; omega, by show 1 + v ≤ 1 + z; omega, by show 0 ≤ 1 + u; omega, by show 1 + u ≤ 20; omega, fun _ => by show 1 ≤ 1 + u; omega, fun h => by have h' : 1 + v = 1 + z := h; omega, HGr.out.1, HGr.out.2.1, HGr.out.2.2⟩ (by show x < x + (1 + y); omega) (Int.le_refl _))
          go_wp2_with (at_builtin; go_must (refine app1 _ _ HOx.out hbx (Nat.le_refl _) hbx.size under_entry info_entry rfl (by decide) rfl (one12 _ _ _ _ _ _ _ _ _ _ _ _) (by omega) (by omega) rfl rfl rfl rfl ?_))
          intro g' cap' w9 hown9 hbel9 hgr9 _
          have hoe := own_ents12 hown9
          clear hbx
          go_wp2
          go_roundw
          case rel => exact ⟨k + 1, l ++ [⟨x + (1 + y), 1 + z, 1 + v, ⟨ln, lx, lz, lq⟩, ⟨hn, hx', hz, hq⟩, 1 + u⟩], x + (1 + y), _, by go_num, by omega, by rw [List.length_append, HLK.out]; rfl, rfl, by omega, by omega, HE.out, hoe, HSx.out.grown hgr9 (HSx.out.own_ne HOx.out (by decide)) (fun j hj => (HOx.out.lt j hj).1), hbel9, own_grown HRx.out hgr9 (fun b hb => own_ne HRx.out HOx.out (by decide) b hb)⟩
          case measure => simp [intOf]; omega
        · have hd : decide (v < z) = false := by simp; omega
          go_upto_region 13 with (fail)
          have n0 := b7.cell 0
          have n1 := b7.cell 1
          have n2 := b7.cell 2
          have n3 := b7.cell 3
          have n4 := b7.cell 4
          have n5 := b7.cell 5
          have n6 := b7.cell 6
          have n7 := b7.cell 7
          have n8 := b7.cell 8
          have n9 := b7.cell 9
          have n10 := b7.cell 10
          have n11 := b7.cell 11
          simp only [List.getElem?_toArray, List.getElem?_cons_zero, List.getElem?_cons_succ] at n0 n1 n2 n3 n4 n5 n6 n7 n8 n9 n10 n11
          have HOx := Lib.hid (hown7)
          have HRx := Lib.hid (hro7)
          have HSx := Lib.hid (hs7)
          have hbx := hbel7
          have HE := Lib.hid (show GenL (x + (1 + y)) (l ++ [⟨x + (1 + y), 1 + z, 1 + v, ⟨ln, lx, lz, lq⟩, ⟨hn, hx', hz, hq⟩, 0⟩]) from hG.snoc ⟨by show 1 ≤ x + (1 + y); omega, by show 1 ≤ 1 + z; omega, by show 1 + z ≤ 8; omega, by show 1 ≤ 1 + v; omega, by show 1 + v ≤ 1 + z; omega, by show (0 : Int) ≤ 0; omega, by show (0 : Int) ≤ 20; omega, fun h => by have h' : 1 + v < 1 + z := h; omega, fun _ => rfl, HGr.out.1, HGr.out.2.1, HGr.out.2.2⟩ (by show x < x + (1 + y); omega) (Int.le_refl _))
          go_wp2_with (at_builtin; go_must (refine app1 _ _ HOx.out hbx (Nat.le_refl _) hbx.size under_entry info_entry rfl (by decide) rfl (one12 _ _ _ _ _ _ _ _ _ _ _ _) (by omega) (by omega) rfl rfl rfl rfl ?_))
          intro g' cap' w9 hown9 hbel9 hgr9 _
          have hoe := own_ents12 hown9
          clear hbx
          go_wp2
          go_roundw
          case rel => exact ⟨k + 1, l ++ [⟨x + (1 + y), 1 + z, 1 + v, ⟨ln, lx, lz, lq⟩, ⟨hn, hx', hz, hq⟩, 0⟩], x + (1 + y), _, by go_num, by omega, by rw [List.length_append, HLK.out]; rfl, rfl, by omega, by omega, HE.out, hoe, HSx.out.grown hgr9 (HSx.out.own_ne HOx.out (by decide)) (fun j hj => (HOx.out.lt j hj).1), hbel9, own_grown HRx.out hgr9 (fun b hb => own_ne HRx.out HOx.out (by decide) b hb)⟩
          case measure => simp [intOf]; omega
    · have HR := Lib.hid (show RetEnts w n (.returned u7) wr from ⟨_, l, rfl, by have := HLK.out; omega, by rw [HLK.out]; exact hG.top hx, hown, hbel⟩)
      clear hG hown hsrc hbel hro
      go_wp2
      go_ret
      exact HR.out
end Go.Proofs.Ytcjekbncllccbaa
