/-
  Rows of records that a call owns.
-/
import Derived.Test.YtoikgjhekemjdaaChkSpec
import Derived.Test.YtoikgjhekemjdaaRecKit
namespace Go.Proofs.Ytoikgjhekemjdaa
open Go.RowKit Go.Sort
def OwnRc (w : World) (base : Nat) (v : Value) (l : List Rcd) : Prop :=
  ∃ us : List (Value × Value), us.length = l.length ∧ w.ownsRow base 38 6 v l.length (rcds l us) ∧ ∀ (k : Nat) (r : Rcd) (u : Value × Value), l[k]? = some r → us[k]? = some u → w.ownsRow base 34 12 u.1 r.add.length (ents r.add) ∧ w.ownsRow base 3 1 u.2 r.rem.length (ints r.rem)
theorem OwnRc.sl {w : World} {base : Nat} {v : Value} {l : List Rcd} (ho : OwnRc w base v l) (hs : ∀ r ∈ l, ∀ e ∈ r.add, e.small) : SlRc w v l := by
  obtain ⟨us, h1, h2, h3⟩ := ho
  exact ⟨us, h1, Sl.of_own h2, fun k s u hk hu => ⟨Sl.of_own (h3 k s u hk hu).1, Sl.of_own (h3 k s u hk hu).2, hs s (List.mem_of_getElem? hk)⟩⟩
theorem OwnRc.form {w : World} {base : Nat} {v : Value} {l : List Rcd} (ho : OwnRc w base v l) : ∃ A c, v = .slice A l.length c ∧ l.length ≤ c ∧ c ≤ maxLen := by
  obtain ⟨us, h1, h2, h3⟩ := ho; exact (Sl.of_own h2).form
theorem OwnSn.form {w : World} {base : Nat} {v : Value} {l : List Snp} (ho : OwnSn w base v l) : ∃ A c, v = .slice A l.length c ∧ l.length ≤ c ∧ c ≤ maxLen := ho.sl.form
theorem OwnRc.below {w w' : World} {base : Nat} {v : Value} {h : List Rcd} (ho : OwnRc w base v h) (hb : Below w.heap.size w w') : OwnRc w' base v h := by
  obtain ⟨us, h1, h2, h3⟩ := ho
  exact ⟨us, h1, own_below h2 hb, fun k s u hk hu => ⟨own_below (h3 k s u hk hu).1 hb, own_below (h3 k s u hk hu).2 hb⟩⟩
theorem OwnRc.mono {w : World} {base base' : Nat} {v : Value} {h : List Rcd} (ho : OwnRc w base v h) (hb : base' ≤ base) : OwnRc w base' v h := by
  obtain ⟨us, h1, h2, h3⟩ := ho
  exact ⟨us, h1, own_mono h2 hb, fun k s u hk hu => ⟨own_mono (h3 k s u hk hu).1 hb, own_mono (h3 k s u hk hu).2 hb⟩⟩
theorem OwnRc.nil (w : World) (base : Nat) : OwnRc w base (.slice none 0 0) [] := ⟨[], rfl, World.ownsRow_nil _ _ _ _, fun k s u h => by simp at h⟩
theorem info_rec : (Try.prog.info? 38).map (fun i => (i.zero, i.size, i.bytes)) = some (some (.agg #[.int .i64 0, .int .i64 0, .int .i64 0, .int .i64 0, .slice none 0 0, .slice none 0 0]), 6, 80) := by kernel_rfl
theorem under_rec : Try.prog.underlying 47 = some (.slice 38) := Try.underlying47
theorem one6 (a b c d : Int) (A B : Option Addr) (n k m l : Nat) : ∀ u ∈ (#[Value.int .i64 a, .int .i64 b, .int .i64 c, .int .i64 d, .slice A n k, .slice B m l] : Array Value).toList, u.oneCell' = true := by
  intro u hu
  simp only [List.mem_cons, List.not_mem_nil, or_false] at hu
  rcases hu with rfl | rfl | rfl | rfl | rfl | rfl <;> rfl
/-- Behind 'append(l, r)'. -/
theorem rc_snoc {w w' : World} {base : Nat} {v v' : Value} {h : List Rcd} {us : List (Value × Value)} {s : Rcd} {va vr : Value} (h1 : us.length = h.length) (h2 : w.ownsRow base 38 6 v h.length (rcds h us))
    (h3 : ∀ (k : Nat) (r : Rcd) (u : Value × Value), h[k]? = some r → us[k]? = some u → w.ownsRow base 34 12 u.1 r.add.length (ents r.add) ∧ w.ownsRow base 3 1 u.2 r.rem.length (ints r.rem))
    (hu : w.ownsRow base 34 12 va s.add.length (ents s.add)) (hr : w.ownsRow base 3 1 vr s.rem.length (ints s.rem))
    (hn : w'.ownsRow base 38 6 v' (h.length + 1) (rcds h us ++ rcCells s va vr)) (hg : w.grownBy w' v.ownBlock) : OwnRc w' base v' (h ++ [s]) := by
  refine ⟨us ++ [(va, vr)], by simp [h1], by rw [List.length_append, rcds_snoc h1]; exact hn, fun k t x hk hx => ?_⟩
  have key : ∀ {t : Rcd} {x : Value × Value}, w.ownsRow base 34 12 x.1 t.add.length (ents t.add) ∧ w.ownsRow base 3 1 x.2 t.rem.length (ints t.rem) → w'.ownsRow base 34 12 x.1 t.add.length (ents t.add) ∧ w'.ownsRow base 3 1 x.2 t.rem.length (ints t.rem) := fun ho =>
    ⟨own_grown ho.1 hg (fun b hb e => own_ne ho.1 h2 (by decide) b hb e), own_grown ho.2 hg (fun b hb e => own_ne ho.2 h2 (by decide) b hb e)⟩
  by_cases hlt : k < h.length
  · rw [List.getElem?_append_left hlt] at hk
    rw [List.getElem?_append_left (by omega)] at hx
    exact key (h3 k t x hk hx)
  · rw [List.getElem?_append_right (by omega)] at hk
    rw [List.getElem?_append_right (by omega), h1] at hx
    rcases hkk : k - h.length with _ | m
    · rw [hkk] at hk hx; simp at hk hx; subst hk hx; exact key ⟨hu, hr⟩
    · rw [hkk] at hk; simp at hk
theorem rc_one {w : World} {g base : Nat} {s : Rcd} {va vr : Value} (hb : Blk w g 38 #[.int .i64 s.kind, .int .i64 s.ver, .int .i64 s.seq, .int .i64 s.nid, va, vr]) (hg : base ≤ g) (hu : w.ownsRow base 34 12 va s.add.length (ents s.add)) (hr : w.ownsRow base 3 1 vr s.rem.length (ints s.rem)) : OwnRc w base (.slice (some ⟨g, 0, none⟩) 1 1) [s] := by
  refine ⟨[(va, vr)], rfl, ⟨rfl, .inr ⟨g, 1, _, rfl, hg, hb, Nat.le_refl _, by simp [maxLen], rfl, rfl⟩⟩, fun k t x hk hx => ?_⟩
  rcases k with _ | k
  · simp at hk hx; subst hk hx; exact ⟨hu, hr⟩
  · simp at hk
/-- A store into another block of records' or versions' own. -/
theorem OwnRc.store {w w' : World} {base N : Nat} {v : Value} {h : List Rcd} {t : TypeId} {cs : Array Value} (ho : OwnRc w base v h) (k : w.grownBy w' (some N)) (hB : Blk w N t cs) (h1 : 34 ≠ t) (h2 : 3 ≠ t) (hv : ∀ b, v.ownBlock = some b → b ≠ N) : OwnRc w' base v h := by
  obtain ⟨us, e1, e2, e3⟩ := ho
  exact ⟨us, e1, own_row e2 k hv, fun k' s u hk hu => ⟨own_row (e3 k' s u hk hu).1 k (fun b hb e => own_blk_ne (e3 k' s u hk hu).1 hB h1 (by rw [hb, e])), own_row (e3 k' s u hk hu).2 k (fun b hb e => own_blk_ne (e3 k' s u hk hu).2 hB h2 (by rw [hb, e]))⟩⟩
theorem OwnSn.store {w w' : World} {base N : Nat} {v : Value} {h : List Snp} {t : TypeId} {cs : Array Value} (ho : OwnSn w base v h) (k : w.grownBy w' (some N)) (hB : Blk w N t cs) (h1 : 34 ≠ t) (hv : ∀ b, v.ownBlock = some b → b ≠ N) : OwnSn w' base v h := by
  obtain ⟨us, e1, e2, e3⟩ := ho
  exact ⟨us, e1, own_row e2 k hv, fun k' s u hk hu => own_row (e3 k' s u hk hu) k (fun b hb e => own_blk_ne (e3 k' s u hk hu) hB h1 (by rw [hb, e]))⟩
/-- The records of a checkpoint hold entries of the versions alone. -/
theorem diff_small {a b : Snp} (hb : ∀ e ∈ b.l, e.small) : ∀ e ∈ (diffR a b).add, e.small := fun e he => hb e (miss_mem.1 he).1
theorem chkGo_small : ∀ {h : List Snp} {a : Snp} {acc : List Rcd}, (∀ r ∈ acc, ∀ e ∈ r.add, e.small) → (∀ s ∈ h, ∀ e ∈ s.l, e.small) → ∀ r ∈ (chkGo a acc h).2, ∀ e ∈ r.add, e.small
  | [], _, _, ha, _ => ha
  | b :: h, a, acc, ha, hh => by
    unfold chkGo
    split
    · intro r hr; simp at hr
    split
    · intro r hr; simp at hr
    · refine chkGo_small (fun r hr => ?_) (fun s hs => hh s (by simp [hs]))
      rcases List.mem_append.1 hr with h1 | h1
      · exact ha r h1
      · simp at h1; subst h1; exact diff_small (hh b (by simp))
theorem chkV_small {h : List Snp} (hh : ∀ s ∈ h, ∀ e ∈ s.l, e.small) : ∀ r ∈ (chkV h).2, ∀ e ∈ r.add, e.small := by
  rcases h with _ | ⟨s, h⟩
  · intro r hr; simp [chkV] at hr
  · show ∀ r ∈ (if (s :: h).all Snp.okB = true then chkGo s [baseR s] h else (1, [])).2, _
    split
    · refine chkGo_small (fun r hr => ?_) (fun t ht => hh t (by simp [ht]))
      simp at hr; subst hr; exact hh s (by simp)
    · intro r hr; simp at hr
def RetChk (w : World) (res : Int × List Rcd) (e : Ending) (w' : World) : Prop :=
  ∃ v, e = .returned (.tuple #[v, .int .i64 res.1]) ∧ OwnRc w' w.heap.size v res.2 ∧ Below w.heap.size w w'
end Go.Proofs.Ytoikgjhekemjdaa
