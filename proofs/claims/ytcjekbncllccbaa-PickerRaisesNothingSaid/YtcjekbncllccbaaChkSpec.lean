/-
  What snapshot.Checkpoint answers, in plain Lean; History answers the versions that were put in.
-/
import Derived.Test.YtcjekbncllccbaaApplyMeans
import Derived.Test.YtcjekbncllccbaaSameSn
import Derived.Test.YtcjekbncllccbaaSnL
namespace Go.Proofs.Ytcjekbncllccbaa
/-- The entries of a list that another one lacks. -/
def missE (l o : List Ent) : List Ent := l.filter fun e => !hasE o e
def diffR (a b : Snp) : Rcd := ⟨2, b.ver, b.seq, b.nid, missE b.l a.l, (missE a.l b.l).map (·.id)⟩
def baseR (s : Snp) : Rcd := ⟨1, s.ver, s.seq, s.nid, s.l, []⟩
def chkGo : Snp → List Rcd → List Snp → Int × List Rcd
  | _, acc, [] => (0, acc)
  | a, acc, b :: h => if b.ver ≠ a.ver + 1 then (13, []) else if b.seq < a.seq ∨ b.nid < a.nid then (4, []) else chkGo b (acc ++ [diffR a b]) h
def chkV : List Snp → Int × List Rcd
  | [] => (1, [])
  | s :: h => if (s :: h).all Snp.okB = true then chkGo s [baseR s] h else (1, [])
theorem chkGo_drop {a : Snp} {acc : List Rcd} {h : List Snp} {k : Nat} {b : Snp} (hk : h[k]? = some b) :
    chkGo a acc (h.drop k) = if b.ver ≠ a.ver + 1 then (13, []) else if b.seq < a.seq ∨ b.nid < a.nid then (4, []) else chkGo b (acc ++ [diffR a b]) (h.drop (k + 1)) := by
  obtain ⟨hl, e⟩ := List.getElem?_eq_some_iff.1 hk
  rw [List.drop_eq_getElem_cons hl, e]; rfl
theorem chkGo_ver {a : Snp} {acc : List Rcd} {h : List Snp} {k : Nat} {b : Snp} (hk : h[k]? = some b) (hv : b.ver ≠ a.ver + 1) : chkGo a acc (h.drop k) = (13, []) := by rw [chkGo_drop hk, if_pos hv]
theorem chkGo_rng {a : Snp} {acc : List Rcd} {h : List Snp} {k : Nat} {b : Snp} (hk : h[k]? = some b) (hv : b.ver = a.ver + 1) (hr : b.seq < a.seq ∨ b.nid < a.nid) : chkGo a acc (h.drop k) = (4, []) := by
  rw [chkGo_drop hk, if_neg (fun c => c hv), if_pos hr]
theorem chkGo_next {a : Snp} {acc : List Rcd} {h : List Snp} {k : Nat} {b : Snp} (hk : h[k]? = some b) (hv : b.ver = a.ver + 1) (hr : ¬(b.seq < a.seq ∨ b.nid < a.nid)) : chkGo a acc (h.drop k) = chkGo b (acc ++ [diffR a b]) (h.drop (k + 1)) := by
  rw [chkGo_drop hk, if_neg (fun c => c hv), if_neg hr]
theorem chkGo_end {a : Snp} {acc : List Rcd} {h : List Snp} {k : Nat} (hk : h.length ≤ k) : chkGo a acc (h.drop k) = (0, acc) := by rw [List.drop_eq_nil_of_le hk]; rfl
theorem chkV_bad {s : Snp} {h : List Snp} (hb : (s :: h).all Snp.okB = false) : chkV (s :: h) = (1, []) := if_neg (by rw [hb]; simp)
theorem chkV_go {s : Snp} {h : List Snp} (hb : (s :: h).all Snp.okB = true) : chkV (s :: h) = chkGo s [baseR s] h := if_pos hb
theorem miss_mem {l o : List Ent} {e : Ent} : e ∈ missE l o ↔ e ∈ l ∧ e ∉ o := by
  unfold missE
  rw [List.mem_filter]
  cases h : hasE o e with
  | true => have := hasE_iff.1 h; simp [this]
  | false => have := hasE_false.1 h; simp [this]
theorem miss_asc {l o : List Ent} (h : Asc l) : Asc (missE l o) := List.Pairwise.filter _ h
theorem miss_len (l o : List Ent) : (missE l o).length ≤ l.length := List.length_filter_le _ _
theorem asc_inj : ∀ {l : List Ent} {a b : Ent}, Asc l → a ∈ l → b ∈ l → a.id = b.id → a = b
  | [], _, _, _, h, _, _ => by simp at h
  | x :: r, a, b, h, ha, hb, e => by
    have hr := List.pairwise_cons.1 h
    rcases List.mem_cons.1 ha with h1 | h1 <;> rcases List.mem_cons.1 hb with h2 | h2
    · rw [h1, h2]
    · have := hr.1 b h2; rw [h1] at e; omega
    · have := hr.1 a h1; rw [h2] at e; omega
    · exact asc_inj hr.2 h1 h2 e
theorem entsB_of {l : List Ent} (h : Asc l) (hk : ∀ e ∈ l, e.okB = true) : entsB l = true := allTo_true.2 fun k hl => by
  have he := List.getElem?_eq_getElem hl
  rw [okAt_get he, hk _ (List.getElem_mem hl), Bool.true_and]
  rcases k with _ | k
  · rfl
  · have hd := List.getElem?_eq_getElem (show k < l.length by omega)
    rw [ascAt_succ hd he, decide_eq_true_eq]
    exact List.pairwise_iff_getElem.1 h k (k + 1) (by omega) hl (by omega)
theorem remB_ids {l : List Ent} (h : Asc l) (hk : ∀ e ∈ l, 1 ≤ e.id ∧ e.id ≤ 2147483647) : remB (l.map (·.id)) = true := allTo_true.2 fun k hl => by
  have hl' : k < l.length := by simpa using hl
  have he : (l.map (·.id))[k]? = some l[k].id := by rw [List.getElem?_map, List.getElem?_eq_getElem hl']; rfl
  have h1 := hk _ (List.getElem_mem hl')
  unfold remAt
  rw [he]
  rcases k with _ | k
  · simp [h1.1, h1.2]
  · have hd : (l.map (·.id))[k]? = some l[k].id := by rw [List.getElem?_map, List.getElem?_eq_getElem (show k < l.length by omega)]; rfl
    have h2 := List.pairwise_iff_getElem.1 h k (k + 1) (by omega) hl' (by omega)
    simp [hd, h1.1, h1.2, h2]
theorem remAll_some : ∀ {rem : List Int} {l : List Ent}, Asc l → (∀ i ∈ rem, ∃ e ∈ l, e.id = i) → rem.Pairwise (· < ·) → ∃ l', remAll l rem = some l'
  | [], l, _, _, _ => ⟨l, rfl⟩
  | i :: r, l, ha, hm, hp => by
    obtain ⟨e, he, hi⟩ := hm i (by simp)
    have hp' := List.pairwise_cons.1 hp
    cases hx : idxE l i with
    | none => exact absurd hi (idxE_none.1 hx e he)
    | some k =>
      obtain ⟨l', hl'⟩ := remAll_some (rem := r) (l := l.eraseIdx k) (erase_asc ha k) (fun j hj => by
        obtain ⟨d, hd, hdj⟩ := hm j (by simp [hj])
        refine ⟨d, ?_, hdj⟩
        rw [erase_filter ha hx, List.mem_filter]
        have := hp'.1 j hj
        exact ⟨hd, by simp; omega⟩) hp'.2
      refine ⟨l', ?_⟩
      unfold remAll; rw [hx]; exact hl'
theorem asc_ids {l : List Ent} (h : Asc l) : (l.map (·.id)).Pairwise (· < ·) := List.pairwise_map.2 h
theorem asc_nodup {l : List Ent} (h : Asc l) : l.Nodup := (show l.Pairwise fun a b : Ent => a.id < b.id from h).imp fun hab e => by rw [e] at hab; omega
/-- One version is followed by another. -/
def Follows (a b : Snp) : Prop := b.ver = a.ver + 1 ∧ a.seq ≤ b.seq ∧ a.nid ≤ b.nid
theorem apply_diff {a b : Snp} (ha : a.okB = true) (hb : b.okB = true) (h : Follows a b) : applyV a (diffR a b) = (0, b) := by
  obtain ⟨hv, hq, hn⟩ := h
  obtain ⟨pa, ea⟩ := snapB_parts ha
  obtain ⟨pb, eb⟩ := snapB_parts hb
  obtain ⟨a1, a2, a3, a4, a5, a6, a7⟩ := pa
  obtain ⟨b1, b2, b3, b4, b5, b6, b7⟩ := pb
  have aa := entsB_asc ea
  have ab := entsB_asc eb
  have idA : ∀ e ∈ a.l, 1 ≤ e.id ∧ e.id ≤ 2147483647 := fun e he => okB_id (entsB_ok ea he)
  have hrec : recV (diffR a b) = 0 := by
    have hH : RecHead (diffR a b) := ⟨.inr rfl, ⟨b1, b2, b3, b4, b5, b6⟩, by
      have h1 := miss_len b.l a.l
      have h2 := miss_len a.l b.l
      exact ⟨by show (missE b.l a.l).length ≤ _; omega, by show ((missE a.l b.l).map _).length ≤ _; rw [List.length_map]; omega⟩⟩
    rw [recV_head hH, if_pos]
    refine ⟨entsB_of (miss_asc ab) fun e he => entsB_ok eb (miss_mem.1 he).1, remB_ids (miss_asc aa) fun e he => idA e (miss_mem.1 he).1, fun h => ?_⟩
    exact absurd (show (2 : Int) = 1 from h) (by decide)
  obtain ⟨l', hl'⟩ := remAll_some (rem := (missE a.l b.l).map (·.id)) aa (fun i hi => by
    obtain ⟨e, he, rfl⟩ := List.mem_map.1 hi
    exact ⟨e, (miss_mem.1 he).1, rfl⟩) (asc_ids (miss_asc aa))
  have hf := remAll_filter aa hl'
  have hmem : ∀ e, e ∈ l' ↔ e ∈ a.l ∧ e ∈ b.l := fun e => by
    rw [hf, List.mem_filter]
    constructor
    · rintro ⟨h1, h2⟩
      refine ⟨h1, Classical.byContradiction fun hn => ?_⟩
      simp at h2
      exact h2 e (miss_mem.2 ⟨h1, hn⟩) rfl
    · rintro ⟨h1, h2⟩
      refine ⟨h1, ?_⟩
      simp only [List.mem_map, not_exists, not_and, decide_eq_true_eq]
      intro d hd hid
      have := miss_mem.1 hd
      exact this.2 (asc_inj aa this.1 h1 hid ▸ h2)
  have hl'a : Asc l' := remAll_asc aa hl'
  have hd : dupB l' (missE b.l a.l) = false := by
    unfold dupB
    rw [List.any_eq_false]
    intro x hx
    have hx' := miss_mem.1 hx
    have : idxE l' x.id = none := idxE_none.2 fun e he hid => by
      have he' := (hmem e).1 he
      exact hx'.2 (asc_inj ab he'.2 hx'.1 hid ▸ he'.1)
    rw [this]; simp
  have hperm : (insAll l' (missE b.l a.l)).Perm b.l := by
    refine (insAll_perm _ _).trans ?_
    refine (List.perm_ext_iff_of_nodup ?_ (asc_nodup ab)).2 fun e => ?_
    · refine List.nodup_append.2 ⟨asc_nodup hl'a, asc_nodup (miss_asc ab), ?_⟩
      rintro x hx y hy rfl
      exact (miss_mem.1 hy).2 ((hmem x).1 hx).1
    · rw [List.mem_append, hmem, miss_mem]
      constructor
      · rintro (h | h)
        · exact h.2
        · exact h.1
      · intro h
        by_cases hx : e ∈ a.l
        · exact .inl ⟨hx, h⟩
        · exact .inr ⟨h, hx⟩
  have heq : insAll l' (missE b.l a.l) = b.l := asc_unique (insAll_asc hl'a (miss_asc ab) hd) ab hperm
  unfold applyV
  rw [if_neg (by rw [ha, hrec]; simp [diffR]), if_neg (by simpa [diffR] using hv), if_neg (by show ¬(b.seq < a.seq ∨ b.nid < a.nid); omega)]
  show (match remAll a.l ((missE a.l b.l).map (·.id)) with | none => _ | some l => _) = _
  rw [hl']
  show (if dupB l' (missE b.l a.l) = true then _ else lastV (diffR a b) (insAll l' (missE b.l a.l))) = _
  rw [if_neg (by rw [hd]; simp), heq]
  unfold lastV
  rw [if_neg (by omega), if_pos (by exact hb)]
  rfl
/-- A history: valid versions that follow one another. -/
def Chain : Snp → List Snp → Prop
  | _, [] => True
  | a, b :: h => Follows a b ∧ b.okB = true ∧ Chain b h
theorem chain_chk : ∀ {h : List Snp} {a : Snp} {acc : List Rcd}, Chain a h → ∃ r, chkGo a acc h = (0, acc ++ r) ∧ r.length = h.length ∧ ∀ s acc', a.okB = true → s = a → histGo s acc' r = (0, acc' ++ h)
  | [], a, acc, _ => ⟨[], by simp [chkGo], rfl, fun s acc' _ _ => by simp [histGo]⟩
  | b :: h, a, acc, hc => by
    obtain ⟨hf, hb, hh⟩ := hc
    obtain ⟨r, h1, h2, h3⟩ := chain_chk (acc := acc ++ [diffR a b]) hh
    refine ⟨diffR a b :: r, ?_, by simp [h2], ?_⟩
    · unfold chkGo
      rw [if_neg (fun c => c hf.1), if_neg (by have := hf.2; omega), h1]
      simp
    · rintro s acc' ha rfl
      unfold histGo
      rw [apply_diff ha hb hf, if_neg (fun c => c rfl), h3 b _ hb rfl]
      simp
theorem base_ok {s : Snp} (h : s.okB = true) : recV (baseR s) = 0 := by
  obtain ⟨⟨a1, a2, a3, a4, a5, a6, a7⟩, ea⟩ := snapB_parts h
  have hH : RecHead (baseR s) := ⟨.inl rfl, ⟨a1, a2, a3, a4, a5, a6⟩, ⟨a7, by show ([] : List Int).length ≤ _; simp⟩⟩
  rw [recV_head hH, if_pos]
  exact ⟨ea, rfl, fun _ => rfl⟩
theorem chain_all : ∀ {h : List Snp} {a : Snp}, Chain a h → h.all Snp.okB = true
  | [], _, _ => rfl
  | b :: h, a, hc => by simp [hc.2.1]; simpa using chain_all hc.2.2
/-- History of the checkpoint of a history is that history. -/
theorem hist_chk {s : Snp} {h : List Snp} (hs : s.okB = true) (hc : Chain s h) : ∃ r, chkV (s :: h) = (0, r) ∧ r.length = h.length + 1 ∧ histV r = (0, s :: h) := by
  obtain ⟨r, h1, h2, h3⟩ := chain_chk (acc := [baseR s]) hc
  refine ⟨baseR s :: r, ?_, by simp [h2], ?_⟩
  · rw [chkV_go (by simp [hs]; simpa using chain_all hc), h1]; rfl
  · rw [histV_go (base_ok hs) rfl (by exact hs), h3 (baseOf (baseR s)) _ hs rfl]
    rfl
theorem chain_snoc : ∀ {h : List Snp} {a x y : Snp}, Chain a h → (a :: h)[h.length]? = some x → Follows x y → y.okB = true → Chain a (h ++ [y])
  | [], a, x, y, _, hx, hf, hy => by simp at hx; subst hx; exact ⟨hf, hy, trivial⟩
  | b :: h, a, x, y, hc, hx, hf, hy => ⟨hc.1, hc.2.1, chain_snoc hc.2.2 (by simpa using hx) hf hy⟩
/-- The last versions of a history are one. -/
theorem chain_drop : ∀ {k : Nat} {h : List Snp} {a x : Snp}, a.okB = true → Chain a h → (a :: h)[k]? = some x → x.okB = true ∧ ∃ t, (a :: h).drop k = x :: t ∧ Chain x t
  | 0, h, a, x, ha, hc, hx => by simp at hx; subst hx; exact ⟨ha, h, rfl, hc⟩
  | k + 1, [], a, x, ha, hc, hx => by simp at hx
  | k + 1, b :: h, a, x, ha, hc, hx => by
    have := chain_drop (k := k) hc.2.1 hc.2.2 (by simpa using hx)
    simpa using this
end Go.Proofs.Ytcjekbncllccbaa
