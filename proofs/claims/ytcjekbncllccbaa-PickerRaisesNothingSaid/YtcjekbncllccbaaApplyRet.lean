/-
  What Apply hands back, and the ways on which it answers an error.
-/
import Derived.Test.YtcjekbncllccbaaSnapGen
import Derived.Test.YtcjekbncllccbaaRecCheck
namespace Go.Proofs.Ytcjekbncllccbaa
open Go.RowKit Go.Sort
def RetApply (w : World) (res : Int × Snp) (e : Ending) (w' : World) : Prop :=
  ∃ v, e = .returned (.tuple #[.agg #[.int .i64 res.2.ver, .int .i64 res.2.seq, .int .i64 res.2.nid, v], .int .i64 res.1]) ∧ w'.ownsRow w.heap.size 41 12 v res.2.l.length (ents res.2.l) ∧ Below w.heap.size w w'
theorem retApply_err {w w' : World} {err : Int} {res : Int × Snp} (h : res = (err, zsnp)) (hb : Below w.heap.size w w') : RetApply w res (.returned (.tuple #[.agg #[.int .i64 0, .int .i64 0, .int .i64 0, .slice none 0 0], .int .i64 err])) w' := by
  subst h; exact ⟨_, rfl, World.ownsRow_nil _ _ _ _, hb⟩
theorem snapB_parts {x q n : Int} {l : List Ent} (h : snapB x q n l = true) : HeadOk x q n l.length ∧ entsB l = true := by
  unfold snapB at h
  simp only [Bool.and_eq_true] at h
  refine ⟨?_, h.1.2⟩
  have hb := h.1.1
  simp only [headB, Bool.and_eq_true, decide_eq_true_eq] at hb
  obtain ⟨⟨⟨⟨⟨⟨h1, h2⟩, h3⟩, h4⟩, h5⟩, h6⟩, h7⟩ := hb
  exact ⟨h1, h2, h3, h4, h5, h6, h7⟩
section
variable {s : Snp} {r : Rcd}
theorem applyV_bad (h : snapB s.ver s.seq s.nid s.l = false ∨ recV r ≠ 0 ∨ r.kind ≠ 2) : applyV s r = (1, zsnp) := by unfold applyV Snp.okB; rw [if_pos h]
theorem ok_not (h1 : snapB s.ver s.seq s.nid s.l = true) (h2 : recV r = 0) (h3 : r.kind = 2) : ¬(snapB s.ver s.seq s.nid s.l = false ∨ recV r ≠ 0 ∨ r.kind ≠ 2) := by
  rintro (h | h | h)
  · rw [h1] at h; cases h
  · exact h h2
  · exact h h3
theorem applyV_ver (h1 : snapB s.ver s.seq s.nid s.l = true) (h2 : recV r = 0) (h3 : r.kind = 2) (h : r.ver ≠ s.ver + 1) : applyV s r = (13, zsnp) := by
  unfold applyV Snp.okB; rw [if_neg (ok_not h1 h2 h3), if_pos h]
theorem applyV_range (h1 : snapB s.ver s.seq s.nid s.l = true) (h2 : recV r = 0) (h3 : r.kind = 2) (h4 : r.ver = s.ver + 1) (h : r.seq < s.seq ∨ r.nid < s.nid) : applyV s r = (4, zsnp) := by
  unfold applyV Snp.okB; rw [if_neg (ok_not h1 h2 h3), if_neg (fun k => k h4), if_pos h]
def applyGo (l : Option (List Ent)) (r : Rcd) : Int × Snp := match l with
  | none => (6, zsnp)
  | some l => if dupB l r.add = true then (5, zsnp) else lastV r (insAll l r.add)
theorem applyV_go (h1 : snapB s.ver s.seq s.nid s.l = true) (h2 : recV r = 0) (h3 : r.kind = 2) (h4 : r.ver = s.ver + 1) (h : ¬(r.seq < s.seq ∨ r.nid < s.nid)) : applyV s r = applyGo (remAll s.l r.rem) r := by
  unfold applyV Snp.okB; rw [if_neg (ok_not h1 h2 h3), if_neg (fun k => k h4), if_neg h]; rfl
end
end Go.Proofs.Ytcjekbncllccbaa
