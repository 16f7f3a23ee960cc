/-
  A record as a parameter: what the given row's reading says of it.
-/
import Derived.Test.YtoikgjhekemjdaaFrameE
namespace Go.Proofs.Ytoikgjhekemjdaa
open Go.ChangeShapes Go.WideShapes Go.ChangeAt Go.RowKit
theorem array6 {α : Type} {cs : Array α} (h : cs.size = 6) : ∃ c0 c1 c2 c3 c4 c5, cs = #[c0, c1, c2, c3, c4, c5] := by
  obtain ⟨l⟩ := cs
  match l, h with
  | [c0, c1, c2, c3, c4, c5], _ => exact ⟨c0, c1, c2, c3, c4, c5, rfl⟩
section
variable {H : Type} {enc : TypeId × Value → H} {W : World} {b0 : Nat}
theorem trod_ints1 {base : Nat} {held : Bool} {w : World} {fuel : Nat} {c : Value} {x : DataW H × List MemPlace} (h : DataW.trod enc Try.prog w base (fun _ => true) held fuel 36 [c] = some x) :
    ∃ l : List Int, Sl w 1 c l.length (ints l) ∧ l.length ≤ 9223372036854775807 ∧ ∀ n ∈ l, (Lit.int .i64 n).wf = true := by
  rcases open_ints Try.underlying36 Try.underlying3 (by kernel_rfl) h with ⟨hcs, _⟩ | ⟨a, l, cp, zs, hcs, _, hl, hm, hz, hx, hcell, hwz⟩
  · simp at hcs; subst hcs
    exact ⟨[], Sl.nil _ _, by simp, by simp⟩
  · simp at hcs; subst hcs
    obtain ⟨l2, rfl, h1, h2, h3⟩ := isRow_sl (w := w) (.inr ⟨a, rfl, hl, hm, by simpa using hz, hcell, hwz⟩)
    exact ⟨l2, h1, h2, h3⟩
set_option maxRecDepth 100000 in
theorem opened_record {v : Value} {d : DataW H} {p : List MemPlace} (hval : Value.okWide Try.prog W .any b0 38 v) (h : DataW.Trod enc Try.prog W 0 (fun _ => true) true 38 v d p) :
    ∃ (k x q n : Int) (va vr : Value) (add : List Ent) (rem : List Int), v = .agg #[.int .i64 k, .int .i64 x, .int .i64 q, .int .i64 n, va, vr] ∧ Sl W 12 va add.length (ents add) ∧ (∀ e ∈ add, e.wf) ∧ add.length ≤ 9223372036854775807 ∧ Sl W 1 vr rem.length (ints rem) ∧ rem.length ≤ 9223372036854775807 := by
  have hs := Try.underlying38
  obtain ⟨cs, rfl, hsz⟩ := okWide_struct hs hval
  obtain ⟨c0, c1, c2, c3, c4, c5, rfl⟩ := array6 (hsz.trans (by kernel_rfl))
  obtain ⟨fuel, hf⟩ := h
  obtain ⟨xs, m, _, hx, hl, hlen, hg⟩ := DataW.trod_struct hs hf
  have hlen' : xs.length = 6 := hlen
  clear hx
  match xs, hlen' with
  | [y0, y1, y2, y3, y4, y5], _ =>
    have kI : Try.prog.cellsOf 3 = 1 := by kernel_rfl
    have kJ : Try.prog.cellsOf 2 = 1 := by kernel_rfl
    have kE : Try.prog.cellsOf 22 = 1 := by kernel_rfl
    have kL : Try.prog.cellsOf 36 = 1 := by kernel_rfl
    have g0 := hg 0 _ rfl
    have g1 := hg 1 _ rfl
    have g2 := hg 2 _ rfl
    have g3 := hg 3 _ rfl
    have g4 := hg 4 _ rfl
    have g5 := hg 5 _ rfl
    simp [kI, kJ, kE, kL, Value.cells] at g0 g1 g2 g3 g4 g5
    obtain ⟨a, e0, _, _⟩ := DataW.trod_int Try.underlying3 g0
    obtain ⟨b, e1, _, _⟩ := DataW.trod_int Try.underlying3 g1
    obtain ⟨c, e2, _, _⟩ := DataW.trod_int Try.underlying2 g2
    obtain ⟨e, e3, _, _⟩ := DataW.trod_int Try.underlying3 g3
    obtain ⟨s, l, e4, hs4, hw4, _, hm4⟩ := trod_entries g4
    obtain ⟨l5, hs5, hm5, _⟩ := trod_ints1 g5
    simp at e0 e1 e2 e3 e4
    subst e0 e1 e2 e3 e4
    exact ⟨a, b, c, e, _, _, l, l5, rfl, hs4, hw4, hm4, hs5, hm5⟩
end
end Go.Proofs.Ytoikgjhekemjdaa
