/-
  The invariant of a region that keeps several values of keep.Value.
-/
import Derived.Test.YtdffmkbcjnonaaaKValue
import Derived.Test.YtdffmkbcjnonaaaInv
namespace Go.Proofs.Ytdffmkbcjnonaaa
open Go.RowKit
def OkV (t : Int) (cn : Bool) (u : Value) : Prop := ∃ (b : Bool) (n : Int) (s : ByteArray), u = .agg #[.bool b, .int .i64 n, .string s] ∧ ValOk t cn b n s
def KF (pl pm pc pa ps : Bool) (N : Nat) (T : TypeId) (OK : Value → Prop) (col v ul um uc ux : Value) (w : World) : Prop :=
  (pl = true → ul = col) ∧ (pm = true → um = v) ∧ (pc = true → OK uc) ∧
  (pa = true → ∃ (A : Nat) (x y z : Value), ux = .pointer (some ⟨A, 0, none⟩) ∧ N ≤ A ∧ Blk w A T #[x, y, z] ∧ (ps = true → uc = .agg #[x, y, z])) ∧ (ps = true → pa = true ∧ pc = true)
def sep (p q : Bool) (x y : Value) : Prop := p = true → q = true → x ≠ y
section
variable {pl pm pc pa ps : Bool} {N : Nat} {T : TypeId} {OK : Value → Prop} {col v ul um uc ux : Value} {w w' : World} {t : Int} {cn : Bool}
theorem KF.start (pl pm pc pa ps : Bool) (h1 : pl = false) (h2 : pm = false) (h3 : pc = false) (h4 : pa = false) (h5 : ps = false) : KF pl pm pc pa ps N T OK col v ul um uc ux w := by
  subst h1 h2 h3 h4 h5; exact ⟨nofun, nofun, nofun, nofun, nofun⟩
theorem KF.l (h : KF pl pm pc pa ps N T OK col v ul um uc ux w) : KF true pm pc pa ps N T OK col v col um uc ux w := ⟨fun _ => rfl, h.2⟩
theorem KF.m (h : KF pl pm pc pa ps N T OK col v ul um uc ux w) : KF pl true pc pa ps N T OK col v ul v uc ux w := ⟨h.1, fun _ => rfl, h.2.2⟩
theorem KF.below (h : KF pl pm pc pa ps N T OK col v ul um uc ux w) (hb : Below w.heap.size w w') : KF pl pm pc pa ps N T OK col v ul um uc ux w' := by
  obtain ⟨h1, h2, h3, h4, h5⟩ := h
  refine ⟨h1, h2, h3, fun hp => ?_, h5⟩
  obtain ⟨A, x, y, z, e, hN, hB, hs⟩ := h4 hp
  exact ⟨A, x, y, z, e, hN, hB.below hb hB.lt, hs⟩
theorem KF.c (h : KF pl pm pc pa ps N T OK col v ul um uc ux w) (hc : pc = false) {u : Value} (hu : OK u) : KF pl pm true pa ps N T OK col v ul um u ux w := by
  obtain ⟨h1, h2, h3, h4, h5⟩ := h
  have hps : ps = false := by cases ps with | false => rfl | true => have := (h5 rfl).2; rw [hc] at this; cases this
  subst hps
  refine ⟨h1, h2, fun _ => hu, fun hp => ?_, nofun⟩
  obtain ⟨A, x, y, z, e, hN, hB, hs⟩ := h4 hp
  exact ⟨A, x, y, z, e, hN, hB, nofun⟩
theorem KF.a (h : KF pl pm pc pa ps N T OK col v ul um uc ux w) (ha : pa = false) {A : Nat} {x y z : Value} (hN : N ≤ A) (hB : Blk w' A T #[x, y, z]) : KF pl pm pc true ps N T OK col v ul um uc (.pointer (some ⟨A, 0, none⟩)) w' := by
  obtain ⟨h1, h2, h3, h4, h5⟩ := h
  have hps : ps = false := by cases ps with | false => rfl | true => have := (h5 rfl).1; rw [ha] at this; cases this
  subst hps
  exact ⟨h1, h2, h3, fun _ => ⟨A, x, y, z, rfl, hN, hB, nofun⟩, nofun⟩
theorem KF.s {A : Nat} {x y z : Value} (h : KF pl pm pc pa ps N T OK col v ul um (.agg #[x, y, z]) (.pointer (some ⟨A, 0, none⟩)) w) (hc : pc = true) (ha : pa = true) (hB : Blk w' A T #[x, y, z]) :
    KF pl pm pc pa true N T OK col v ul um (.agg #[x, y, z]) (.pointer (some ⟨A, 0, none⟩)) w' := by
  obtain ⟨h1, h2, h3, h4, h5⟩ := h
  subst hc ha
  refine ⟨h1, h2, h3, fun hp => ?_, fun _ => ⟨rfl, rfl⟩⟩
  obtain ⟨A', _, _, _, e, hN, _, _⟩ := h4 hp
  cases e
  exact ⟨_, x, y, z, rfl, hN, hB, fun _ => rfl⟩
theorem KF.far {A : Nat} (h : KF pl pm pc pa ps N T OK col v ul um uc ux w) (hs : pa = true → ux ≠ .pointer (some ⟨A, 0, none⟩)) (hw : ∀ g cs, g ≠ A → Blk w g T cs → Blk w' g T cs) :
    KF pl pm pc pa ps N T OK col v ul um uc ux w' := by
  obtain ⟨h1, h2, h3, h4, h5⟩ := h
  refine ⟨h1, h2, h3, fun hp => ?_, h5⟩
  obtain ⟨B, x, y, z, e, hN, hB, hd⟩ := h4 hp
  refine ⟨B, x, y, z, e, hN, hw B _ (fun he => hs hp (by rw [e, he])) hB, hd⟩
theorem KF.ptr (h : KF pl pm pc pa ps N T OK col v ul um uc ux w) (ha : pa = true) : ∃ (A : Nat) (x y z : Value), ux = .pointer (some ⟨A, 0, none⟩) ∧ N ≤ A ∧ Blk w A T #[x, y, z] := by
  obtain ⟨A, x, y, z, e, hN, hB, _⟩ := h.2.2.2.1 ha
  exact ⟨A, x, y, z, e, hN, hB⟩
theorem KF.fin (h : KF pl pm pc pa true N T (OkV t cn) col v ul um uc ux w) : ∃ (A : Nat) (b : Bool) (n : Int) (s : ByteArray), ux = .pointer (some ⟨A, 0, none⟩) ∧ N ≤ A ∧ ValOk t cn b n s ∧ Blk w A T #[.bool b, .int .i64 n, .string s] := by
  obtain ⟨h1, h2, h3, h4, h5⟩ := h
  obtain ⟨ha, hc⟩ := h5 rfl
  obtain ⟨A, x, y, z, e, hN, hB, hd⟩ := h4 ha
  obtain ⟨b, n, s, e2, hok⟩ := h3 hc
  have := hd rfl
  rw [e2] at this
  cases this
  exact ⟨A, b, n, s, e, hN, hok, hB⟩
theorem KF.new_ne (h : KF pl pm pc pa ps N T OK col v ul um uc ux w) : pa = true → ux ≠ .pointer (some ⟨w.heap.size, 0, none⟩) := by
  intro hp he
  obtain ⟨A, x, y, z, e, hN, hB, _⟩ := h.2.2.2.1 hp
  have := hB.lt
  rw [e] at he
  cases he
  exact Nat.lt_irrefl _ this
end
theorem blk3 {w : World} {A : Nat} {T : TypeId} {x y z : Value} (a b c : Value) (h : Blk w A T #[x, y, z]) :
    Blk (((w.setCell ⟨A, 0, none⟩ a).setCell ⟨A, 1, none⟩ b).setCell ⟨A, 2, none⟩ c) A T #[a, b, c] := ((h.set_ 0 a).set_ 1 b).set_ 2 c
theorem far3 {w : World} {A : Nat} {T : TypeId} (a b c : Value) (g : Nat) (cs : Array Value) (hg : g ≠ A) (h : Blk w g T cs) :
    Blk (((w.setCell ⟨A, 0, none⟩ a).setCell ⟨A, 1, none⟩ b).setCell ⟨A, 2, none⟩ c) g T cs := ((h.far (by exact hg) a).far (by exact hg) b).far (by exact hg) c
theorem below3 {w v : World} {A N : Nat} (a b c : Value) (h : Below N w v) (hA : N ≤ A) :
    Below N w (((v.setCell ⟨A, 0, none⟩ a).setCell ⟨A, 1, none⟩ b).setCell ⟨A, 2, none⟩ c) :=
  ((h.setCell (p := ⟨A, 0, none⟩) hA a).setCell (p := ⟨A, 1, none⟩) hA b).setCell (p := ⟨A, 2, none⟩) hA c
end Go.Proofs.Ytdffmkbcjnonaaa
