/-
  PredtextFormats: the law returns true for every input, and what was there before the call is unchanged. Condition: none beyond the given row.
-/
import Derived.Test.YtjnamjkdjcndiaaDoorRows
import Derived.Test.YtjnamjkdjcndiaaDoorBase
import Derived.Test.YtjnamjkdjcndiaaDoorLPredtextFormats
import Derived.Test.YtjnamjkdjcndiaaDoorFrameN
import Derived.WalkKit
import Derived.ProofKit
import Derived.OpenShut
import Derived.ShutString
import Derived.ChangeOld
import Derived.Below
import Derived.JoinedCond
import Derived.Test.YtjnamjkdjcndiaaDoorLaid
import Derived.Test.YtjnamjkdjcndiaaDoorCards
import Derived.Test.YtjnamjkdjcndiaaDoorTie
import Derived.SevenTiedAt
import Derived.SizedLaws
namespace Go.Proofs.YtjnamjkdjcndiaaDoor.predtextFormats
open Go.ChangeShapes Go.WideShapes Go.ChangeAt Go.RowKit
open Go.ChangeMaps (open_string shut_string)
set_option linter.unusedVariables false
set_option linter.unusedSimpArgs false

theorem own : ownKnob Tryd.prog.godebug = none := by kernel_rfl
theorem laidOut : laidOutB Tryd.prog = true := by kernel_rfl

set_option maxRecDepth 100000 in
theorem contract (H : Type) (enc : TypeId × Value → H) (W : World) (base : Nat) (args : Array Value) (ds gs : List (DataW H)) (before : List MemPlace)
    (hval : ∀ (j : Nat) t v, Tryd.f3.params[j]? = some t → args[j]? = some v → Value.okWide Tryd.prog W .any base t v)
    (hW : DataW.Whole enc Tryd.prog Tryd.f3.params.toList Rows.predtextFormatsSpec.vars false W args.toList ds gs before) (hL : laidMetH Tryd.prog laid3 W) (hsz0 : (DataW.weightsEach Tryd.prog (Tryd.f3.params.toList ++ Rows.predtextFormatsSpec.plain.varTypes Tryd.prog) (ds ++ gs)).all (· ≤ reachBytes) = true) :
    Calls Tryd.prog 3 args W fun e W' => ∃ v, e = .returned v ∧ Rows.predtextFormatsSpec.post enc Tryd.prog Tryd.f3 false true false false W args v W' := by
  have hW' := hW
  obtain ⟨p, q, hA0, hV, rfl, hfz, hnd⟩ := hW
  have hA : DataW.TrodAll enc Tryd.prog W 0 (fun _ => true) true Tryd.f3.params.toList args.toList ds p := hA0
  have hsz := hsz0
  rw [Tryd.params3] at hA hval hsz
  obtain ⟨v0, vs0, d0, ds0, p0, q0, hargs, rfl, rfl, h0, r0x⟩ := trodAll_cons hA
  obtain ⟨v1, vs1, d1, ds1, p1, q1, rfl, rfl, rfl, h1, r1x⟩ := trodAll_cons r0x
  obtain ⟨v2, vs2, d2, ds2, p2, q2, rfl, rfl, rfl, h2, r2x⟩ := trodAll_cons r1x
  obtain ⟨v3, vs3, d3, ds3, p3, q3, rfl, rfl, rfl, h3, r3x⟩ := trodAll_cons r2x
  obtain ⟨rfl, rfl, rfl⟩ := trodAll_nil r3x
  obtain rfl : args = #[v0, v1, v2, v3] := by cases args; simp_all
  obtain ⟨rfl, rfl⟩ := trodVars_none hV
  have k0 := h0
  have lt0 : ∀ x ∈ p0, x.block < W.heap.size := by obtain ⟨m, hm⟩ := k0; exact DataW.trod_lt m _ _ _ hm
  obtain ⟨v0x, l0, x0, rfl, y0, z0, e0, q0⟩ := opened_schema (hval 0 24 v0 rfl rfl) h0
  have k1 := h1
  have lt1 : ∀ x ∈ p1, x.block < W.heap.size := by obtain ⟨m, hm⟩ := k1; exact DataW.trod_lt m _ _ _ hm
  obtain ⟨l1, s1, e1, b1⟩ := opened_nodes (hval 1 25 v1 rfl rfl) h1
  have k2 := h2
  have lt2 : ∀ x ∈ p2, x.block < W.heap.size := by obtain ⟨m, hm⟩ := k2; exact DataW.trod_lt m _ _ _ hm
  obtain ⟨A2, n2, c2, z2, rfl, r2, u2⟩ := opened_ints Tryd.underlying26 Tryd.underlying3 (by kernel_rfl) (hval 2 26 v2 rfl rfl) h2
  have k3 := h3
  have lt3 : ∀ x ∈ p3, x.block < W.heap.size := by obtain ⟨m, hm⟩ := k3; exact DataW.trod_lt m _ _ _ hm
  obtain ⟨A3, n3, c3, z3, rfl, r3, u3⟩ := opened_ints Tryd.underlying26 Tryd.underlying3 (by kernel_rfl) (hval 3 26 v3 rfl rfl) h3
  rw [List.append_nil] at hsz
  clear hA0
  obtain ⟨I2, rfl, y2, q2, f2⟩ := isRow_sl r2
  obtain ⟨I3, rfl, y3, q3, f3⟩ := isRow_sl r3
  refine (predtextFormats_walk _ _ _ _ _ l0 l1 I2 I3 W (tab_of_laid hL) y0 s1 ⟨z0, b1, fun c hc => by have := (e0 c hc).nm; unfold maxLen at this; omega, fun x hx => (e1 x hx).1, fun x hx => (e1 x hx).2⟩ y2 q2 (fun x hx => wf_bd (f2 x hx)) y3 q3 (fun x hx => wf_bd (f3 x hx))).mono fun e W' ⟨he, bel⟩ => ?_
  subst he
  exact ⟨_, rfl, _, _, _, [], _, [], hW', trodAll_mk1 (shut_bool Tryd.underlying4 _), (trodAll_cons_mk (Below.trod laidOut (by kernel_rfl) (of_decide_eq_true (by kernel_rfl)) k0 bel lt0) (trodAll_cons_mk (Below.trod laidOut (by kernel_rfl) (of_decide_eq_true (by kernel_rfl)) k1 bel lt1) (trodAll_cons_mk (Below.trod laidOut (by kernel_rfl) (of_decide_eq_true (by kernel_rfl)) k2 bel lt2) (trodAll_cons_mk (Below.trod laidOut (by kernel_rfl) (of_decide_eq_true (by kernel_rfl)) k3 bel lt3) trodAll_mk0)))), rfl, bel.frame _, fun h => by cases h⟩

set_option maxRecDepth 100000 in
theorem lifted (os : Os) (started : os.Started) (H : Type) (enc : TypeId × Value → H) :
    ReturnsInHanded {} Tryd.checked os 3 .any (fun w args => (Rows.predtextFormatsSpec.pre enc Tryd.prog Tryd.f3 [] false w args ∧ laidMetH Tryd.prog laid3 w) ∧ sizedMet enc Tryd.prog Tryd.f3 (OpenSpec.ofChange Rows.predtextFormatsSpec) false w args) (Rows.predtextFormatsSpec.post enc Tryd.prog Tryd.f3 false true false false) := by
  refine returnsInHanded_of_change_and (C := Tryd.checked) (X := fun w _ => laidMetH Tryd.prog laid3 w) (fun _ _ _ hh h => h.of_heap hh) own started (by kernel_rfl) Tryd.func3
    (ChangeSpec.witness_shaped (enc := enc) (C := Tryd.checked) (os := os) (X := fun w _ => laidMetH Tryd.prog laid3 w) false (World.doorLaid Tryd.prog 24 os) #[.agg #[.slice none 0 0, .int .i64 0], .slice none 0 0, .slice none 0 0, .slice none 0 0] 8 rfl (World.shaped_of_RefB (by kernel_rfl) (by kernel_rfl)) (by kernel_rfl) (by kernel_rfl) (by kernel_rfl) (door3 os _)) ?_
  intro W base args ds gs before hval hW _ hsz hL _
  exact contract H enc W base args ds gs before hval hW hL hsz

theorem over : Rows.predtextFormatsRow.holds Tryd.pinned (OpenSpec.ofChange Rows.predtextFormatsSpec) :=
  OpenClaim.holds_of_wide 3 Tryd.f3 rfl rfl rfl rfl rfl rfl rfl ⟨rfl, rfl, rfl, rfl, rfl⟩ rfl rfl rfl rfl rfl (by kernel_rfl) Tryd.func3 (by kernel_rfl)
    (of_decide_eq_true (by kernel_rfl)) (by unfold Func.isWrapper; first | (rw [if_pos (by decide +kernel)]; kernel_rfl) | (rw [if_neg (by decide +kernel)]; exact ⟨rfl, rfl⟩))
    (fun os started H enc _ => lifted os started H enc)

/-- The statement: the card, its listed variables tied to the program's text. -/
theorem proved : Rows.PredtextFormatsCardSaid :=
  Claim7.holds_tied_plain_at .later [] [.data, .data, .data] true (true, "9bb6e62a7a16201c0d11231dd9cc7a22af83c7b85e0a26f2bd4287d9578eed82") false
    over (fun _ h => by cases h) (by kernel_rfl) (fun _ h => by cases h) predtextFormats_row_tie rfl ⟨rfl, rfl⟩ (by kernel_rfl) rfl
    (fun f fn hf hfn => by
      obtain rfl : f = 3 := Option.some.inj ((show Tryd.prog.funcNamed "micropart/micropartlaw22.PredtextFormats" = some 3 by kernel_rfl).symm.trans hf) |>.symm
      obtain rfl : fn = Tryd.f3 := (Option.some.inj (Tryd.func3.symm.trans hfn)).symm
      exact ⟨by kernel_rfl, fun j t ht => by
        rw [Tryd.params3] at ht
        rcases j with _ | _ | _ | _ | j
        · obtain rfl : 24 = t := by simpa using ht
          exact (show Tryd.prog.wantsStandIn 24 = false by kernel_rfl)
        · obtain rfl : 25 = t := by simpa using ht
          exact (show Tryd.prog.wantsStandIn 25 = false by kernel_rfl)
        · obtain rfl : 26 = t := by simpa using ht
          exact (show Tryd.prog.wantsStandIn 26 = false by kernel_rfl)
        · obtain rfl : 26 = t := by simpa using ht
          exact (show Tryd.prog.wantsStandIn 26 = false by kernel_rfl)
        · simp at ht⟩)
    (by kernel_rfl)
#print axioms proved
end Go.Proofs.YtjnamjkdjcndiaaDoor.predtextFormats
