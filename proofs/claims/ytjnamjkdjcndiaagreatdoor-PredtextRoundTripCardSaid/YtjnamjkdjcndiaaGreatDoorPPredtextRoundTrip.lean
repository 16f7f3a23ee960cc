/-
  PredtextRoundTrip: the law returns true for every input, and what was there before the call is unchanged. Condition: none beyond the given row.
-/
import Derived.Test.YtjnamjkdjcndiaaGreatDoorRows
import Derived.Test.YtjnamjkdjcndiaaGreatDoorFrame
import Derived.Test.YtjnamjkdjcndiaaGreatDoorM24
import Derived.Test.YtjnamjkdjcndiaaGreatDoorFrameV
import Derived.WalkKit
import Derived.ProofKit
import Derived.OpenShut
import Derived.ShutString
import Derived.ChangeOld
import Derived.Below
import Derived.JoinedCond
import Derived.Test.YtjnamjkdjcndiaaGreatDoorLaid
import Derived.Test.YtjnamjkdjcndiaaGreatDoorCards
import Derived.Test.YtjnamjkdjcndiaaGreatDoorTie
import Derived.SevenTiedAt
import Derived.SizedLaws
import Derived.Lay
import Derived.Stop.Joined
namespace Go.Proofs.YtjnamjkdjcndiaaGreatDoor.predtextRoundTrip
open Go.ChangeShapes Go.WideShapes Go.ChangeAt Go.RowKit
open Go.ChangeMaps (open_string shut_string)
set_option linter.unusedVariables false
set_option linter.unusedSimpArgs false

theorem own : ownKnob Tryz.prog.godebug = none := by kernel_rfl
theorem laidOut : laidOutB Tryz.prog = true := by kernel_rfl

set_option maxRecDepth 100000 in
theorem contract (H : Type) (enc : TypeId × Value → H) (W : World) (base : Nat) (args : Array Value) (ds gs : List (DataW H)) (before : List MemPlace)
    (hval : ∀ (j : Nat) t v, Tryz.f6.params[j]? = some t → args[j]? = some v → Value.okWide Tryz.prog W .any base t v)
    (hW : DataW.Whole enc Tryz.prog Tryz.f6.params.toList Rows.predtextRoundTripSpec.vars false W args.toList ds gs before) (hL : laidMetH Tryz.prog laid7 W) (hsz0 : (DataW.weightsEach Tryz.prog (Tryz.f6.params.toList ++ Rows.predtextRoundTripSpec.plain.varTypes Tryz.prog) (ds ++ gs)).all (· ≤ reachBytes) = true) :
    Calls Tryz.prog 6 args W fun e W' => ∃ v, e = .returned v ∧ Rows.predtextRoundTripSpec.post enc Tryz.prog Tryz.f6 false true false false W args v W' := by
  have hW' := hW
  obtain ⟨p, q, hA0, hV, rfl, hfz, hnd⟩ := hW
  have hA : DataW.TrodAll enc Tryz.prog W 0 (fun _ => true) true Tryz.f6.params.toList args.toList ds p := hA0
  have hsz := hsz0
  rw [Tryz.params6] at hA hval hsz
  obtain ⟨v0, vs0, d0, ds0, p0, q0, hargs, rfl, rfl, h0, r0x⟩ := trodAll_cons hA
  obtain ⟨v1, vs1, d1, ds1, p1, q1, rfl, rfl, rfl, h1, r1x⟩ := trodAll_cons r0x
  obtain ⟨v2, vs2, d2, ds2, p2, q2, rfl, rfl, rfl, h2, r2x⟩ := trodAll_cons r1x
  obtain ⟨rfl, rfl, rfl⟩ := trodAll_nil r2x
  obtain rfl : args = #[v0, v1, v2] := by cases args; simp_all
  obtain ⟨rfl, rfl⟩ := trodVars_none hV
  have k0 := h0
  have lt0 : ∀ x ∈ p0, x.block < W.heap.size := by obtain ⟨m, hm⟩ := k0; exact DataW.trod_lt m _ _ _ hm
  obtain ⟨A0, n0, c0, z0, rfl, r0, u0⟩ := opened_ints Tryz.underlying36 Tryz.underlying3 (by kernel_rfl) (hval 0 36 v0 rfl rfl) h0
  have k1 := h1
  have lt1 : ∀ x ∈ p1, x.block < W.heap.size := by obtain ⟨m, hm⟩ := k1; exact DataW.trod_lt m _ _ _ hm
  obtain ⟨A1, n1, c1, z1, rfl, r1, u1⟩ := opened_ints Tryz.underlying36 Tryz.underlying3 (by kernel_rfl) (hval 1 36 v1 rfl rfl) h1
  have k2 := h2
  have lt2 : ∀ x ∈ p2, x.block < W.heap.size := by obtain ⟨m, hm⟩ := k2; exact DataW.trod_lt m _ _ _ hm
  obtain ⟨A2, n2, c2, z2, rfl, r2, u2⟩ := opened_ints Tryz.underlying36 Tryz.underlying3 (by kernel_rfl) (hval 2 36 v2 rfl rfl) h2
  rw [List.append_nil] at hsz
  clear hA0
  obtain ⟨I0, rfl, y0, q0, f0⟩ := isRow_sl r0
  obtain ⟨I1, rfl, y1, q1, f1⟩ := isRow_sl r1
  obtain ⟨I2, rfl, y2, q2, f2⟩ := isRow_sl r2
  refine (predtextRoundTrip_walk _ _ _ I0 I1 I2 W (env_of_laid hL) y0 q0 (fun x hx => wf_bd (f0 x hx)) y1 q1 (fun x hx => wf_bd (f1 x hx)) y2 q2 (fun x hx => wf_bd (f2 x hx))).mono fun e W' ⟨he, bel⟩ => ?_
  subst he
  exact ⟨_, rfl, _, _, _, [], _, [], hW', trodAll_mk1 (shut_bool Tryz.underlying4 _), (trodAll_cons_mk (Below.trod laidOut (by kernel_rfl) (of_decide_eq_true (by kernel_rfl)) k0 bel lt0) (trodAll_cons_mk (Below.trod laidOut (by kernel_rfl) (of_decide_eq_true (by kernel_rfl)) k1 bel lt1) (trodAll_cons_mk (Below.trod laidOut (by kernel_rfl) (of_decide_eq_true (by kernel_rfl)) k2 bel lt2) trodAll_mk0))), rfl, bel.frame _, fun h => by cases h⟩

set_option maxRecDepth 100000 in
theorem lifted (os : Os) (started : os.Started) (H : Type) (enc : TypeId × Value → H) :
    ReturnsInHanded {} Tryz.checked os 6 .any (fun w args => (Rows.predtextRoundTripSpec.pre enc Tryz.prog Tryz.f6 [] false w args ∧ laidMetH Tryz.prog laid7 w) ∧ sizedMet enc Tryz.prog Tryz.f6 (OpenSpec.ofChange Rows.predtextRoundTripSpec) false w args) (Rows.predtextRoundTripSpec.post enc Tryz.prog Tryz.f6 false true false false) := by
  refine returnsInHanded_of_change_and (C := Tryz.checked) (X := fun w _ => laidMetH Tryz.prog laid7 w) (fun _ _ _ hh h => h.of_heap hh) own started (by kernel_rfl) Tryz.func6
    (ChangeSpec.witness_shaped (enc := enc) (C := Tryz.checked) (os := os) (X := fun w _ => laidMetH Tryz.prog laid7 w) false (World.laidAll Tryz.prog os laid7) #[.slice none 0 0, .slice none 0 0, .slice none 0 0] 8 (World.laidAll_os _ _ _) (World.shaped_of_ZipB (by kernel_rfl) (by kernel_rfl)) (by kernel_rfl) (by kernel_rfl) (by kernel_rfl) (by rw [MakeChecks.laidMetH_plain _ _ _ (by kernel_rfl)]; exact laidMet_laidAll _ (by kernel_rfl) (by kernel_rfl))) ?_
  intro W base args ds gs before hval hW _ hsz hL _
  exact contract H enc W base args ds gs before hval hW hL hsz

theorem over : Rows.predtextRoundTripRow.holds Tryz.pinned (OpenSpec.ofChange Rows.predtextRoundTripSpec) :=
  OpenClaim.holds_of_wide 6 Tryz.f6 rfl rfl rfl rfl rfl rfl rfl ⟨rfl, rfl, rfl, rfl, rfl⟩ rfl rfl rfl rfl rfl (by kernel_rfl) Tryz.func6 (by kernel_rfl)
    (of_decide_eq_true (by kernel_rfl)) (by unfold Func.isWrapper; first | (rw [if_pos (by decide +kernel)]; kernel_rfl) | (rw [if_neg (by decide +kernel)]; exact ⟨rfl, rfl⟩))
    (fun os started H enc _ => lifted os started H enc)

/-- The statement: the card, its listed variables tied to the program's text. -/
theorem proved : Rows.PredtextRoundTripCardSaid :=
  Claim7.holds_tied_plain_at .later [] [.data, .data, .data, .data, .sentinel, .sentinel, .pinned] true (true, "4ef181abfba726c1fe59c08e36b1e1057f10c8f4f4f0e5d0872d5392ed29c004") true
    over (fun _ h => by cases h) (by kernel_rfl) (fun _ h => by cases h) predtextRoundTrip_row_tie rfl ⟨rfl, rfl⟩ (by kernel_rfl) rfl
    (fun f fn hf hfn => by
      obtain rfl : f = 6 := Option.some.inj ((show Tryz.prog.funcNamed "micropart/micropartlaw22.PredtextRoundTrip" = some 6 by kernel_rfl).symm.trans hf) |>.symm
      obtain rfl : fn = Tryz.f6 := (Option.some.inj (Tryz.func6.symm.trans hfn)).symm
      exact ⟨by kernel_rfl, fun j t ht => by
        rw [Tryz.params6] at ht
        rcases j with _ | _ | _ | j
        · obtain rfl : 36 = t := by simpa using ht
          exact (show Tryz.prog.wantsStandIn 36 = false by kernel_rfl)
        · obtain rfl : 36 = t := by simpa using ht
          exact (show Tryz.prog.wantsStandIn 36 = false by kernel_rfl)
        · obtain rfl : 36 = t := by simpa using ht
          exact (show Tryz.prog.wantsStandIn 36 = false by kernel_rfl)
        · simp at ht⟩)
    (by kernel_rfl)
#print axioms proved
end Go.Proofs.YtjnamjkdjcndiaaGreatDoor.predtextRoundTrip
