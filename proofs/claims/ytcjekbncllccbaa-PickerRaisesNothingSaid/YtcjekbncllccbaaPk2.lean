/-
  The contracts of picker.ordered, adjacent and Adjacent.
-/
import Derived.Test.YtcjekbncllccbaaPk1
namespace Go.Proofs.Ytcjekbncllccbaa
open Go.RowKit Go.Sort

def swapB (t : Int) (a b : Ent) : Bool := decide (0 < orV [cmpR t a.lo b.lo, ordI a.id b.id])
def gapAt (t : Int) (l : List Ent) (x y : Nat) (ex ey : Ent) (j : Nat) : Bool := decide (j = x) || decide (j = y) || (match l[j]? with | some e => !(decide (0 < cmpR t e.hi ex.hi) && decide (cmpR t e.lo ey.lo < 0)) | none => true)
def adjI (t : Int) (l : List Ent) (i k : Nat) (a b : Ent) : Bool := !decide (i = k) && !meetE t a b && (if swapB t a b = true then allTo (gapAt t l k i b a) l.length else allTo (gapAt t l i k a b) l.length)
def RetOrd (w : World) (i k : Nat) (s : Bool) (e : Ending) (w' : World) : Prop := e = .returned (if s = true then .tuple #[.int .i64 (k : Int), .int .i64 (i : Int)] else .tuple #[.int .i64 (i : Int), .int .i64 (k : Int)]) ∧ Below w.heap.size w w'
set_option maxHeartbeats 400000 in
theorem cmpJ_any (a b : Int) (w : World) : Calls Try.prog 37 #[.int .i64 a, .int .i64 b] w (RetI0 w (ordI a b)) := by
  by_cases h1 : a < b
  · have H := Lib.hid (show ordI a b = -1 by unfold ordI; rw [if_pos h1])
    go_enter Try.func37, Try.ntmps37
    go_wp2
    go_ret
    exact RetI0.mk_ H.out
  · by_cases h2 : b < a
    · have H := Lib.hid (show ordI a b = 1 by unfold ordI; rw [if_neg h1, if_pos h2])
      go_enter Try.func37, Try.ntmps37
      go_wp2
      go_ret
      exact RetI0.mk_ H.out
    · have H := Lib.hid (show ordI a b = 0 by unfold ordI; rw [if_neg h1, if_neg h2])
      go_enter Try.func37, Try.ntmps37
      go_wp2
      go_ret
      exact RetI0.mk_ H.out
set_option maxRecDepth 100000 in
set_option maxHeartbeats 8000000 in
theorem pordered_any (t : Int) (v : Value) (l : List Ent) (i k : Nat) (ea eb : Ent) (w : World) (hs : Sl w 12 v l.length (ents l)) (_hl : l.length ≤ 1000000) (hi : i < l.length) (hk : k < l.length) (ha : l[i]? = some ea) (hb : l[k]? = some eb) :
    Calls Try.prog 45 #[.int .i64 t, v, .int .i64 (i : Int), .int .i64 (k : Int)] w (RetOrd w i k (swapB t ea eb)) := by
  obtain ⟨A, c, rfl, hc1, hc2⟩ := hs.form
  obtain ⟨ad, ea', pi, rfl, ha', hpi, hEI⟩ := hs.ent_load rfl hi
  obtain ⟨ad', eb', pk, e0, hb', hpk, hEK⟩ := hs.ent_load rfl hk
  injection e0 with e0
  subst e0
  rw [ha] at ha'
  injection ha' with ha'
  subst ha'
  rw [hb] at hb'
  injection hb' with hb'
  subst hb'
  have EI := Lib.hid hEI
  have EK := Lib.hid hEK
  have hplI := hEI.lt
  have hplK := hEK.lt
  obtain ⟨ck, hck⟩ : ∃ ck, cmpR t ea.lo eb.lo = ck := ⟨_, rfl⟩
  have C1 := Lib.hid (fun (X : World) => show Calls Try.prog 46 #[.int .i64 t, .agg #[.bool ea.lo.null, .int .i64 ea.lo.n, .string ea.lo.s, .int .i64 ea.lo.seq], .agg #[.bool eb.lo.null, .int .i64 eb.lo.n, .string eb.lo.s, .int .i64 eb.lo.seq]] X (RetN X ck) by rw [← hck]; exact bcmp_any t ea.lo eb.lo X)
  obtain ⟨oi, hoi⟩ : ∃ oi, ordI ea.id eb.id = oi := ⟨_, rfl⟩
  have C2 := Lib.hid (fun (X : World) => show Calls Try.prog 37 #[.int .i64 ea.id, .int .i64 eb.id] X (RetI0 X oi) by rw [← hoi]; exact cmpJ_any ea.id eb.id X)
  obtain ⟨sb, hsb⟩ : ∃ sb, decide (0 < orV [ck, oi]) = sb := ⟨_, rfl⟩
  have HSW := Lib.hid (show swapB t ea eb = sb by unfold swapB; rw [hck, hoi, hsb])
  have HSB := Lib.hid hsb
  clear hck hoi hs ha hb hEI hEK hsb
  go_enter Try.func45, Try.ntmps45
  go_upto_region 1 with (fail)
  refine wp_region_inv (by kernel_rfl) (by kernel_rfl) (fun L a w' => ∃ u10 u11 u12 u13 u14 u15 u16 u17 u18 u19 u20 u21 u22 u23 u24 u25 u26 u27 u28 u29 u30 u31 u32 u33 u34 u35 : Value, a = ⟨#[.int .i64 t, .slice (some ad) l.length c, .int .i64 i, .int .i64 k, undef, undef, undef, undef, .int .i64 0, .int .i64 0, u10, u11, u12, u13, u14, u15, u16, u17, u18, u19, u20, u21, u22, u23, u24, u25, u26, u27, u28, u29, u30, u31, u32, u33, u34, u35, undef, undef, undef, undef], []⟩ ∧
      Below w.heap.size w w' ∧ Got (L 0) u10 (.int .i64 t) ∧ Got (L 1) u11 (.slice (some ad) l.length c) ∧ Got (L 2) u12 (.int .i64 (i : Int)) ∧ Got (L 3) u13 (.pointer (some pi)) ∧ Got (L 4) u14 (.pointer (some { block := pi.block, off := pi.off + 3 })) ∧ Got (L 5) u15 (.agg #[.bool ea.lo.null, .int .i64 ea.lo.n, .string ea.lo.s, .int .i64 ea.lo.seq]) ∧ Got (L 6) u16 (.slice (some ad) l.length c) ∧ Got (L 7) u17 (.int .i64 (k : Int)) ∧ Got (L 8) u18 (.pointer (some pk)) ∧ Got (L 9) u19 (.pointer (some { block := pk.block, off := pk.off + 3 })) ∧ Got (L 10) u20 (.agg #[.bool eb.lo.null, .int .i64 eb.lo.n, .string eb.lo.s, .int .i64 eb.lo.seq]) ∧ Got (L 11) u21 (.int .i64 ck) ∧ Got (L 12) u22 (.slice (some ad) l.length c) ∧ Got (L 13) u23 (.int .i64 (i : Int)) ∧ Got (L 14) u24 (.pointer (some pi)) ∧ Got (L 15) u25 (.pointer (some pi)) ∧ Got (L 16) u26 (.int .i64 ea.id) ∧ Got (L 17) u27 (.slice (some ad) l.length c) ∧ Got (L 18) u28 (.int .i64 (k : Int)) ∧ Got (L 19) u29 (.pointer (some pk)) ∧ Got (L 20) u30 (.pointer (some pk)) ∧ Got (L 21) u31 (.int .i64 eb.id) ∧ Got (L 22) u32 (.int .i64 oi) ∧ GotRow (L 23) w.heap.size u33 2 3 #[.int .i64 ck, .int .i64 oi] w' ∧ Got (L 24) u34 (.int .i64 (orV [ck, oi])) ∧ Got (L 25) u35 (.bool sb))
    ?_ ?_ ?_
  · exact ⟨_, _, _, _, _, _, _, _, _, _, _, _, _, _, _, _, _, _, _, _, _, _, _, _, _, _, rfl, (Below.refl _ _).drew, nofun, nofun, nofun, nofun, nofun, nofun, nofun, nofun, nofun, nofun, nofun, nofun, nofun, nofun, nofun, nofun, nofun, nofun, nofun, nofun, nofun, nofun, nofun, nofun, nofun, nofun⟩
  · refine ⟨?_, ?_, ?_, ?_, ?_, ?_, ?_, ?_, ?_, ?_, ?_, ?_, ?_, ?_, ?_, ?_, ?_, ?_, ?_, ?_, ?_, ?_, ?_, ?_, ?_, ?_, trivial⟩
    · intro L a w' hI hl hd K hK
      refine hI.elim fun u10 hI => hI.elim fun u11 hI => hI.elim fun u12 hI => hI.elim fun u13 hI => hI.elim fun u14 hI => hI.elim fun u15 hI => hI.elim fun u16 hI => hI.elim fun u17 hI => hI.elim fun u18 hI => hI.elim fun u19 hI => hI.elim fun u20 hI => hI.elim fun u21 hI => hI.elim fun u22 hI => hI.elim fun u23 hI => hI.elim fun u24 hI => hI.elim fun u25 hI => hI.elim fun u26 hI => hI.elim fun u27 hI => hI.elim fun u28 hI => hI.elim fun u29 hI => hI.elim fun u30 hI => hI.elim fun u31 hI => hI.elim fun u32 hI => hI.elim fun u33 hI => hI.elim fun u34 hI => hI.elim fun u35 hI => ?_
      have ha := hI.1
      subst ha
      have hb := hI.2.1
      have g0 := hI.2.2.1
      have g1 := hI.2.2.2.1
      have g2 := hI.2.2.2.2.1
      have g3 := hI.2.2.2.2.2.1
      have g4 := hI.2.2.2.2.2.2.1
      have g5 := hI.2.2.2.2.2.2.2.1
      have g6 := hI.2.2.2.2.2.2.2.2.1
      have g7 := hI.2.2.2.2.2.2.2.2.2.1
      have g8 := hI.2.2.2.2.2.2.2.2.2.2.1
      have g9 := hI.2.2.2.2.2.2.2.2.2.2.2.1
      have g10 := hI.2.2.2.2.2.2.2.2.2.2.2.2.1
      have g11 := hI.2.2.2.2.2.2.2.2.2.2.2.2.2.1
      have g12 := hI.2.2.2.2.2.2.2.2.2.2.2.2.2.2.1
      have g13 := hI.2.2.2.2.2.2.2.2.2.2.2.2.2.2.2.1
      have g14 := hI.2.2.2.2.2.2.2.2.2.2.2.2.2.2.2.2.1
      have g15 := hI.2.2.2.2.2.2.2.2.2.2.2.2.2.2.2.2.2.1
      have g16 := hI.2.2.2.2.2.2.2.2.2.2.2.2.2.2.2.2.2.2.1
      have g17 := hI.2.2.2.2.2.2.2.2.2.2.2.2.2.2.2.2.2.2.2.1
      have g18 := hI.2.2.2.2.2.2.2.2.2.2.2.2.2.2.2.2.2.2.2.2.1
      have g19 := hI.2.2.2.2.2.2.2.2.2.2.2.2.2.2.2.2.2.2.2.2.2.1
      have g20 := hI.2.2.2.2.2.2.2.2.2.2.2.2.2.2.2.2.2.2.2.2.2.2.1
      have g21 := hI.2.2.2.2.2.2.2.2.2.2.2.2.2.2.2.2.2.2.2.2.2.2.2.1
      have g22 := hI.2.2.2.2.2.2.2.2.2.2.2.2.2.2.2.2.2.2.2.2.2.2.2.2.1
      have g23 := hI.2.2.2.2.2.2.2.2.2.2.2.2.2.2.2.2.2.2.2.2.2.2.2.2.2.1
      have g24 := hI.2.2.2.2.2.2.2.2.2.2.2.2.2.2.2.2.2.2.2.2.2.2.2.2.2.2.1
      have g25 := hI.2.2.2.2.2.2.2.2.2.2.2.2.2.2.2.2.2.2.2.2.2.2.2.2.2.2.2
      clear hI
      dsimp only at hK ⊢
      go_simp
      exact hK _ _ ⟨_, _, _, _, _, _, _, _, _, _, _, _, _, _, _, _, _, _, _, _, _, _, _, _, _, _, rfl, hb, fun _ => rfl, g1, g2, g3, g4, g5, g6, g7, g8, g9, g10, g11, g12, g13, g14, g15, g16, g17, g18, g19, g20, g21, g22, g23, g24, g25⟩
    · intro L a w' hI hl hd K hK
      refine hI.elim fun u10 hI => hI.elim fun u11 hI => hI.elim fun u12 hI => hI.elim fun u13 hI => hI.elim fun u14 hI => hI.elim fun u15 hI => hI.elim fun u16 hI => hI.elim fun u17 hI => hI.elim fun u18 hI => hI.elim fun u19 hI => hI.elim fun u20 hI => hI.elim fun u21 hI => hI.elim fun u22 hI => hI.elim fun u23 hI => hI.elim fun u24 hI => hI.elim fun u25 hI => hI.elim fun u26 hI => hI.elim fun u27 hI => hI.elim fun u28 hI => hI.elim fun u29 hI => hI.elim fun u30 hI => hI.elim fun u31 hI => hI.elim fun u32 hI => hI.elim fun u33 hI => hI.elim fun u34 hI => hI.elim fun u35 hI => ?_
      have ha := hI.1
      subst ha
      have hb := hI.2.1
      have g0 := hI.2.2.1
      have g1 := hI.2.2.2.1
      have g2 := hI.2.2.2.2.1
      have g3 := hI.2.2.2.2.2.1
      have g4 := hI.2.2.2.2.2.2.1
      have g5 := hI.2.2.2.2.2.2.2.1
      have g6 := hI.2.2.2.2.2.2.2.2.1
      have g7 := hI.2.2.2.2.2.2.2.2.2.1
      have g8 := hI.2.2.2.2.2.2.2.2.2.2.1
      have g9 := hI.2.2.2.2.2.2.2.2.2.2.2.1
      have g10 := hI.2.2.2.2.2.2.2.2.2.2.2.2.1
      have g11 := hI.2.2.2.2.2.2.2.2.2.2.2.2.2.1
      have g12 := hI.2.2.2.2.2.2.2.2.2.2.2.2.2.2.1
      have g13 := hI.2.2.2.2.2.2.2.2.2.2.2.2.2.2.2.1
      have g14 := hI.2.2.2.2.2.2.2.2.2.2.2.2.2.2.2.2.1
      have g15 := hI.2.2.2.2.2.2.2.2.2.2.2.2.2.2.2.2.2.1
      have g16 := hI.2.2.2.2.2.2.2.2.2.2.2.2.2.2.2.2.2.2.1
      have g17 := hI.2.2.2.2.2.2.2.2.2.2.2.2.2.2.2.2.2.2.2.1
      have g18 := hI.2.2.2.2.2.2.2.2.2.2.2.2.2.2.2.2.2.2.2.2.1
      have g19 := hI.2.2.2.2.2.2.2.2.2.2.2.2.2.2.2.2.2.2.2.2.2.1
      have g20 := hI.2.2.2.2.2.2.2.2.2.2.2.2.2.2.2.2.2.2.2.2.2.2.1
      have g21 := hI.2.2.2.2.2.2.2.2.2.2.2.2.2.2.2.2.2.2.2.2.2.2.2.1
      have g22 := hI.2.2.2.2.2.2.2.2.2.2.2.2.2.2.2.2.2.2.2.2.2.2.2.2.1
      have g23 := hI.2.2.2.2.2.2.2.2.2.2.2.2.2.2.2.2.2.2.2.2.2.2.2.2.2.1
      have g24 := hI.2.2.2.2.2.2.2.2.2.2.2.2.2.2.2.2.2.2.2.2.2.2.2.2.2.2.1
      have g25 := hI.2.2.2.2.2.2.2.2.2.2.2.2.2.2.2.2.2.2.2.2.2.2.2.2.2.2.2
      clear hI
      dsimp only at hK ⊢
      go_simp
      exact hK _ _ ⟨_, _, _, _, _, _, _, _, _, _, _, _, _, _, _, _, _, _, _, _, _, _, _, _, _, _, rfl, hb, g0, fun _ => rfl, g2, g3, g4, g5, g6, g7, g8, g9, g10, g11, g12, g13, g14, g15, g16, g17, g18, g19, g20, g21, g22, g23, g24, g25⟩
    · intro L a w' hI hl hd K hK
      refine hI.elim fun u10 hI => hI.elim fun u11 hI => hI.elim fun u12 hI => hI.elim fun u13 hI => hI.elim fun u14 hI => hI.elim fun u15 hI => hI.elim fun u16 hI => hI.elim fun u17 hI => hI.elim fun u18 hI => hI.elim fun u19 hI => hI.elim fun u20 hI => hI.elim fun u21 hI => hI.elim fun u22 hI => hI.elim fun u23 hI => hI.elim fun u24 hI => hI.elim fun u25 hI => hI.elim fun u26 hI => hI.elim fun u27 hI => hI.elim fun u28 hI => hI.elim fun u29 hI => hI.elim fun u30 hI => hI.elim fun u31 hI => hI.elim fun u32 hI => hI.elim fun u33 hI => hI.elim fun u34 hI => hI.elim fun u35 hI => ?_
      have ha := hI.1
      subst ha
      have hb := hI.2.1
      have g0 := hI.2.2.1
      have g1 := hI.2.2.2.1
      have g2 := hI.2.2.2.2.1
      have g3 := hI.2.2.2.2.2.1
      have g4 := hI.2.2.2.2.2.2.1
      have g5 := hI.2.2.2.2.2.2.2.1
      have g6 := hI.2.2.2.2.2.2.2.2.1
      have g7 := hI.2.2.2.2.2.2.2.2.2.1
      have g8 := hI.2.2.2.2.2.2.2.2.2.2.1
      have g9 := hI.2.2.2.2.2.2.2.2.2.2.2.1
      have g10 := hI.2.2.2.2.2.2.2.2.2.2.2.2.1
      have g11 := hI.2.2.2.2.2.2.2.2.2.2.2.2.2.1
      have g12 := hI.2.2.2.2.2.2.2.2.2.2.2.2.2.2.1
      have g13 := hI.2.2.2.2.2.2.2.2.2.2.2.2.2.2.2.1
      have g14 := hI.2.2.2.2.2.2.2.2.2.2.2.2.2.2.2.2.1
      have g15 := hI.2.2.2.2.2.2.2.2.2.2.2.2.2.2.2.2.2.1
      have g16 := hI.2.2.2.2.2.2.2.2.2.2.2.2.2.2.2.2.2.2.1
      have g17 := hI.2.2.2.2.2.2.2.2.2.2.2.2.2.2.2.2.2.2.2.1
      have g18 := hI.2.2.2.2.2.2.2.2.2.2.2.2.2.2.2.2.2.2.2.2.1
      have g19 := hI.2.2.2.2.2.2.2.2.2.2.2.2.2.2.2.2.2.2.2.2.2.1
      have g20 := hI.2.2.2.2.2.2.2.2.2.2.2.2.2.2.2.2.2.2.2.2.2.2.1
      have g21 := hI.2.2.2.2.2.2.2.2.2.2.2.2.2.2.2.2.2.2.2.2.2.2.2.1
      have g22 := hI.2.2.2.2.2.2.2.2.2.2.2.2.2.2.2.2.2.2.2.2.2.2.2.2.1
      have g23 := hI.2.2.2.2.2.2.2.2.2.2.2.2.2.2.2.2.2.2.2.2.2.2.2.2.2.1
      have g24 := hI.2.2.2.2.2.2.2.2.2.2.2.2.2.2.2.2.2.2.2.2.2.2.2.2.2.2.1
      have g25 := hI.2.2.2.2.2.2.2.2.2.2.2.2.2.2.2.2.2.2.2.2.2.2.2.2.2.2.2
      clear hI
      dsimp only at hK ⊢
      go_simp
      exact hK _ _ ⟨_, _, _, _, _, _, _, _, _, _, _, _, _, _, _, _, _, _, _, _, _, _, _, _, _, _, rfl, hb, g0, g1, fun _ => rfl, g3, g4, g5, g6, g7, g8, g9, g10, g11, g12, g13, g14, g15, g16, g17, g18, g19, g20, g21, g22, g23, g24, g25⟩
    · intro L a w' hI hl hd K hK
      refine hI.elim fun u10 hI => hI.elim fun u11 hI => hI.elim fun u12 hI => hI.elim fun u13 hI => hI.elim fun u14 hI => hI.elim fun u15 hI => hI.elim fun u16 hI => hI.elim fun u17 hI => hI.elim fun u18 hI => hI.elim fun u19 hI => hI.elim fun u20 hI => hI.elim fun u21 hI => hI.elim fun u22 hI => hI.elim fun u23 hI => hI.elim fun u24 hI => hI.elim fun u25 hI => hI.elim fun u26 hI => hI.elim fun u27 hI => hI.elim fun u28 hI => hI.elim fun u29 hI => hI.elim fun u30 hI => hI.elim fun u31 hI => hI.elim fun u32 hI => hI.elim fun u33 hI => hI.elim fun u34 hI => hI.elim fun u35 hI => ?_
      have ha := hI.1
      subst ha
      have hb := hI.2.1
      have g0 := hI.2.2.1
      have g1 := hI.2.2.2.1
      have g2 := hI.2.2.2.2.1
      have g3 := hI.2.2.2.2.2.1
      have g4 := hI.2.2.2.2.2.2.1
      have g5 := hI.2.2.2.2.2.2.2.1
      have g6 := hI.2.2.2.2.2.2.2.2.1
      have g7 := hI.2.2.2.2.2.2.2.2.2.1
      have g8 := hI.2.2.2.2.2.2.2.2.2.2.1
      have g9 := hI.2.2.2.2.2.2.2.2.2.2.2.1
      have g10 := hI.2.2.2.2.2.2.2.2.2.2.2.2.1
      have g11 := hI.2.2.2.2.2.2.2.2.2.2.2.2.2.1
      have g12 := hI.2.2.2.2.2.2.2.2.2.2.2.2.2.2.1
      have g13 := hI.2.2.2.2.2.2.2.2.2.2.2.2.2.2.2.1
      have g14 := hI.2.2.2.2.2.2.2.2.2.2.2.2.2.2.2.2.1
      have g15 := hI.2.2.2.2.2.2.2.2.2.2.2.2.2.2.2.2.2.1
      have g16 := hI.2.2.2.2.2.2.2.2.2.2.2.2.2.2.2.2.2.2.1
      have g17 := hI.2.2.2.2.2.2.2.2.2.2.2.2.2.2.2.2.2.2.2.1
      have g18 := hI.2.2.2.2.2.2.2.2.2.2.2.2.2.2.2.2.2.2.2.2.1
      have g19 := hI.2.2.2.2.2.2.2.2.2.2.2.2.2.2.2.2.2.2.2.2.2.1
      have g20 := hI.2.2.2.2.2.2.2.2.2.2.2.2.2.2.2.2.2.2.2.2.2.2.1
      have g21 := hI.2.2.2.2.2.2.2.2.2.2.2.2.2.2.2.2.2.2.2.2.2.2.2.1
      have g22 := hI.2.2.2.2.2.2.2.2.2.2.2.2.2.2.2.2.2.2.2.2.2.2.2.2.1
      have g23 := hI.2.2.2.2.2.2.2.2.2.2.2.2.2.2.2.2.2.2.2.2.2.2.2.2.2.1
      have g24 := hI.2.2.2.2.2.2.2.2.2.2.2.2.2.2.2.2.2.2.2.2.2.2.2.2.2.2.1
      have g25 := hI.2.2.2.2.2.2.2.2.2.2.2.2.2.2.2.2.2.2.2.2.2.2.2.2.2.2.2
      clear hI
      simp [Region.binds] at hd
      dsimp only at hK ⊢
      have e1 := g1 (by simp [hd])
      subst e1
      have e2 := g2 (by simp [hd])
      subst e2
      go_simp
      exact hK _ _ ⟨_, _, _, _, _, _, _, _, _, _, _, _, _, _, _, _, _, _, _, _, _, _, _, _, _, _, rfl, hb, g0, g1, g2, fun _ => rfl, g4, g5, g6, g7, g8, g9, g10, g11, g12, g13, g14, g15, g16, g17, g18, g19, g20, g21, g22, g23, g24, g25⟩
    · intro L a w' hI hl hd K hK
      refine hI.elim fun u10 hI => hI.elim fun u11 hI => hI.elim fun u12 hI => hI.elim fun u13 hI => hI.elim fun u14 hI => hI.elim fun u15 hI => hI.elim fun u16 hI => hI.elim fun u17 hI => hI.elim fun u18 hI => hI.elim fun u19 hI => hI.elim fun u20 hI => hI.elim fun u21 hI => hI.elim fun u22 hI => hI.elim fun u23 hI => hI.elim fun u24 hI => hI.elim fun u25 hI => hI.elim fun u26 hI => hI.elim fun u27 hI => hI.elim fun u28 hI => hI.elim fun u29 hI => hI.elim fun u30 hI => hI.elim fun u31 hI => hI.elim fun u32 hI => hI.elim fun u33 hI => hI.elim fun u34 hI => hI.elim fun u35 hI => ?_
      have ha := hI.1
      subst ha
      have hb := hI.2.1
      have g0 := hI.2.2.1
      have g1 := hI.2.2.2.1
      have g2 := hI.2.2.2.2.1
      have g3 := hI.2.2.2.2.2.1
      have g4 := hI.2.2.2.2.2.2.1
      have g5 := hI.2.2.2.2.2.2.2.1
      have g6 := hI.2.2.2.2.2.2.2.2.1
      have g7 := hI.2.2.2.2.2.2.2.2.2.1
      have g8 := hI.2.2.2.2.2.2.2.2.2.2.1
      have g9 := hI.2.2.2.2.2.2.2.2.2.2.2.1
      have g10 := hI.2.2.2.2.2.2.2.2.2.2.2.2.1
      have g11 := hI.2.2.2.2.2.2.2.2.2.2.2.2.2.1
      have g12 := hI.2.2.2.2.2.2.2.2.2.2.2.2.2.2.1
      have g13 := hI.2.2.2.2.2.2.2.2.2.2.2.2.2.2.2.1
      have g14 := hI.2.2.2.2.2.2.2.2.2.2.2.2.2.2.2.2.1
      have g15 := hI.2.2.2.2.2.2.2.2.2.2.2.2.2.2.2.2.2.1
      have g16 := hI.2.2.2.2.2.2.2.2.2.2.2.2.2.2.2.2.2.2.1
      have g17 := hI.2.2.2.2.2.2.2.2.2.2.2.2.2.2.2.2.2.2.2.1
      have g18 := hI.2.2.2.2.2.2.2.2.2.2.2.2.2.2.2.2.2.2.2.2.1
      have g19 := hI.2.2.2.2.2.2.2.2.2.2.2.2.2.2.2.2.2.2.2.2.2.1
      have g20 := hI.2.2.2.2.2.2.2.2.2.2.2.2.2.2.2.2.2.2.2.2.2.2.1
      have g21 := hI.2.2.2.2.2.2.2.2.2.2.2.2.2.2.2.2.2.2.2.2.2.2.2.1
      have g22 := hI.2.2.2.2.2.2.2.2.2.2.2.2.2.2.2.2.2.2.2.2.2.2.2.2.1
      have g23 := hI.2.2.2.2.2.2.2.2.2.2.2.2.2.2.2.2.2.2.2.2.2.2.2.2.2.1
      have g24 := hI.2.2.2.2.2.2.2.2.2.2.2.2.2.2.2.2.2.2.2.2.2.2.2.2.2.2.1
      have g25 := hI.2.2.2.2.2.2.2.2.2.2.2.2.2.2.2.2.2.2.2.2.2.2.2.2.2.2.2
      clear hI
      simp [Region.binds] at hd
      dsimp only at hK ⊢
      have e3 := g3 (by simp [hd])
      subst e3
      go_simp
      exact hK _ _ ⟨_, _, _, _, _, _, _, _, _, _, _, _, _, _, _, _, _, _, _, _, _, _, _, _, _, _, rfl, hb, g0, g1, g2, g3, fun _ => rfl, g5, g6, g7, g8, g9, g10, g11, g12, g13, g14, g15, g16, g17, g18, g19, g20, g21, g22, g23, g24, g25⟩
    · intro L a w' hI hl hd K hK
      refine hI.elim fun u10 hI => hI.elim fun u11 hI => hI.elim fun u12 hI => hI.elim fun u13 hI => hI.elim fun u14 hI => hI.elim fun u15 hI => hI.elim fun u16 hI => hI.elim fun u17 hI => hI.elim fun u18 hI => hI.elim fun u19 hI => hI.elim fun u20 hI => hI.elim fun u21 hI => hI.elim fun u22 hI => hI.elim fun u23 hI => hI.elim fun u24 hI => hI.elim fun u25 hI => hI.elim fun u26 hI => hI.elim fun u27 hI => hI.elim fun u28 hI => hI.elim fun u29 hI => hI.elim fun u30 hI => hI.elim fun u31 hI => hI.elim fun u32 hI => hI.elim fun u33 hI => hI.elim fun u34 hI => hI.elim fun u35 hI => ?_
      have ha := hI.1
      subst ha
      have hb := hI.2.1
      have g0 := hI.2.2.1
      have g1 := hI.2.2.2.1
      have g2 := hI.2.2.2.2.1
      have g3 := hI.2.2.2.2.2.1
      have g4 := hI.2.2.2.2.2.2.1
      have g5 := hI.2.2.2.2.2.2.2.1
      have g6 := hI.2.2.2.2.2.2.2.2.1
      have g7 := hI.2.2.2.2.2.2.2.2.2.1
      have g8 := hI.2.2.2.2.2.2.2.2.2.2.1
      have g9 := hI.2.2.2.2.2.2.2.2.2.2.2.1
      have g10 := hI.2.2.2.2.2.2.2.2.2.2.2.2.1
      have g11 := hI.2.2.2.2.2.2.2.2.2.2.2.2.2.1
      have g12 := hI.2.2.2.2.2.2.2.2.2.2.2.2.2.2.1
      have g13 := hI.2.2.2.2.2.2.2.2.2.2.2.2.2.2.2.1
      have g14 := hI.2.2.2.2.2.2.2.2.2.2.2.2.2.2.2.2.1
      have g15 := hI.2.2.2.2.2.2.2.2.2.2.2.2.2.2.2.2.2.1
      have g16 := hI.2.2.2.2.2.2.2.2.2.2.2.2.2.2.2.2.2.2.1
      have g17 := hI.2.2.2.2.2.2.2.2.2.2.2.2.2.2.2.2.2.2.2.1
      have g18 := hI.2.2.2.2.2.2.2.2.2.2.2.2.2.2.2.2.2.2.2.2.1
      have g19 := hI.2.2.2.2.2.2.2.2.2.2.2.2.2.2.2.2.2.2.2.2.2.1
      have g20 := hI.2.2.2.2.2.2.2.2.2.2.2.2.2.2.2.2.2.2.2.2.2.2.1
      have g21 := hI.2.2.2.2.2.2.2.2.2.2.2.2.2.2.2.2.2.2.2.2.2.2.2.1
      have g22 := hI.2.2.2.2.2.2.2.2.2.2.2.2.2.2.2.2.2.2.2.2.2.2.2.2.1
      have g23 := hI.2.2.2.2.2.2.2.2.2.2.2.2.2.2.2.2.2.2.2.2.2.2.2.2.2.1
      have g24 := hI.2.2.2.2.2.2.2.2.2.2.2.2.2.2.2.2.2.2.2.2.2.2.2.2.2.2.1
      have g25 := hI.2.2.2.2.2.2.2.2.2.2.2.2.2.2.2.2.2.2.2.2.2.2.2.2.2.2.2
      clear hI
      simp [Region.binds] at hd
      dsimp only at hK ⊢
      have e4 := g4 (by simp [hd])
      subst e4
      obtain ⟨_, c0, c1, c2, c3, c4, c5, c6, c7, c8, c9, c10, c11⟩ := EI.out.below hb
      go_simp
      exact hK _ _ ⟨_, _, _, _, _, _, _, _, _, _, _, _, _, _, _, _, _, _, _, _, _, _, _, _, _, _, rfl, hb, g0, g1, g2, g3, g4, fun _ => rfl, g6, g7, g8, g9, g10, g11, g12, g13, g14, g15, g16, g17, g18, g19, g20, g21, g22, g23, g24, g25⟩
    · intro L a w' hI hl hd K hK
      refine hI.elim fun u10 hI => hI.elim fun u11 hI => hI.elim fun u12 hI => hI.elim fun u13 hI => hI.elim fun u14 hI => hI.elim fun u15 hI => hI.elim fun u16 hI => hI.elim fun u17 hI => hI.elim fun u18 hI => hI.elim fun u19 hI => hI.elim fun u20 hI => hI.elim fun u21 hI => hI.elim fun u22 hI => hI.elim fun u23 hI => hI.elim fun u24 hI => hI.elim fun u25 hI => hI.elim fun u26 hI => hI.elim fun u27 hI => hI.elim fun u28 hI => hI.elim fun u29 hI => hI.elim fun u30 hI => hI.elim fun u31 hI => hI.elim fun u32 hI => hI.elim fun u33 hI => hI.elim fun u34 hI => hI.elim fun u35 hI => ?_
      have ha := hI.1
      subst ha
      have hb := hI.2.1
      have g0 := hI.2.2.1
      have g1 := hI.2.2.2.1
      have g2 := hI.2.2.2.2.1
      have g3 := hI.2.2.2.2.2.1
      have g4 := hI.2.2.2.2.2.2.1
      have g5 := hI.2.2.2.2.2.2.2.1
      have g6 := hI.2.2.2.2.2.2.2.2.1
      have g7 := hI.2.2.2.2.2.2.2.2.2.1
      have g8 := hI.2.2.2.2.2.2.2.2.2.2.1
      have g9 := hI.2.2.2.2.2.2.2.2.2.2.2.1
      have g10 := hI.2.2.2.2.2.2.2.2.2.2.2.2.1
      have g11 := hI.2.2.2.2.2.2.2.2.2.2.2.2.2.1
      have g12 := hI.2.2.2.2.2.2.2.2.2.2.2.2.2.2.1
      have g13 := hI.2.2.2.2.2.2.2.2.2.2.2.2.2.2.2.1
      have g14 := hI.2.2.2.2.2.2.2.2.2.2.2.2.2.2.2.2.1
      have g15 := hI.2.2.2.2.2.2.2.2.2.2.2.2.2.2.2.2.2.1
      have g16 := hI.2.2.2.2.2.2.2.2.2.2.2.2.2.2.2.2.2.2.1
      have g17 := hI.2.2.2.2.2.2.2.2.2.2.2.2.2.2.2.2.2.2.2.1
      have g18 := hI.2.2.2.2.2.2.2.2.2.2.2.2.2.2.2.2.2.2.2.2.1
      have g19 := hI.2.2.2.2.2.2.2.2.2.2.2.2.2.2.2.2.2.2.2.2.2.1
      have g20 := hI.2.2.2.2.2.2.2.2.2.2.2.2.2.2.2.2.2.2.2.2.2.2.1
      have g21 := hI.2.2.2.2.2.2.2.2.2.2.2.2.2.2.2.2.2.2.2.2.2.2.2.1
      have g22 := hI.2.2.2.2.2.2.2.2.2.2.2.2.2.2.2.2.2.2.2.2.2.2.2.2.1
      have g23 := hI.2.2.2.2.2.2.2.2.2.2.2.2.2.2.2.2.2.2.2.2.2.2.2.2.2.1
      have g24 := hI.2.2.2.2.2.2.2.2.2.2.2.2.2.2.2.2.2.2.2.2.2.2.2.2.2.2.1
      have g25 := hI.2.2.2.2.2.2.2.2.2.2.2.2.2.2.2.2.2.2.2.2.2.2.2.2.2.2.2
      clear hI
      dsimp only at hK ⊢
      go_simp
      exact hK _ _ ⟨_, _, _, _, _, _, _, _, _, _, _, _, _, _, _, _, _, _, _, _, _, _, _, _, _, _, rfl, hb, g0, g1, g2, g3, g4, g5, fun _ => rfl, g7, g8, g9, g10, g11, g12, g13, g14, g15, g16, g17, g18, g19, g20, g21, g22, g23, g24, g25⟩
    · intro L a w' hI hl hd K hK
      refine hI.elim fun u10 hI => hI.elim fun u11 hI => hI.elim fun u12 hI => hI.elim fun u13 hI => hI.elim fun u14 hI => hI.elim fun u15 hI => hI.elim fun u16 hI => hI.elim fun u17 hI => hI.elim fun u18 hI => hI.elim fun u19 hI => hI.elim fun u20 hI => hI.elim fun u21 hI => hI.elim fun u22 hI => hI.elim fun u23 hI => hI.elim fun u24 hI => hI.elim fun u25 hI => hI.elim fun u26 hI => hI.elim fun u27 hI => hI.elim fun u28 hI => hI.elim fun u29 hI => hI.elim fun u30 hI => hI.elim fun u31 hI => hI.elim fun u32 hI => hI.elim fun u33 hI => hI.elim fun u34 hI => hI.elim fun u35 hI => ?_
      have ha := hI.1
      subst ha
      have hb := hI.2.1
      have g0 := hI.2.2.1
      have g1 := hI.2.2.2.1
      have g2 := hI.2.2.2.2.1
      have g3 := hI.2.2.2.2.2.1
      have g4 := hI.2.2.2.2.2.2.1
      have g5 := hI.2.2.2.2.2.2.2.1
      have g6 := hI.2.2.2.2.2.2.2.2.1
      have g7 := hI.2.2.2.2.2.2.2.2.2.1
      have g8 := hI.2.2.2.2.2.2.2.2.2.2.1
      have g9 := hI.2.2.2.2.2.2.2.2.2.2.2.1
      have g10 := hI.2.2.2.2.2.2.2.2.2.2.2.2.1
      have g11 := hI.2.2.2.2.2.2.2.2.2.2.2.2.2.1
      have g12 := hI.2.2.2.2.2.2.2.2.2.2.2.2.2.2.1
      have g13 := hI.2.2.2.2.2.2.2.2.2.2.2.2.2.2.2.1
      have g14 := hI.2.2.2.2.2.2.2.2.2.2.2.2.2.2.2.2.1
      have g15 := hI.2.2.2.2.2.2.2.2.2.2.2.2.2.2.2.2.2.1
      have g16 := hI.2.2.2.2.2.2.2.2.2.2.2.2.2.2.2.2.2.2.1
      have g17 := hI.2.2.2.2.2.2.2.2.2.2.2.2.2.2.2.2.2.2.2.1
      have g18 := hI.2.2.2.2.2.2.2.2.2.2.2.2.2.2.2.2.2.2.2.2.1
      have g19 := hI.2.2.2.2.2.2.2.2.2.2.2.2.2.2.2.2.2.2.2.2.2.1
      have g20 := hI.2.2.2.2.2.2.2.2.2.2.2.2.2.2.2.2.2.2.2.2.2.2.1
      have g21 := hI.2.2.2.2.2.2.2.2.2.2.2.2.2.2.2.2.2.2.2.2.2.2.2.1
      have g22 := hI.2.2.2.2.2.2.2.2.2.2.2.2.2.2.2.2.2.2.2.2.2.2.2.2.1
      have g23 := hI.2.2.2.2.2.2.2.2.2.2.2.2.2.2.2.2.2.2.2.2.2.2.2.2.2.1
      have g24 := hI.2.2.2.2.2.2.2.2.2.2.2.2.2.2.2.2.2.2.2.2.2.2.2.2.2.2.1
      have g25 := hI.2.2.2.2.2.2.2.2.2.2.2.2.2.2.2.2.2.2.2.2.2.2.2.2.2.2.2
      clear hI
      dsimp only at hK ⊢
      go_simp
      exact hK _ _ ⟨_, _, _, _, _, _, _, _, _, _, _, _, _, _, _, _, _, _, _, _, _, _, _, _, _, _, rfl, hb, g0, g1, g2, g3, g4, g5, g6, fun _ => rfl, g8, g9, g10, g11, g12, g13, g14, g15, g16, g17, g18, g19, g20, g21, g22, g23, g24, g25⟩
    · intro L a w' hI hl hd K hK
      refine hI.elim fun u10 hI => hI.elim fun u11 hI => hI.elim fun u12 hI => hI.elim fun u13 hI => hI.elim fun u14 hI => hI.elim fun u15 hI => hI.elim fun u16 hI => hI.elim fun u17 hI => hI.elim fun u18 hI => hI.elim fun u19 hI => hI.elim fun u20 hI => hI.elim fun u21 hI => hI.elim fun u22 hI => hI.elim fun u23 hI => hI.elim fun u24 hI => hI.elim fun u25 hI => hI.elim fun u26 hI => hI.elim fun u27 hI => hI.elim fun u28 hI => hI.elim fun u29 hI => hI.elim fun u30 hI => hI.elim fun u31 hI => hI.elim fun u32 hI => hI.elim fun u33 hI => hI.elim fun u34 hI => hI.elim fun u35 hI => ?_
      have ha := hI.1
      subst ha
      have hb := hI.2.1
      have g0 := hI.2.2.1
      have g1 := hI.2.2.2.1
      have g2 := hI.2.2.2.2.1
      have g3 := hI.2.2.2.2.2.1
      have g4 := hI.2.2.2.2.2.2.1
      have g5 := hI.2.2.2.2.2.2.2.1
      have g6 := hI.2.2.2.2.2.2.2.2.1
      have g7 := hI.2.2.2.2.2.2.2.2.2.1
      have g8 := hI.2.2.2.2.2.2.2.2.2.2.1
      have g9 := hI.2.2.2.2.2.2.2.2.2.2.2.1
      have g10 := hI.2.2.2.2.2.2.2.2.2.2.2.2.1
      have g11 := hI.2.2.2.2.2.2.2.2.2.2.2.2.2.1
      have g12 := hI.2.2.2.2.2.2.2.2.2.2.2.2.2.2.1
      have g13 := hI.2.2.2.2.2.2.2.2.2.2.2.2.2.2.2.1
      have g14 := hI.2.2.2.2.2.2.2.2.2.2.2.2.2.2.2.2.1
      have g15 := hI.2.2.2.2.2.2.2.2.2.2.2.2.2.2.2.2.2.1
      have g16 := hI.2.2.2.2.2.2.2.2.2.2.2.2.2.2.2.2.2.2.1
      have g17 := hI.2.2.2.2.2.2.2.2.2.2.2.2.2.2.2.2.2.2.2.1
      have g18 := hI.2.2.2.2.2.2.2.2.2.2.2.2.2.2.2.2.2.2.2.2.1
      have g19 := hI.2.2.2.2.2.2.2.2.2.2.2.2.2.2.2.2.2.2.2.2.2.1
      have g20 := hI.2.2.2.2.2.2.2.2.2.2.2.2.2.2.2.2.2.2.2.2.2.2.1
      have g21 := hI.2.2.2.2.2.2.2.2.2.2.2.2.2.2.2.2.2.2.2.2.2.2.2.1
      have g22 := hI.2.2.2.2.2.2.2.2.2.2.2.2.2.2.2.2.2.2.2.2.2.2.2.2.1
      have g23 := hI.2.2.2.2.2.2.2.2.2.2.2.2.2.2.2.2.2.2.2.2.2.2.2.2.2.1
      have g24 := hI.2.2.2.2.2.2.2.2.2.2.2.2.2.2.2.2.2.2.2.2.2.2.2.2.2.2.1
      have g25 := hI.2.2.2.2.2.2.2.2.2.2.2.2.2.2.2.2.2.2.2.2.2.2.2.2.2.2.2
      clear hI
      simp [Region.binds] at hd
      dsimp only at hK ⊢
      have e6 := g6 (by simp [hd])
      subst e6
      have e7 := g7 (by simp [hd])
      subst e7
      go_simp
      exact hK _ _ ⟨_, _, _, _, _, _, _, _, _, _, _, _, _, _, _, _, _, _, _, _, _, _, _, _, _, _, rfl, hb, g0, g1, g2, g3, g4, g5, g6, g7, fun _ => rfl, g9, g10, g11, g12, g13, g14, g15, g16, g17, g18, g19, g20, g21, g22, g23, g24, g25⟩
    · intro L a w' hI hl hd K hK
      refine hI.elim fun u10 hI => hI.elim fun u11 hI => hI.elim fun u12 hI => hI.elim fun u13 hI => hI.elim fun u14 hI => hI.elim fun u15 hI => hI.elim fun u16 hI => hI.elim fun u17 hI => hI.elim fun u18 hI => hI.elim fun u19 hI => hI.elim fun u20 hI => hI.elim fun u21 hI => hI.elim fun u22 hI => hI.elim fun u23 hI => hI.elim fun u24 hI => hI.elim fun u25 hI => hI.elim fun u26 hI => hI.elim fun u27 hI => hI.elim fun u28 hI => hI.elim fun u29 hI => hI.elim fun u30 hI => hI.elim fun u31 hI => hI.elim fun u32 hI => hI.elim fun u33 hI => hI.elim fun u34 hI => hI.elim fun u35 hI => ?_
      have ha := hI.1
      subst ha
      have hb := hI.2.1
      have g0 := hI.2.2.1
      have g1 := hI.2.2.2.1
      have g2 := hI.2.2.2.2.1
      have g3 := hI.2.2.2.2.2.1
      have g4 := hI.2.2.2.2.2.2.1
      have g5 := hI.2.2.2.2.2.2.2.1
      have g6 := hI.2.2.2.2.2.2.2.2.1
      have g7 := hI.2.2.2.2.2.2.2.2.2.1
      have g8 := hI.2.2.2.2.2.2.2.2.2.2.1
      have g9 := hI.2.2.2.2.2.2.2.2.2.2.2.1
      have g10 := hI.2.2.2.2.2.2.2.2.2.2.2.2.1
      have g11 := hI.2.2.2.2.2.2.2.2.2.2.2.2.2.1
      have g12 := hI.2.2.2.2.2.2.2.2.2.2.2.2.2.2.1
      have g13 := hI.2.2.2.2.2.2.2.2.2.2.2.2.2.2.2.1
      have g14 := hI.2.2.2.2.2.2.2.2.2.2.2.2.2.2.2.2.1
      have g15 := hI.2.2.2.2.2.2.2.2.2.2.2.2.2.2.2.2.2.1
      have g16 := hI.2.2.2.2.2.2.2.2.2.2.2.2.2.2.2.2.2.2.1
      have g17 := hI.2.2.2.2.2.2.2.2.2.2.2.2.2.2.2.2.2.2.2.1
      have g18 := hI.2.2.2.2.2.2.2.2.2.2.2.2.2.2.2.2.2.2.2.2.1
      have g19 := hI.2.2.2.2.2.2.2.2.2.2.2.2.2.2.2.2.2.2.2.2.2.1
      have g20 := hI.2.2.2.2.2.2.2.2.2.2.2.2.2.2.2.2.2.2.2.2.2.2.1
      have g21 := hI.2.2.2.2.2.2.2.2.2.2.2.2.2.2.2.2.2.2.2.2.2.2.2.1
      have g22 := hI.2.2.2.2.2.2.2.2.2.2.2.2.2.2.2.2.2.2.2.2.2.2.2.2.1
      have g23 := hI.2.2.2.2.2.2.2.2.2.2.2.2.2.2.2.2.2.2.2.2.2.2.2.2.2.1
      have g24 := hI.2.2.2.2.2.2.2.2.2.2.2.2.2.2.2.2.2.2.2.2.2.2.2.2.2.2.1
      have g25 := hI.2.2.2.2.2.2.2.2.2.2.2.2.2.2.2.2.2.2.2.2.2.2.2.2.2.2.2
      clear hI
      simp [Region.binds] at hd
      dsimp only at hK ⊢
      have e8 := g8 (by simp [hd])
      subst e8
      go_simp
      exact hK _ _ ⟨_, _, _, _, _, _, _, _, _, _, _, _, _, _, _, _, _, _, _, _, _, _, _, _, _, _, rfl, hb, g0, g1, g2, g3, g4, g5, g6, g7, g8, fun _ => rfl, g10, g11, g12, g13, g14, g15, g16, g17, g18, g19, g20, g21, g22, g23, g24, g25⟩
    · intro L a w' hI hl hd K hK
      refine hI.elim fun u10 hI => hI.elim fun u11 hI => hI.elim fun u12 hI => hI.elim fun u13 hI => hI.elim fun u14 hI => hI.elim fun u15 hI => hI.elim fun u16 hI => hI.elim fun u17 hI => hI.elim fun u18 hI => hI.elim fun u19 hI => hI.elim fun u20 hI => hI.elim fun u21 hI => hI.elim fun u22 hI => hI.elim fun u23 hI => hI.elim fun u24 hI => hI.elim fun u25 hI => hI.elim fun u26 hI => hI.elim fun u27 hI => hI.elim fun u28 hI => hI.elim fun u29 hI => hI.elim fun u30 hI => hI.elim fun u31 hI => hI.elim fun u32 hI => hI.elim fun u33 hI => hI.elim fun u34 hI => hI.elim fun u35 hI => ?_
      have ha := hI.1
      subst ha
      have hb := hI.2.1
      have g0 := hI.2.2.1
      have g1 := hI.2.2.2.1
      have g2 := hI.2.2.2.2.1
      have g3 := hI.2.2.2.2.2.1
      have g4 := hI.2.2.2.2.2.2.1
      have g5 := hI.2.2.2.2.2.2.2.1
      have g6 := hI.2.2.2.2.2.2.2.2.1
      have g7 := hI.2.2.2.2.2.2.2.2.2.1
      have g8 := hI.2.2.2.2.2.2.2.2.2.2.1
      have g9 := hI.2.2.2.2.2.2.2.2.2.2.2.1
      have g10 := hI.2.2.2.2.2.2.2.2.2.2.2.2.1
      have g11 := hI.2.2.2.2.2.2.2.2.2.2.2.2.2.1
      have g12 := hI.2.2.2.2.2.2.2.2.2.2.2.2.2.2.1
      have g13 := hI.2.2.2.2.2.2.2.2.2.2.2.2.2.2.2.1
      have g14 := hI.2.2.2.2.2.2.2.2.2.2.2.2.2.2.2.2.1
      have g15 := hI.2.2.2.2.2.2.2.2.2.2.2.2.2.2.2.2.2.1
      have g16 := hI.2.2.2.2.2.2.2.2.2.2.2.2.2.2.2.2.2.2.1
      have g17 := hI.2.2.2.2.2.2.2.2.2.2.2.2.2.2.2.2.2.2.2.1
      have g18 := hI.2.2.2.2.2.2.2.2.2.2.2.2.2.2.2.2.2.2.2.2.1
      have g19 := hI.2.2.2.2.2.2.2.2.2.2.2.2.2.2.2.2.2.2.2.2.2.1
      have g20 := hI.2.2.2.2.2.2.2.2.2.2.2.2.2.2.2.2.2.2.2.2.2.2.1
      have g21 := hI.2.2.2.2.2.2.2.2.2.2.2.2.2.2.2.2.2.2.2.2.2.2.2.1
      have g22 := hI.2.2.2.2.2.2.2.2.2.2.2.2.2.2.2.2.2.2.2.2.2.2.2.2.1
      have g23 := hI.2.2.2.2.2.2.2.2.2.2.2.2.2.2.2.2.2.2.2.2.2.2.2.2.2.1
      have g24 := hI.2.2.2.2.2.2.2.2.2.2.2.2.2.2.2.2.2.2.2.2.2.2.2.2.2.2.1
      have g25 := hI.2.2.2.2.2.2.2.2.2.2.2.2.2.2.2.2.2.2.2.2.2.2.2.2.2.2.2
      clear hI
      simp [Region.binds] at hd
      dsimp only at hK ⊢
      have e9 := g9 (by simp [hd])
      subst e9
      obtain ⟨_, c0, c1, c2, c3, c4, c5, c6, c7, c8, c9, c10, c11⟩ := EK.out.below hb
      go_simp
      exact hK _ _ ⟨_, _, _, _, _, _, _, _, _, _, _, _, _, _, _, _, _, _, _, _, _, _, _, _, _, _, rfl, hb, g0, g1, g2, g3, g4, g5, g6, g7, g8, g9, fun _ => rfl, g11, g12, g13, g14, g15, g16, g17, g18, g19, g20, g21, g22, g23, g24, g25⟩
    · intro L a w' hI hl hd K hK
      refine hI.elim fun u10 hI => hI.elim fun u11 hI => hI.elim fun u12 hI => hI.elim fun u13 hI => hI.elim fun u14 hI => hI.elim fun u15 hI => hI.elim fun u16 hI => hI.elim fun u17 hI => hI.elim fun u18 hI => hI.elim fun u19 hI => hI.elim fun u20 hI => hI.elim fun u21 hI => hI.elim fun u22 hI => hI.elim fun u23 hI => hI.elim fun u24 hI => hI.elim fun u25 hI => hI.elim fun u26 hI => hI.elim fun u27 hI => hI.elim fun u28 hI => hI.elim fun u29 hI => hI.elim fun u30 hI => hI.elim fun u31 hI => hI.elim fun u32 hI => hI.elim fun u33 hI => hI.elim fun u34 hI => hI.elim fun u35 hI => ?_
      have ha := hI.1
      subst ha
      have hb := hI.2.1
      have g0 := hI.2.2.1
      have g1 := hI.2.2.2.1
      have g2 := hI.2.2.2.2.1
      have g3 := hI.2.2.2.2.2.1
      have g4 := hI.2.2.2.2.2.2.1
      have g5 := hI.2.2.2.2.2.2.2.1
      have g6 := hI.2.2.2.2.2.2.2.2.1
      have g7 := hI.2.2.2.2.2.2.2.2.2.1
      have g8 := hI.2.2.2.2.2.2.2.2.2.2.1
      have g9 := hI.2.2.2.2.2.2.2.2.2.2.2.1
      have g10 := hI.2.2.2.2.2.2.2.2.2.2.2.2.1
      have g11 := hI.2.2.2.2.2.2.2.2.2.2.2.2.2.1
      have g12 := hI.2.2.2.2.2.2.2.2.2.2.2.2.2.2.1
      have g13 := hI.2.2.2.2.2.2.2.2.2.2.2.2.2.2.2.1
      have g14 := hI.2.2.2.2.2.2.2.2.2.2.2.2.2.2.2.2.1
      have g15 := hI.2.2.2.2.2.2.2.2.2.2.2.2.2.2.2.2.2.1
      have g16 := hI.2.2.2.2.2.2.2.2.2.2.2.2.2.2.2.2.2.2.1
      have g17 := hI.2.2.2.2.2.2.2.2.2.2.2.2.2.2.2.2.2.2.2.1
      have g18 := hI.2.2.2.2.2.2.2.2.2.2.2.2.2.2.2.2.2.2.2.2.1
      have g19 := hI.2.2.2.2.2.2.2.2.2.2.2.2.2.2.2.2.2.2.2.2.2.1
      have g20 := hI.2.2.2.2.2.2.2.2.2.2.2.2.2.2.2.2.2.2.2.2.2.2.1
      have g21 := hI.2.2.2.2.2.2.2.2.2.2.2.2.2.2.2.2.2.2.2.2.2.2.2.1
      have g22 := hI.2.2.2.2.2.2.2.2.2.2.2.2.2.2.2.2.2.2.2.2.2.2.2.2.1
      have g23 := hI.2.2.2.2.2.2.2.2.2.2.2.2.2.2.2.2.2.2.2.2.2.2.2.2.2.1
      have g24 := hI.2.2.2.2.2.2.2.2.2.2.2.2.2.2.2.2.2.2.2.2.2.2.2.2.2.2.1
      have g25 := hI.2.2.2.2.2.2.2.2.2.2.2.2.2.2.2.2.2.2.2.2.2.2.2.2.2.2.2
      clear hI
      simp [Region.binds] at hd
      dsimp only at hK ⊢
      have e0 := g0 (by simp [hd])
      subst e0
      have e5 := g5 (by simp [hd])
      subst e5
      have e10 := g10 (by simp [hd])
      subst e10
      go_wp2_with fail
      refine (C1.out w').mono ?_
      rintro _ w4 ⟨rfl, hb4⟩
      exact hK _ _ ⟨_, _, _, _, _, _, _, _, _, _, _, _, _, _, _, _, _, _, _, _, _, _, _, _, _, _, rfl, bst hb hb4, g0, g1, g2, g3, g4, g5, g6, g7, g8, g9, g10, fun _ => rfl, g12, g13, g14, g15, g16, g17, g18, g19, g20, g21, g22, g23.below hb4, g24, g25⟩
    · intro L a w' hI hl hd K hK
      refine hI.elim fun u10 hI => hI.elim fun u11 hI => hI.elim fun u12 hI => hI.elim fun u13 hI => hI.elim fun u14 hI => hI.elim fun u15 hI => hI.elim fun u16 hI => hI.elim fun u17 hI => hI.elim fun u18 hI => hI.elim fun u19 hI => hI.elim fun u20 hI => hI.elim fun u21 hI => hI.elim fun u22 hI => hI.elim fun u23 hI => hI.elim fun u24 hI => hI.elim fun u25 hI => hI.elim fun u26 hI => hI.elim fun u27 hI => hI.elim fun u28 hI => hI.elim fun u29 hI => hI.elim fun u30 hI => hI.elim fun u31 hI => hI.elim fun u32 hI => hI.elim fun u33 hI => hI.elim fun u34 hI => hI.elim fun u35 hI => ?_
      have ha := hI.1
      subst ha
      have hb := hI.2.1
      have g0 := hI.2.2.1
      have g1 := hI.2.2.2.1
      have g2 := hI.2.2.2.2.1
      have g3 := hI.2.2.2.2.2.1
      have g4 := hI.2.2.2.2.2.2.1
      have g5 := hI.2.2.2.2.2.2.2.1
      have g6 := hI.2.2.2.2.2.2.2.2.1
      have g7 := hI.2.2.2.2.2.2.2.2.2.1
      have g8 := hI.2.2.2.2.2.2.2.2.2.2.1
      have g9 := hI.2.2.2.2.2.2.2.2.2.2.2.1
      have g10 := hI.2.2.2.2.2.2.2.2.2.2.2.2.1
      have g11 := hI.2.2.2.2.2.2.2.2.2.2.2.2.2.1
      have g12 := hI.2.2.2.2.2.2.2.2.2.2.2.2.2.2.1
      have g13 := hI.2.2.2.2.2.2.2.2.2.2.2.2.2.2.2.1
      have g14 := hI.2.2.2.2.2.2.2.2.2.2.2.2.2.2.2.2.1
      have g15 := hI.2.2.2.2.2.2.2.2.2.2.2.2.2.2.2.2.2.1
      have g16 := hI.2.2.2.2.2.2.2.2.2.2.2.2.2.2.2.2.2.2.1
      have g17 := hI.2.2.2.2.2.2.2.2.2.2.2.2.2.2.2.2.2.2.2.1
      have g18 := hI.2.2.2.2.2.2.2.2.2.2.2.2.2.2.2.2.2.2.2.2.1
      have g19 := hI.2.2.2.2.2.2.2.2.2.2.2.2.2.2.2.2.2.2.2.2.2.1
      have g20 := hI.2.2.2.2.2.2.2.2.2.2.2.2.2.2.2.2.2.2.2.2.2.2.1
      have g21 := hI.2.2.2.2.2.2.2.2.2.2.2.2.2.2.2.2.2.2.2.2.2.2.2.1
      have g22 := hI.2.2.2.2.2.2.2.2.2.2.2.2.2.2.2.2.2.2.2.2.2.2.2.2.1
      have g23 := hI.2.2.2.2.2.2.2.2.2.2.2.2.2.2.2.2.2.2.2.2.2.2.2.2.2.1
      have g24 := hI.2.2.2.2.2.2.2.2.2.2.2.2.2.2.2.2.2.2.2.2.2.2.2.2.2.2.1
      have g25 := hI.2.2.2.2.2.2.2.2.2.2.2.2.2.2.2.2.2.2.2.2.2.2.2.2.2.2.2
      clear hI
      dsimp only at hK ⊢
      go_simp
      exact hK _ _ ⟨_, _, _, _, _, _, _, _, _, _, _, _, _, _, _, _, _, _, _, _, _, _, _, _, _, _, rfl, hb, g0, g1, g2, g3, g4, g5, g6, g7, g8, g9, g10, g11, fun _ => rfl, g13, g14, g15, g16, g17, g18, g19, g20, g21, g22, g23, g24, g25⟩
    · intro L a w' hI hl hd K hK
      refine hI.elim fun u10 hI => hI.elim fun u11 hI => hI.elim fun u12 hI => hI.elim fun u13 hI => hI.elim fun u14 hI => hI.elim fun u15 hI => hI.elim fun u16 hI => hI.elim fun u17 hI => hI.elim fun u18 hI => hI.elim fun u19 hI => hI.elim fun u20 hI => hI.elim fun u21 hI => hI.elim fun u22 hI => hI.elim fun u23 hI => hI.elim fun u24 hI => hI.elim fun u25 hI => hI.elim fun u26 hI => hI.elim fun u27 hI => hI.elim fun u28 hI => hI.elim fun u29 hI => hI.elim fun u30 hI => hI.elim fun u31 hI => hI.elim fun u32 hI => hI.elim fun u33 hI => hI.elim fun u34 hI => hI.elim fun u35 hI => ?_
      have ha := hI.1
      subst ha
      have hb := hI.2.1
      have g0 := hI.2.2.1
      have g1 := hI.2.2.2.1
      have g2 := hI.2.2.2.2.1
      have g3 := hI.2.2.2.2.2.1
      have g4 := hI.2.2.2.2.2.2.1
      have g5 := hI.2.2.2.2.2.2.2.1
      have g6 := hI.2.2.2.2.2.2.2.2.1
      have g7 := hI.2.2.2.2.2.2.2.2.2.1
      have g8 := hI.2.2.2.2.2.2.2.2.2.2.1
      have g9 := hI.2.2.2.2.2.2.2.2.2.2.2.1
      have g10 := hI.2.2.2.2.2.2.2.2.2.2.2.2.1
      have g11 := hI.2.2.2.2.2.2.2.2.2.2.2.2.2.1
      have g12 := hI.2.2.2.2.2.2.2.2.2.2.2.2.2.2.1
      have g13 := hI.2.2.2.2.2.2.2.2.2.2.2.2.2.2.2.1
      have g14 := hI.2.2.2.2.2.2.2.2.2.2.2.2.2.2.2.2.1
      have g15 := hI.2.2.2.2.2.2.2.2.2.2.2.2.2.2.2.2.2.1
      have g16 := hI.2.2.2.2.2.2.2.2.2.2.2.2.2.2.2.2.2.2.1
      have g17 := hI.2.2.2.2.2.2.2.2.2.2.2.2.2.2.2.2.2.2.2.1
      have g18 := hI.2.2.2.2.2.2.2.2.2.2.2.2.2.2.2.2.2.2.2.2.1
      have g19 := hI.2.2.2.2.2.2.2.2.2.2.2.2.2.2.2.2.2.2.2.2.2.1
      have g20 := hI.2.2.2.2.2.2.2.2.2.2.2.2.2.2.2.2.2.2.2.2.2.2.1
      have g21 := hI.2.2.2.2.2.2.2.2.2.2.2.2.2.2.2.2.2.2.2.2.2.2.2.1
      have g22 := hI.2.2.2.2.2.2.2.2.2.2.2.2.2.2.2.2.2.2.2.2.2.2.2.2.1
      have g23 := hI.2.2.2.2.2.2.2.2.2.2.2.2.2.2.2.2.2.2.2.2.2.2.2.2.2.1
      have g24 := hI.2.2.2.2.2.2.2.2.2.2.2.2.2.2.2.2.2.2.2.2.2.2.2.2.2.2.1
      have g25 := hI.2.2.2.2.2.2.2.2.2.2.2.2.2.2.2.2.2.2.2.2.2.2.2.2.2.2.2
      clear hI
      dsimp only at hK ⊢
      go_simp
      exact hK _ _ ⟨_, _, _, _, _, _, _, _, _, _, _, _, _, _, _, _, _, _, _, _, _, _, _, _, _, _, rfl, hb, g0, g1, g2, g3, g4, g5, g6, g7, g8, g9, g10, g11, g12, fun _ => rfl, g14, g15, g16, g17, g18, g19, g20, g21, g22, g23, g24, g25⟩
    · intro L a w' hI hl hd K hK
      refine hI.elim fun u10 hI => hI.elim fun u11 hI => hI.elim fun u12 hI => hI.elim fun u13 hI => hI.elim fun u14 hI => hI.elim fun u15 hI => hI.elim fun u16 hI => hI.elim fun u17 hI => hI.elim fun u18 hI => hI.elim fun u19 hI => hI.elim fun u20 hI => hI.elim fun u21 hI => hI.elim fun u22 hI => hI.elim fun u23 hI => hI.elim fun u24 hI => hI.elim fun u25 hI => hI.elim fun u26 hI => hI.elim fun u27 hI => hI.elim fun u28 hI => hI.elim fun u29 hI => hI.elim fun u30 hI => hI.elim fun u31 hI => hI.elim fun u32 hI => hI.elim fun u33 hI => hI.elim fun u34 hI => hI.elim fun u35 hI => ?_
      have ha := hI.1
      subst ha
      have hb := hI.2.1
      have g0 := hI.2.2.1
      have g1 := hI.2.2.2.1
      have g2 := hI.2.2.2.2.1
      have g3 := hI.2.2.2.2.2.1
      have g4 := hI.2.2.2.2.2.2.1
      have g5 := hI.2.2.2.2.2.2.2.1
      have g6 := hI.2.2.2.2.2.2.2.2.1
      have g7 := hI.2.2.2.2.2.2.2.2.2.1
      have g8 := hI.2.2.2.2.2.2.2.2.2.2.1
      have g9 := hI.2.2.2.2.2.2.2.2.2.2.2.1
      have g10 := hI.2.2.2.2.2.2.2.2.2.2.2.2.1
      have g11 := hI.2.2.2.2.2.2.2.2.2.2.2.2.2.1
      have g12 := hI.2.2.2.2.2.2.2.2.2.2.2.2.2.2.1
      have g13 := hI.2.2.2.2.2.2.2.2.2.2.2.2.2.2.2.1
      have g14 := hI.2.2.2.2.2.2.2.2.2.2.2.2.2.2.2.2.1
      have g15 := hI.2.2.2.2.2.2.2.2.2.2.2.2.2.2.2.2.2.1
      have g16 := hI.2.2.2.2.2.2.2.2.2.2.2.2.2.2.2.2.2.2.1
      have g17 := hI.2.2.2.2.2.2.2.2.2.2.2.2.2.2.2.2.2.2.2.1
      have g18 := hI.2.2.2.2.2.2.2.2.2.2.2.2.2.2.2.2.2.2.2.2.1
      have g19 := hI.2.2.2.2.2.2.2.2.2.2.2.2.2.2.2.2.2.2.2.2.2.1
      have g20 := hI.2.2.2.2.2.2.2.2.2.2.2.2.2.2.2.2.2.2.2.2.2.2.1
      have g21 := hI.2.2.2.2.2.2.2.2.2.2.2.2.2.2.2.2.2.2.2.2.2.2.2.1
      have g22 := hI.2.2.2.2.2.2.2.2.2.2.2.2.2.2.2.2.2.2.2.2.2.2.2.2.1
      have g23 := hI.2.2.2.2.2.2.2.2.2.2.2.2.2.2.2.2.2.2.2.2.2.2.2.2.2.1
      have g24 := hI.2.2.2.2.2.2.2.2.2.2.2.2.2.2.2.2.2.2.2.2.2.2.2.2.2.2.1
      have g25 := hI.2.2.2.2.2.2.2.2.2.2.2.2.2.2.2.2.2.2.2.2.2.2.2.2.2.2.2
      clear hI
      simp [Region.binds] at hd
      dsimp only at hK ⊢
      have e12 := g12 (by simp [hd])
      subst e12
      have e13 := g13 (by simp [hd])
      subst e13
      go_simp
      exact hK _ _ ⟨_, _, _, _, _, _, _, _, _, _, _, _, _, _, _, _, _, _, _, _, _, _, _, _, _, _, rfl, hb, g0, g1, g2, g3, g4, g5, g6, g7, g8, g9, g10, g11, g12, g13, fun _ => rfl, g15, g16, g17, g18, g19, g20, g21, g22, g23, g24, g25⟩
    · intro L a w' hI hl hd K hK
      refine hI.elim fun u10 hI => hI.elim fun u11 hI => hI.elim fun u12 hI => hI.elim fun u13 hI => hI.elim fun u14 hI => hI.elim fun u15 hI => hI.elim fun u16 hI => hI.elim fun u17 hI => hI.elim fun u18 hI => hI.elim fun u19 hI => hI.elim fun u20 hI => hI.elim fun u21 hI => hI.elim fun u22 hI => hI.elim fun u23 hI => hI.elim fun u24 hI => hI.elim fun u25 hI => hI.elim fun u26 hI => hI.elim fun u27 hI => hI.elim fun u28 hI => hI.elim fun u29 hI => hI.elim fun u30 hI => hI.elim fun u31 hI => hI.elim fun u32 hI => hI.elim fun u33 hI => hI.elim fun u34 hI => hI.elim fun u35 hI => ?_
      have ha := hI.1
      subst ha
      have hb := hI.2.1
      have g0 := hI.2.2.1
      have g1 := hI.2.2.2.1
      have g2 := hI.2.2.2.2.1
      have g3 := hI.2.2.2.2.2.1
      have g4 := hI.2.2.2.2.2.2.1
      have g5 := hI.2.2.2.2.2.2.2.1
      have g6 := hI.2.2.2.2.2.2.2.2.1
      have g7 := hI.2.2.2.2.2.2.2.2.2.1
      have g8 := hI.2.2.2.2.2.2.2.2.2.2.1
      have g9 := hI.2.2.2.2.2.2.2.2.2.2.2.1
      have g10 := hI.2.2.2.2.2.2.2.2.2.2.2.2.1
      have g11 := hI.2.2.2.2.2.2.2.2.2.2.2.2.2.1
      have g12 := hI.2.2.2.2.2.2.2.2.2.2.2.2.2.2.1
      have g13 := hI.2.2.2.2.2.2.2.2.2.2.2.2.2.2.2.1
      have g14 := hI.2.2.2.2.2.2.2.2.2.2.2.2.2.2.2.2.1
      have g15 := hI.2.2.2.2.2.2.2.2.2.2.2.2.2.2.2.2.2.1
      have g16 := hI.2.2.2.2.2.2.2.2.2.2.2.2.2.2.2.2.2.2.1
      have g17 := hI.2.2.2.2.2.2.2.2.2.2.2.2.2.2.2.2.2.2.2.1
      have g18 := hI.2.2.2.2.2.2.2.2.2.2.2.2.2.2.2.2.2.2.2.2.1
      have g19 := hI.2.2.2.2.2.2.2.2.2.2.2.2.2.2.2.2.2.2.2.2.2.1
      have g20 := hI.2.2.2.2.2.2.2.2.2.2.2.2.2.2.2.2.2.2.2.2.2.2.1
      have g21 := hI.2.2.2.2.2.2.2.2.2.2.2.2.2.2.2.2.2.2.2.2.2.2.2.1
      have g22 := hI.2.2.2.2.2.2.2.2.2.2.2.2.2.2.2.2.2.2.2.2.2.2.2.2.1
      have g23 := hI.2.2.2.2.2.2.2.2.2.2.2.2.2.2.2.2.2.2.2.2.2.2.2.2.2.1
      have g24 := hI.2.2.2.2.2.2.2.2.2.2.2.2.2.2.2.2.2.2.2.2.2.2.2.2.2.2.1
      have g25 := hI.2.2.2.2.2.2.2.2.2.2.2.2.2.2.2.2.2.2.2.2.2.2.2.2.2.2.2
      clear hI
      simp [Region.binds] at hd
      dsimp only at hK ⊢
      have e14 := g14 (by simp [hd])
      subst e14
      go_simp
      exact hK _ _ ⟨_, _, _, _, _, _, _, _, _, _, _, _, _, _, _, _, _, _, _, _, _, _, _, _, _, _, rfl, hb, g0, g1, g2, g3, g4, g5, g6, g7, g8, g9, g10, g11, g12, g13, g14, fun _ => rfl, g16, g17, g18, g19, g20, g21, g22, g23, g24, g25⟩
    · intro L a w' hI hl hd K hK
      refine hI.elim fun u10 hI => hI.elim fun u11 hI => hI.elim fun u12 hI => hI.elim fun u13 hI => hI.elim fun u14 hI => hI.elim fun u15 hI => hI.elim fun u16 hI => hI.elim fun u17 hI => hI.elim fun u18 hI => hI.elim fun u19 hI => hI.elim fun u20 hI => hI.elim fun u21 hI => hI.elim fun u22 hI => hI.elim fun u23 hI => hI.elim fun u24 hI => hI.elim fun u25 hI => hI.elim fun u26 hI => hI.elim fun u27 hI => hI.elim fun u28 hI => hI.elim fun u29 hI => hI.elim fun u30 hI => hI.elim fun u31 hI => hI.elim fun u32 hI => hI.elim fun u33 hI => hI.elim fun u34 hI => hI.elim fun u35 hI => ?_
      have ha := hI.1
      subst ha
      have hb := hI.2.1
      have g0 := hI.2.2.1
      have g1 := hI.2.2.2.1
      have g2 := hI.2.2.2.2.1
      have g3 := hI.2.2.2.2.2.1
      have g4 := hI.2.2.2.2.2.2.1
      have g5 := hI.2.2.2.2.2.2.2.1
      have g6 := hI.2.2.2.2.2.2.2.2.1
      have g7 := hI.2.2.2.2.2.2.2.2.2.1
      have g8 := hI.2.2.2.2.2.2.2.2.2.2.1
      have g9 := hI.2.2.2.2.2.2.2.2.2.2.2.1
      have g10 := hI.2.2.2.2.2.2.2.2.2.2.2.2.1
      have g11 := hI.2.2.2.2.2.2.2.2.2.2.2.2.2.1
      have g12 := hI.2.2.2.2.2.2.2.2.2.2.2.2.2.2.1
      have g13 := hI.2.2.2.2.2.2.2.2.2.2.2.2.2.2.2.1
      have g14 := hI.2.2.2.2.2.2.2.2.2.2.2.2.2.2.2.2.1
      have g15 := hI.2.2.2.2.2.2.2.2.2.2.2.2.2.2.2.2.2.1
      have g16 := hI.2.2.2.2.2.2.2.2.2.2.2.2.2.2.2.2.2.2.1
      have g17 := hI.2.2.2.2.2.2.2.2.2.2.2.2.2.2.2.2.2.2.2.1
      have g18 := hI.2.2.2.2.2.2.2.2.2.2.2.2.2.2.2.2.2.2.2.2.1
      have g19 := hI.2.2.2.2.2.2.2.2.2.2.2.2.2.2.2.2.2.2.2.2.2.1
      have g20 := hI.2.2.2.2.2.2.2.2.2.2.2.2.2.2.2.2.2.2.2.2.2.2.1
      have g21 := hI.2.2.2.2.2.2.2.2.2.2.2.2.2.2.2.2.2.2.2.2.2.2.2.1
      have g22 := hI.2.2.2.2.2.2.2.2.2.2.2.2.2.2.2.2.2.2.2.2.2.2.2.2.1
      have g23 := hI.2.2.2.2.2.2.2.2.2.2.2.2.2.2.2.2.2.2.2.2.2.2.2.2.2.1
      have g24 := hI.2.2.2.2.2.2.2.2.2.2.2.2.2.2.2.2.2.2.2.2.2.2.2.2.2.2.1
      have g25 := hI.2.2.2.2.2.2.2.2.2.2.2.2.2.2.2.2.2.2.2.2.2.2.2.2.2.2.2
      clear hI
      simp [Region.binds] at hd
      dsimp only at hK ⊢
      have e15 := g15 (by simp [hd])
      subst e15
      obtain ⟨_, c0, c1, c2, c3, c4, c5, c6, c7, c8, c9, c10, c11⟩ := EI.out.below hb
      go_simp
      exact hK _ _ ⟨_, _, _, _, _, _, _, _, _, _, _, _, _, _, _, _, _, _, _, _, _, _, _, _, _, _, rfl, hb, g0, g1, g2, g3, g4, g5, g6, g7, g8, g9, g10, g11, g12, g13, g14, g15, fun _ => rfl, g17, g18, g19, g20, g21, g22, g23, g24, g25⟩
    · intro L a w' hI hl hd K hK
      refine hI.elim fun u10 hI => hI.elim fun u11 hI => hI.elim fun u12 hI => hI.elim fun u13 hI => hI.elim fun u14 hI => hI.elim fun u15 hI => hI.elim fun u16 hI => hI.elim fun u17 hI => hI.elim fun u18 hI => hI.elim fun u19 hI => hI.elim fun u20 hI => hI.elim fun u21 hI => hI.elim fun u22 hI => hI.elim fun u23 hI => hI.elim fun u24 hI => hI.elim fun u25 hI => hI.elim fun u26 hI => hI.elim fun u27 hI => hI.elim fun u28 hI => hI.elim fun u29 hI => hI.elim fun u30 hI => hI.elim fun u31 hI => hI.elim fun u32 hI => hI.elim fun u33 hI => hI.elim fun u34 hI => hI.elim fun u35 hI => ?_
      have ha := hI.1
      subst ha
      have hb := hI.2.1
      have g0 := hI.2.2.1
      have g1 := hI.2.2.2.1
      have g2 := hI.2.2.2.2.1
      have g3 := hI.2.2.2.2.2.1
      have g4 := hI.2.2.2.2.2.2.1
      have g5 := hI.2.2.2.2.2.2.2.1
      have g6 := hI.2.2.2.2.2.2.2.2.1
      have g7 := hI.2.2.2.2.2.2.2.2.2.1
      have g8 := hI.2.2.2.2.2.2.2.2.2.2.1
      have g9 := hI.2.2.2.2.2.2.2.2.2.2.2.1
      have g10 := hI.2.2.2.2.2.2.2.2.2.2.2.2.1
      have g11 := hI.2.2.2.2.2.2.2.2.2.2.2.2.2.1
      have g12 := hI.2.2.2.2.2.2.2.2.2.2.2.2.2.2.1
      have g13 := hI.2.2.2.2.2.2.2.2.2.2.2.2.2.2.2.1
      have g14 := hI.2.2.2.2.2.2.2.2.2.2.2.2.2.2.2.2.1
      have g15 := hI.2.2.2.2.2.2.2.2.2.2.2.2.2.2.2.2.2.1
      have g16 := hI.2.2.2.2.2.2.2.2.2.2.2.2.2.2.2.2.2.2.1
      have g17 := hI.2.2.2.2.2.2.2.2.2.2.2.2.2.2.2.2.2.2.2.1
      have g18 := hI.2.2.2.2.2.2.2.2.2.2.2.2.2.2.2.2.2.2.2.2.1
      have g19 := hI.2.2.2.2.2.2.2.2.2.2.2.2.2.2.2.2.2.2.2.2.2.1
      have g20 := hI.2.2.2.2.2.2.2.2.2.2.2.2.2.2.2.2.2.2.2.2.2.2.1
      have g21 := hI.2.2.2.2.2.2.2.2.2.2.2.2.2.2.2.2.2.2.2.2.2.2.2.1
      have g22 := hI.2.2.2.2.2.2.2.2.2.2.2.2.2.2.2.2.2.2.2.2.2.2.2.2.1
      have g23 := hI.2.2.2.2.2.2.2.2.2.2.2.2.2.2.2.2.2.2.2.2.2.2.2.2.2.1
      have g24 := hI.2.2.2.2.2.2.2.2.2.2.2.2.2.2.2.2.2.2.2.2.2.2.2.2.2.2.1
      have g25 := hI.2.2.2.2.2.2.2.2.2.2.2.2.2.2.2.2.2.2.2.2.2.2.2.2.2.2.2
      clear hI
      dsimp only at hK ⊢
      go_simp
      exact hK _ _ ⟨_, _, _, _, _, _, _, _, _, _, _, _, _, _, _, _, _, _, _, _, _, _, _, _, _, _, rfl, hb, g0, g1, g2, g3, g4, g5, g6, g7, g8, g9, g10, g11, g12, g13, g14, g15, g16, fun _ => rfl, g18, g19, g20, g21, g22, g23, g24, g25⟩
    · intro L a w' hI hl hd K hK
      refine hI.elim fun u10 hI => hI.elim fun u11 hI => hI.elim fun u12 hI => hI.elim fun u13 hI => hI.elim fun u14 hI => hI.elim fun u15 hI => hI.elim fun u16 hI => hI.elim fun u17 hI => hI.elim fun u18 hI => hI.elim fun u19 hI => hI.elim fun u20 hI => hI.elim fun u21 hI => hI.elim fun u22 hI => hI.elim fun u23 hI => hI.elim fun u24 hI => hI.elim fun u25 hI => hI.elim fun u26 hI => hI.elim fun u27 hI => hI.elim fun u28 hI => hI.elim fun u29 hI => hI.elim fun u30 hI => hI.elim fun u31 hI => hI.elim fun u32 hI => hI.elim fun u33 hI => hI.elim fun u34 hI => hI.elim fun u35 hI => ?_
      have ha := hI.1
      subst ha
      have hb := hI.2.1
      have g0 := hI.2.2.1
      have g1 := hI.2.2.2.1
      have g2 := hI.2.2.2.2.1
      have g3 := hI.2.2.2.2.2.1
      have g4 := hI.2.2.2.2.2.2.1
      have g5 := hI.2.2.2.2.2.2.2.1
      have g6 := hI.2.2.2.2.2.2.2.2.1
      have g7 := hI.2.2.2.2.2.2.2.2.2.1
      have g8 := hI.2.2.2.2.2.2.2.2.2.2.1
      have g9 := hI.2.2.2.2.2.2.2.2.2.2.2.1
      have g10 := hI.2.2.2.2.2.2.2.2.2.2.2.2.1
      have g11 := hI.2.2.2.2.2.2.2.2.2.2.2.2.2.1
      have g12 := hI.2.2.2.2.2.2.2.2.2.2.2.2.2.2.1
      have g13 := hI.2.2.2.2.2.2.2.2.2.2.2.2.2.2.2.1
      have g14 := hI.2.2.2.2.2.2.2.2.2.2.2.2.2.2.2.2.1
      have g15 := hI.2.2.2.2.2.2.2.2.2.2.2.2.2.2.2.2.2.1
      have g16 := hI.2.2.2.2.2.2.2.2.2.2.2.2.2.2.2.2.2.2.1
      have g17 := hI.2.2.2.2.2.2.2.2.2.2.2.2.2.2.2.2.2.2.2.1
      have g18 := hI.2.2.2.2.2.2.2.2.2.2.2.2.2.2.2.2.2.2.2.2.1
      have g19 := hI.2.2.2.2.2.2.2.2.2.2.2.2.2.2.2.2.2.2.2.2.2.1
      have g20 := hI.2.2.2.2.2.2.2.2.2.2.2.2.2.2.2.2.2.2.2.2.2.2.1
      have g21 := hI.2.2.2.2.2.2.2.2.2.2.2.2.2.2.2.2.2.2.2.2.2.2.2.1
      have g22 := hI.2.2.2.2.2.2.2.2.2.2.2.2.2.2.2.2.2.2.2.2.2.2.2.2.1
      have g23 := hI.2.2.2.2.2.2.2.2.2.2.2.2.2.2.2.2.2.2.2.2.2.2.2.2.2.1
      have g24 := hI.2.2.2.2.2.2.2.2.2.2.2.2.2.2.2.2.2.2.2.2.2.2.2.2.2.2.1
      have g25 := hI.2.2.2.2.2.2.2.2.2.2.2.2.2.2.2.2.2.2.2.2.2.2.2.2.2.2.2
      clear hI
      dsimp only at hK ⊢
      go_simp
      exact hK _ _ ⟨_, _, _, _, _, _, _, _, _, _, _, _, _, _, _, _, _, _, _, _, _, _, _, _, _, _, rfl, hb, g0, g1, g2, g3, g4, g5, g6, g7, g8, g9, g10, g11, g12, g13, g14, g15, g16, g17, fun _ => rfl, g19, g20, g21, g22, g23, g24, g25⟩
    · intro L a w' hI hl hd K hK
      refine hI.elim fun u10 hI => hI.elim fun u11 hI => hI.elim fun u12 hI => hI.elim fun u13 hI => hI.elim fun u14 hI => hI.elim fun u15 hI => hI.elim fun u16 hI => hI.elim fun u17 hI => hI.elim fun u18 hI => hI.elim fun u19 hI => hI.elim fun u20 hI => hI.elim fun u21 hI => hI.elim fun u22 hI => hI.elim fun u23 hI => hI.elim fun u24 hI => hI.elim fun u25 hI => hI.elim fun u26 hI => hI.elim fun u27 hI => hI.elim fun u28 hI => hI.elim fun u29 hI => hI.elim fun u30 hI => hI.elim fun u31 hI => hI.elim fun u32 hI => hI.elim fun u33 hI => hI.elim fun u34 hI => hI.elim fun u35 hI => ?_
      have ha := hI.1
      subst ha
      have hb := hI.2.1
      have g0 := hI.2.2.1
      have g1 := hI.2.2.2.1
      have g2 := hI.2.2.2.2.1
      have g3 := hI.2.2.2.2.2.1
      have g4 := hI.2.2.2.2.2.2.1
      have g5 := hI.2.2.2.2.2.2.2.1
      have g6 := hI.2.2.2.2.2.2.2.2.1
      have g7 := hI.2.2.2.2.2.2.2.2.2.1
      have g8 := hI.2.2.2.2.2.2.2.2.2.2.1
      have g9 := hI.2.2.2.2.2.2.2.2.2.2.2.1
      have g10 := hI.2.2.2.2.2.2.2.2.2.2.2.2.1
      have g11 := hI.2.2.2.2.2.2.2.2.2.2.2.2.2.1
      have g12 := hI.2.2.2.2.2.2.2.2.2.2.2.2.2.2.1
      have g13 := hI.2.2.2.2.2.2.2.2.2.2.2.2.2.2.2.1
      have g14 := hI.2.2.2.2.2.2.2.2.2.2.2.2.2.2.2.2.1
      have g15 := hI.2.2.2.2.2.2.2.2.2.2.2.2.2.2.2.2.2.1
      have g16 := hI.2.2.2.2.2.2.2.2.2.2.2.2.2.2.2.2.2.2.1
      have g17 := hI.2.2.2.2.2.2.2.2.2.2.2.2.2.2.2.2.2.2.2.1
      have g18 := hI.2.2.2.2.2.2.2.2.2.2.2.2.2.2.2.2.2.2.2.2.1
      have g19 := hI.2.2.2.2.2.2.2.2.2.2.2.2.2.2.2.2.2.2.2.2.2.1
      have g20 := hI.2.2.2.2.2.2.2.2.2.2.2.2.2.2.2.2.2.2.2.2.2.2.1
      have g21 := hI.2.2.2.2.2.2.2.2.2.2.2.2.2.2.2.2.2.2.2.2.2.2.2.1
      have g22 := hI.2.2.2.2.2.2.2.2.2.2.2.2.2.2.2.2.2.2.2.2.2.2.2.2.1
      have g23 := hI.2.2.2.2.2.2.2.2.2.2.2.2.2.2.2.2.2.2.2.2.2.2.2.2.2.1
      have g24 := hI.2.2.2.2.2.2.2.2.2.2.2.2.2.2.2.2.2.2.2.2.2.2.2.2.2.2.1
      have g25 := hI.2.2.2.2.2.2.2.2.2.2.2.2.2.2.2.2.2.2.2.2.2.2.2.2.2.2.2
      clear hI
      simp [Region.binds] at hd
      dsimp only at hK ⊢
      have e17 := g17 (by simp [hd])
      subst e17
      have e18 := g18 (by simp [hd])
      subst e18
      go_simp
      exact hK _ _ ⟨_, _, _, _, _, _, _, _, _, _, _, _, _, _, _, _, _, _, _, _, _, _, _, _, _, _, rfl, hb, g0, g1, g2, g3, g4, g5, g6, g7, g8, g9, g10, g11, g12, g13, g14, g15, g16, g17, g18, fun _ => rfl, g20, g21, g22, g23, g24, g25⟩
    · intro L a w' hI hl hd K hK
      refine hI.elim fun u10 hI => hI.elim fun u11 hI => hI.elim fun u12 hI => hI.elim fun u13 hI => hI.elim fun u14 hI => hI.elim fun u15 hI => hI.elim fun u16 hI => hI.elim fun u17 hI => hI.elim fun u18 hI => hI.elim fun u19 hI => hI.elim fun u20 hI => hI.elim fun u21 hI => hI.elim fun u22 hI => hI.elim fun u23 hI => hI.elim fun u24 hI => hI.elim fun u25 hI => hI.elim fun u26 hI => hI.elim fun u27 hI => hI.elim fun u28 hI => hI.elim fun u29 hI => hI.elim fun u30 hI => hI.elim fun u31 hI => hI.elim fun u32 hI => hI.elim fun u33 hI => hI.elim fun u34 hI => hI.elim fun u35 hI => ?_
      have ha := hI.1
      subst ha
      have hb := hI.2.1
      have g0 := hI.2.2.1
      have g1 := hI.2.2.2.1
      have g2 := hI.2.2.2.2.1
      have g3 := hI.2.2.2.2.2.1
      have g4 := hI.2.2.2.2.2.2.1
      have g5 := hI.2.2.2.2.2.2.2.1
      have g6 := hI.2.2.2.2.2.2.2.2.1
      have g7 := hI.2.2.2.2.2.2.2.2.2.1
      have g8 := hI.2.2.2.2.2.2.2.2.2.2.1
      have g9 := hI.2.2.2.2.2.2.2.2.2.2.2.1
      have g10 := hI.2.2.2.2.2.2.2.2.2.2.2.2.1
      have g11 := hI.2.2.2.2.2.2.2.2.2.2.2.2.2.1
      have g12 := hI.2.2.2.2.2.2.2.2.2.2.2.2.2.2.1
      have g13 := hI.2.2.2.2.2.2.2.2.2.2.2.2.2.2.2.1
      have g14 := hI.2.2.2.2.2.2.2.2.2.2.2.2.2.2.2.2.1
      have g15 := hI.2.2.2.2.2.2.2.2.2.2.2.2.2.2.2.2.2.1
      have g16 := hI.2.2.2.2.2.2.2.2.2.2.2.2.2.2.2.2.2.2.1
      have g17 := hI.2.2.2.2.2.2.2.2.2.2.2.2.2.2.2.2.2.2.2.1
      have g18 := hI.2.2.2.2.2.2.2.2.2.2.2.2.2.2.2.2.2.2.2.2.1
      have g19 := hI.2.2.2.2.2.2.2.2.2.2.2.2.2.2.2.2.2.2.2.2.2.1
      have g20 := hI.2.2.2.2.2.2.2.2.2.2.2.2.2.2.2.2.2.2.2.2.2.2.1
      have g21 := hI.2.2.2.2.2.2.2.2.2.2.2.2.2.2.2.2.2.2.2.2.2.2.2.1
      have g22 := hI.2.2.2.2.2.2.2.2.2.2.2.2.2.2.2.2.2.2.2.2.2.2.2.2.1
      have g23 := hI.2.2.2.2.2.2.2.2.2.2.2.2.2.2.2.2.2.2.2.2.2.2.2.2.2.1
      have g24 := hI.2.2.2.2.2.2.2.2.2.2.2.2.2.2.2.2.2.2.2.2.2.2.2.2.2.2.1
      have g25 := hI.2.2.2.2.2.2.2.2.2.2.2.2.2.2.2.2.2.2.2.2.2.2.2.2.2.2.2
      clear hI
      simp [Region.binds] at hd
      dsimp only at hK ⊢
      have e19 := g19 (by simp [hd])
      subst e19
      go_simp
      exact hK _ _ ⟨_, _, _, _, _, _, _, _, _, _, _, _, _, _, _, _, _, _, _, _, _, _, _, _, _, _, rfl, hb, g0, g1, g2, g3, g4, g5, g6, g7, g8, g9, g10, g11, g12, g13, g14, g15, g16, g17, g18, g19, fun _ => rfl, g21, g22, g23, g24, g25⟩
    · intro L a w' hI hl hd K hK
      refine hI.elim fun u10 hI => hI.elim fun u11 hI => hI.elim fun u12 hI => hI.elim fun u13 hI => hI.elim fun u14 hI => hI.elim fun u15 hI => hI.elim fun u16 hI => hI.elim fun u17 hI => hI.elim fun u18 hI => hI.elim fun u19 hI => hI.elim fun u20 hI => hI.elim fun u21 hI => hI.elim fun u22 hI => hI.elim fun u23 hI => hI.elim fun u24 hI => hI.elim fun u25 hI => hI.elim fun u26 hI => hI.elim fun u27 hI => hI.elim fun u28 hI => hI.elim fun u29 hI => hI.elim fun u30 hI => hI.elim fun u31 hI => hI.elim fun u32 hI => hI.elim fun u33 hI => hI.elim fun u34 hI => hI.elim fun u35 hI => ?_
      have ha := hI.1
      subst ha
      have hb := hI.2.1
      have g0 := hI.2.2.1
      have g1 := hI.2.2.2.1
      have g2 := hI.2.2.2.2.1
      have g3 := hI.2.2.2.2.2.1
      have g4 := hI.2.2.2.2.2.2.1
      have g5 := hI.2.2.2.2.2.2.2.1
      have g6 := hI.2.2.2.2.2.2.2.2.1
      have g7 := hI.2.2.2.2.2.2.2.2.2.1
      have g8 := hI.2.2.2.2.2.2.2.2.2.2.1
      have g9 := hI.2.2.2.2.2.2.2.2.2.2.2.1
      have g10 := hI.2.2.2.2.2.2.2.2.2.2.2.2.1
      have g11 := hI.2.2.2.2.2.2.2.2.2.2.2.2.2.1
      have g12 := hI.2.2.2.2.2.2.2.2.2.2.2.2.2.2.1
      have g13 := hI.2.2.2.2.2.2.2.2.2.2.2.2.2.2.2.1
      have g14 := hI.2.2.2.2.2.2.2.2.2.2.2.2.2.2.2.2.1
      have g15 := hI.2.2.2.2.2.2.2.2.2.2.2.2.2.2.2.2.2.1
      have g16 := hI.2.2.2.2.2.2.2.2.2.2.2.2.2.2.2.2.2.2.1
      have g17 := hI.2.2.2.2.2.2.2.2.2.2.2.2.2.2.2.2.2.2.2.1
      have g18 := hI.2.2.2.2.2.2.2.2.2.2.2.2.2.2.2.2.2.2.2.2.1
      have g19 := hI.2.2.2.2.2.2.2.2.2.2.2.2.2.2.2.2.2.2.2.2.2.1
      have g20 := hI.2.2.2.2.2.2.2.2.2.2.2.2.2.2.2.2.2.2.2.2.2.2.1
      have g21 := hI.2.2.2.2.2.2.2.2.2.2.2.2.2.2.2.2.2.2.2.2.2.2.2.1
      have g22 := hI.2.2.2.2.2.2.2.2.2.2.2.2.2.2.2.2.2.2.2.2.2.2.2.2.1
      have g23 := hI.2.2.2.2.2.2.2.2.2.2.2.2.2.2.2.2.2.2.2.2.2.2.2.2.2.1
      have g24 := hI.2.2.2.2.2.2.2.2.2.2.2.2.2.2.2.2.2.2.2.2.2.2.2.2.2.2.1
      have g25 := hI.2.2.2.2.2.2.2.2.2.2.2.2.2.2.2.2.2.2.2.2.2.2.2.2.2.2.2
      clear hI
      simp [Region.binds] at hd
      dsimp only at hK ⊢
      have e20 := g20 (by simp [hd])
      subst e20
      obtain ⟨_, c0, c1, c2, c3, c4, c5, c6, c7, c8, c9, c10, c11⟩ := EK.out.below hb
      go_simp
      exact hK _ _ ⟨_, _, _, _, _, _, _, _, _, _, _, _, _, _, _, _, _, _, _, _, _, _, _, _, _, _, rfl, hb, g0, g1, g2, g3, g4, g5, g6, g7, g8, g9, g10, g11, g12, g13, g14, g15, g16, g17, g18, g19, g20, fun _ => rfl, g22, g23, g24, g25⟩
    · intro L a w' hI hl hd K hK
      refine hI.elim fun u10 hI => hI.elim fun u11 hI => hI.elim fun u12 hI => hI.elim fun u13 hI => hI.elim fun u14 hI => hI.elim fun u15 hI => hI.elim fun u16 hI => hI.elim fun u17 hI => hI.elim fun u18 hI => hI.elim fun u19 hI => hI.elim fun u20 hI => hI.elim fun u21 hI => hI.elim fun u22 hI => hI.elim fun u23 hI => hI.elim fun u24 hI => hI.elim fun u25 hI => hI.elim fun u26 hI => hI.elim fun u27 hI => hI.elim fun u28 hI => hI.elim fun u29 hI => hI.elim fun u30 hI => hI.elim fun u31 hI => hI.elim fun u32 hI => hI.elim fun u33 hI => hI.elim fun u34 hI => hI.elim fun u35 hI => ?_
      have ha := hI.1
      subst ha
      have hb := hI.2.1
      have g0 := hI.2.2.1
      have g1 := hI.2.2.2.1
      have g2 := hI.2.2.2.2.1
      have g3 := hI.2.2.2.2.2.1
      have g4 := hI.2.2.2.2.2.2.1
      have g5 := hI.2.2.2.2.2.2.2.1
      have g6 := hI.2.2.2.2.2.2.2.2.1
      have g7 := hI.2.2.2.2.2.2.2.2.2.1
      have g8 := hI.2.2.2.2.2.2.2.2.2.2.1
      have g9 := hI.2.2.2.2.2.2.2.2.2.2.2.1
      have g10 := hI.2.2.2.2.2.2.2.2.2.2.2.2.1
      have g11 := hI.2.2.2.2.2.2.2.2.2.2.2.2.2.1
      have g12 := hI.2.2.2.2.2.2.2.2.2.2.2.2.2.2.1
      have g13 := hI.2.2.2.2.2.2.2.2.2.2.2.2.2.2.2.1
      have g14 := hI.2.2.2.2.2.2.2.2.2.2.2.2.2.2.2.2.1
      have g15 := hI.2.2.2.2.2.2.2.2.2.2.2.2.2.2.2.2.2.1
      have g16 := hI.2.2.2.2.2.2.2.2.2.2.2.2.2.2.2.2.2.2.1
      have g17 := hI.2.2.2.2.2.2.2.2.2.2.2.2.2.2.2.2.2.2.2.1
      have g18 := hI.2.2.2.2.2.2.2.2.2.2.2.2.2.2.2.2.2.2.2.2.1
      have g19 := hI.2.2.2.2.2.2.2.2.2.2.2.2.2.2.2.2.2.2.2.2.2.1
      have g20 := hI.2.2.2.2.2.2.2.2.2.2.2.2.2.2.2.2.2.2.2.2.2.2.1
      have g21 := hI.2.2.2.2.2.2.2.2.2.2.2.2.2.2.2.2.2.2.2.2.2.2.2.1
      have g22 := hI.2.2.2.2.2.2.2.2.2.2.2.2.2.2.2.2.2.2.2.2.2.2.2.2.1
      have g23 := hI.2.2.2.2.2.2.2.2.2.2.2.2.2.2.2.2.2.2.2.2.2.2.2.2.2.1
      have g24 := hI.2.2.2.2.2.2.2.2.2.2.2.2.2.2.2.2.2.2.2.2.2.2.2.2.2.2.1
      have g25 := hI.2.2.2.2.2.2.2.2.2.2.2.2.2.2.2.2.2.2.2.2.2.2.2.2.2.2.2
      clear hI
      simp [Region.binds] at hd
      dsimp only at hK ⊢
      have e16 := g16 (by simp [hd])
      subst e16
      have e21 := g21 (by simp [hd])
      subst e21
      go_wp2_with fail
      refine (C2.out w').mono ?_
      rintro _ w4 ⟨rfl, rfl⟩
      exact hK _ _ ⟨_, _, _, _, _, _, _, _, _, _, _, _, _, _, _, _, _, _, _, _, _, _, _, _, _, _, rfl, hb, g0, g1, g2, g3, g4, g5, g6, g7, g8, g9, g10, g11, g12, g13, g14, g15, g16, g17, g18, g19, g20, g21, fun _ => rfl, g23, g24, g25⟩
    · intro L a w' hI hl hd K hK
      refine hI.elim fun u10 hI => hI.elim fun u11 hI => hI.elim fun u12 hI => hI.elim fun u13 hI => hI.elim fun u14 hI => hI.elim fun u15 hI => hI.elim fun u16 hI => hI.elim fun u17 hI => hI.elim fun u18 hI => hI.elim fun u19 hI => hI.elim fun u20 hI => hI.elim fun u21 hI => hI.elim fun u22 hI => hI.elim fun u23 hI => hI.elim fun u24 hI => hI.elim fun u25 hI => hI.elim fun u26 hI => hI.elim fun u27 hI => hI.elim fun u28 hI => hI.elim fun u29 hI => hI.elim fun u30 hI => hI.elim fun u31 hI => hI.elim fun u32 hI => hI.elim fun u33 hI => hI.elim fun u34 hI => hI.elim fun u35 hI => ?_
      have ha := hI.1
      subst ha
      have hb := hI.2.1
      have g0 := hI.2.2.1
      have g1 := hI.2.2.2.1
      have g2 := hI.2.2.2.2.1
      have g3 := hI.2.2.2.2.2.1
      have g4 := hI.2.2.2.2.2.2.1
      have g5 := hI.2.2.2.2.2.2.2.1
      have g6 := hI.2.2.2.2.2.2.2.2.1
      have g7 := hI.2.2.2.2.2.2.2.2.2.1
      have g8 := hI.2.2.2.2.2.2.2.2.2.2.1
      have g9 := hI.2.2.2.2.2.2.2.2.2.2.2.1
      have g10 := hI.2.2.2.2.2.2.2.2.2.2.2.2.1
      have g11 := hI.2.2.2.2.2.2.2.2.2.2.2.2.2.1
      have g12 := hI.2.2.2.2.2.2.2.2.2.2.2.2.2.2.1
      have g13 := hI.2.2.2.2.2.2.2.2.2.2.2.2.2.2.2.1
      have g14 := hI.2.2.2.2.2.2.2.2.2.2.2.2.2.2.2.2.1
      have g15 := hI.2.2.2.2.2.2.2.2.2.2.2.2.2.2.2.2.2.1
      have g16 := hI.2.2.2.2.2.2.2.2.2.2.2.2.2.2.2.2.2.2.1
      have g17 := hI.2.2.2.2.2.2.2.2.2.2.2.2.2.2.2.2.2.2.2.1
      have g18 := hI.2.2.2.2.2.2.2.2.2.2.2.2.2.2.2.2.2.2.2.2.1
      have g19 := hI.2.2.2.2.2.2.2.2.2.2.2.2.2.2.2.2.2.2.2.2.2.1
      have g20 := hI.2.2.2.2.2.2.2.2.2.2.2.2.2.2.2.2.2.2.2.2.2.2.1
      have g21 := hI.2.2.2.2.2.2.2.2.2.2.2.2.2.2.2.2.2.2.2.2.2.2.2.1
      have g22 := hI.2.2.2.2.2.2.2.2.2.2.2.2.2.2.2.2.2.2.2.2.2.2.2.2.1
      have g23 := hI.2.2.2.2.2.2.2.2.2.2.2.2.2.2.2.2.2.2.2.2.2.2.2.2.2.1
      have g24 := hI.2.2.2.2.2.2.2.2.2.2.2.2.2.2.2.2.2.2.2.2.2.2.2.2.2.2.1
      have g25 := hI.2.2.2.2.2.2.2.2.2.2.2.2.2.2.2.2.2.2.2.2.2.2.2.2.2.2.2
      clear hI
      simp [Region.binds] at hd
      dsimp only at hK ⊢
      have e11 := g11 (by simp [hd])
      subst e11
      have e22 := g22 (by simp [hd])
      subst e22
      go_simp
      exact hK _ _ ⟨_, _, _, _, _, _, _, _, _, _, _, _, _, _, _, _, _, _, _, _, _, _, _, _, _, _, rfl, hb.alloc hb.size _, g0, g1, g2, g3, g4, g5, g6, g7, g8, g9, g10, g11, g12, g13, g14, g15, g16, g17, g18, g19, g20, g21, g22, fun _ => ⟨_, rfl, hb.size, Blk.new _ _ _⟩, g24, g25⟩
    · intro L a w' hI hl hd K hK
      refine hI.elim fun u10 hI => hI.elim fun u11 hI => hI.elim fun u12 hI => hI.elim fun u13 hI => hI.elim fun u14 hI => hI.elim fun u15 hI => hI.elim fun u16 hI => hI.elim fun u17 hI => hI.elim fun u18 hI => hI.elim fun u19 hI => hI.elim fun u20 hI => hI.elim fun u21 hI => hI.elim fun u22 hI => hI.elim fun u23 hI => hI.elim fun u24 hI => hI.elim fun u25 hI => hI.elim fun u26 hI => hI.elim fun u27 hI => hI.elim fun u28 hI => hI.elim fun u29 hI => hI.elim fun u30 hI => hI.elim fun u31 hI => hI.elim fun u32 hI => hI.elim fun u33 hI => hI.elim fun u34 hI => hI.elim fun u35 hI => ?_
      have ha := hI.1
      subst ha
      have hb := hI.2.1
      have g0 := hI.2.2.1
      have g1 := hI.2.2.2.1
      have g2 := hI.2.2.2.2.1
      have g3 := hI.2.2.2.2.2.1
      have g4 := hI.2.2.2.2.2.2.1
      have g5 := hI.2.2.2.2.2.2.2.1
      have g6 := hI.2.2.2.2.2.2.2.2.1
      have g7 := hI.2.2.2.2.2.2.2.2.2.1
      have g8 := hI.2.2.2.2.2.2.2.2.2.2.1
      have g9 := hI.2.2.2.2.2.2.2.2.2.2.2.1
      have g10 := hI.2.2.2.2.2.2.2.2.2.2.2.2.1
      have g11 := hI.2.2.2.2.2.2.2.2.2.2.2.2.2.1
      have g12 := hI.2.2.2.2.2.2.2.2.2.2.2.2.2.2.1
      have g13 := hI.2.2.2.2.2.2.2.2.2.2.2.2.2.2.2.1
      have g14 := hI.2.2.2.2.2.2.2.2.2.2.2.2.2.2.2.2.1
      have g15 := hI.2.2.2.2.2.2.2.2.2.2.2.2.2.2.2.2.2.1
      have g16 := hI.2.2.2.2.2.2.2.2.2.2.2.2.2.2.2.2.2.2.1
      have g17 := hI.2.2.2.2.2.2.2.2.2.2.2.2.2.2.2.2.2.2.2.1
      have g18 := hI.2.2.2.2.2.2.2.2.2.2.2.2.2.2.2.2.2.2.2.2.1
      have g19 := hI.2.2.2.2.2.2.2.2.2.2.2.2.2.2.2.2.2.2.2.2.2.1
      have g20 := hI.2.2.2.2.2.2.2.2.2.2.2.2.2.2.2.2.2.2.2.2.2.2.1
      have g21 := hI.2.2.2.2.2.2.2.2.2.2.2.2.2.2.2.2.2.2.2.2.2.2.2.1
      have g22 := hI.2.2.2.2.2.2.2.2.2.2.2.2.2.2.2.2.2.2.2.2.2.2.2.2.1
      have g23 := hI.2.2.2.2.2.2.2.2.2.2.2.2.2.2.2.2.2.2.2.2.2.2.2.2.2.1
      have g24 := hI.2.2.2.2.2.2.2.2.2.2.2.2.2.2.2.2.2.2.2.2.2.2.2.2.2.2.1
      have g25 := hI.2.2.2.2.2.2.2.2.2.2.2.2.2.2.2.2.2.2.2.2.2.2.2.2.2.2.2
      clear hI
      simp [Region.binds] at hd
      dsimp only at hK ⊢
      obtain ⟨A, e33, hA, hB⟩ := g23 (by simp [hd])
      subst e33
      go_wp2_with fail
      refine (or_any _ [ck, oi] w' (show Sl w' 1 _ 2 (ints [ck, oi]) from blk_sl1 hB rfl (by decide)) (by simp)).mono ?_
      rintro _ w4 ⟨rfl, rfl⟩
      exact hK _ _ ⟨_, _, _, _, _, _, _, _, _, _, _, _, _, _, _, _, _, _, _, _, _, _, _, _, _, _, rfl, hb, g0, g1, g2, g3, g4, g5, g6, g7, g8, g9, g10, g11, g12, g13, g14, g15, g16, g17, g18, g19, g20, g21, g22, fun _ => ⟨_, rfl, hA, hB⟩, fun _ => rfl, g25⟩
    · intro L a w' hI hl hd K hK
      refine hI.elim fun u10 hI => hI.elim fun u11 hI => hI.elim fun u12 hI => hI.elim fun u13 hI => hI.elim fun u14 hI => hI.elim fun u15 hI => hI.elim fun u16 hI => hI.elim fun u17 hI => hI.elim fun u18 hI => hI.elim fun u19 hI => hI.elim fun u20 hI => hI.elim fun u21 hI => hI.elim fun u22 hI => hI.elim fun u23 hI => hI.elim fun u24 hI => hI.elim fun u25 hI => hI.elim fun u26 hI => hI.elim fun u27 hI => hI.elim fun u28 hI => hI.elim fun u29 hI => hI.elim fun u30 hI => hI.elim fun u31 hI => hI.elim fun u32 hI => hI.elim fun u33 hI => hI.elim fun u34 hI => hI.elim fun u35 hI => ?_
      have ha := hI.1
      subst ha
      have hb := hI.2.1
      have g0 := hI.2.2.1
      have g1 := hI.2.2.2.1
      have g2 := hI.2.2.2.2.1
      have g3 := hI.2.2.2.2.2.1
      have g4 := hI.2.2.2.2.2.2.1
      have g5 := hI.2.2.2.2.2.2.2.1
      have g6 := hI.2.2.2.2.2.2.2.2.1
      have g7 := hI.2.2.2.2.2.2.2.2.2.1
      have g8 := hI.2.2.2.2.2.2.2.2.2.2.1
      have g9 := hI.2.2.2.2.2.2.2.2.2.2.2.1
      have g10 := hI.2.2.2.2.2.2.2.2.2.2.2.2.1
      have g11 := hI.2.2.2.2.2.2.2.2.2.2.2.2.2.1
      have g12 := hI.2.2.2.2.2.2.2.2.2.2.2.2.2.2.1
      have g13 := hI.2.2.2.2.2.2.2.2.2.2.2.2.2.2.2.1
      have g14 := hI.2.2.2.2.2.2.2.2.2.2.2.2.2.2.2.2.1
      have g15 := hI.2.2.2.2.2.2.2.2.2.2.2.2.2.2.2.2.2.1
      have g16 := hI.2.2.2.2.2.2.2.2.2.2.2.2.2.2.2.2.2.2.1
      have g17 := hI.2.2.2.2.2.2.2.2.2.2.2.2.2.2.2.2.2.2.2.1
      have g18 := hI.2.2.2.2.2.2.2.2.2.2.2.2.2.2.2.2.2.2.2.2.1
      have g19 := hI.2.2.2.2.2.2.2.2.2.2.2.2.2.2.2.2.2.2.2.2.2.1
      have g20 := hI.2.2.2.2.2.2.2.2.2.2.2.2.2.2.2.2.2.2.2.2.2.2.1
      have g21 := hI.2.2.2.2.2.2.2.2.2.2.2.2.2.2.2.2.2.2.2.2.2.2.2.1
      have g22 := hI.2.2.2.2.2.2.2.2.2.2.2.2.2.2.2.2.2.2.2.2.2.2.2.2.1
      have g23 := hI.2.2.2.2.2.2.2.2.2.2.2.2.2.2.2.2.2.2.2.2.2.2.2.2.2.1
      have g24 := hI.2.2.2.2.2.2.2.2.2.2.2.2.2.2.2.2.2.2.2.2.2.2.2.2.2.2.1
      have g25 := hI.2.2.2.2.2.2.2.2.2.2.2.2.2.2.2.2.2.2.2.2.2.2.2.2.2.2.2
      clear hI
      simp [Region.binds] at hd
      dsimp only at hK ⊢
      have e24 := g24 (by simp [hd])
      subst e24
      go_simp
      exact hK _ _ ⟨_, _, _, _, _, _, _, _, _, _, _, _, _, _, _, _, _, _, _, _, _, _, _, _, _, _, rfl, hb, g0, g1, g2, g3, g4, g5, g6, g7, g8, g9, g10, g11, g12, g13, g14, g15, g16, g17, g18, g19, g20, g21, g22, g23, g24, fun _ => congrArg Value.bool HSB.out⟩
  intro a w3 hI
  refine hI.elim fun u10 hI => hI.elim fun u11 hI => hI.elim fun u12 hI => hI.elim fun u13 hI => hI.elim fun u14 hI => hI.elim fun u15 hI => hI.elim fun u16 hI => hI.elim fun u17 hI => hI.elim fun u18 hI => hI.elim fun u19 hI => hI.elim fun u20 hI => hI.elim fun u21 hI => hI.elim fun u22 hI => hI.elim fun u23 hI => hI.elim fun u24 hI => hI.elim fun u25 hI => hI.elim fun u26 hI => hI.elim fun u27 hI => hI.elim fun u28 hI => hI.elim fun u29 hI => hI.elim fun u30 hI => hI.elim fun u31 hI => hI.elim fun u32 hI => hI.elim fun u33 hI => hI.elim fun u34 hI => hI.elim fun u35 hI => ?_
  have ha := hI.1
  subst ha
  have hb := hI.2.1
  have g0 := hI.2.2.1
  have g1 := hI.2.2.2.1
  have g2 := hI.2.2.2.2.1
  have g3 := hI.2.2.2.2.2.1
  have g4 := hI.2.2.2.2.2.2.1
  have g5 := hI.2.2.2.2.2.2.2.1
  have g6 := hI.2.2.2.2.2.2.2.2.1
  have g7 := hI.2.2.2.2.2.2.2.2.2.1
  have g8 := hI.2.2.2.2.2.2.2.2.2.2.1
  have g9 := hI.2.2.2.2.2.2.2.2.2.2.2.1
  have g10 := hI.2.2.2.2.2.2.2.2.2.2.2.2.1
  have g11 := hI.2.2.2.2.2.2.2.2.2.2.2.2.2.1
  have g12 := hI.2.2.2.2.2.2.2.2.2.2.2.2.2.2.1
  have g13 := hI.2.2.2.2.2.2.2.2.2.2.2.2.2.2.2.1
  have g14 := hI.2.2.2.2.2.2.2.2.2.2.2.2.2.2.2.2.1
  have g15 := hI.2.2.2.2.2.2.2.2.2.2.2.2.2.2.2.2.2.1
  have g16 := hI.2.2.2.2.2.2.2.2.2.2.2.2.2.2.2.2.2.2.1
  have g17 := hI.2.2.2.2.2.2.2.2.2.2.2.2.2.2.2.2.2.2.2.1
  have g18 := hI.2.2.2.2.2.2.2.2.2.2.2.2.2.2.2.2.2.2.2.2.1
  have g19 := hI.2.2.2.2.2.2.2.2.2.2.2.2.2.2.2.2.2.2.2.2.2.1
  have g20 := hI.2.2.2.2.2.2.2.2.2.2.2.2.2.2.2.2.2.2.2.2.2.2.1
  have g21 := hI.2.2.2.2.2.2.2.2.2.2.2.2.2.2.2.2.2.2.2.2.2.2.2.1
  have g22 := hI.2.2.2.2.2.2.2.2.2.2.2.2.2.2.2.2.2.2.2.2.2.2.2.2.1
  have g23 := hI.2.2.2.2.2.2.2.2.2.2.2.2.2.2.2.2.2.2.2.2.2.2.2.2.2.1
  have g24 := hI.2.2.2.2.2.2.2.2.2.2.2.2.2.2.2.2.2.2.2.2.2.2.2.2.2.2.1
  have g25 := hI.2.2.2.2.2.2.2.2.2.2.2.2.2.2.2.2.2.2.2.2.2.2.2.2.2.2.2
  clear hI
  have e25 := g25 rfl
  subst e25
  have HX := Lib.hid hb
  clear g0 g1 g2 g3 g4 g5 g6 g7 g8 g9 g10 g11 g12 g13 g14 g15 g16 g17 g18 g19 g20 g21 g22 g23 g24 g25 hb
  cases sb with
  | true =>
    go_wp2
    exact bodyPost_ret (v := .tuple #[.int .i64 (k : Int), .int .i64 (i : Int)]) (by simp [results, Try.results45, go_sem]) rfl ⟨by rw [HSW.out, if_pos rfl], HX.out⟩
  | false =>
    go_wp2
    exact bodyPost_ret (v := .tuple #[.int .i64 (i : Int), .int .i64 (k : Int)]) (by simp [results, Try.results45, go_sem]) rfl ⟨by rw [HSW.out, if_neg (by simp)], HX.out⟩
theorem gapAt_get {t : Int} {l : List Ent} {x y j : Nat} {ex ey e : Ent} (h : l[j]? = some e) : gapAt t l x y ex ey j = (decide (j = x) || decide (j = y) || !(decide (0 < cmpR t e.hi ex.hi) && decide (cmpR t e.lo ey.lo < 0))) := by unfold gapAt; rw [h]
set_option maxRecDepth 100000 in
set_option maxHeartbeats 8000000 in
theorem padjacent_any (t : Int) (v : Value) (l : List Ent) (i k : Nat) (a b : Ent) (w : World) (hs : Sl w 12 v l.length (ents l)) (hl : l.length ≤ 1000000) (hi : i < l.length) (hk : k < l.length) (ha : l[i]? = some a) (hb : l[k]? = some b) :
    Calls Try.prog 44 #[.int .i64 t, v, .int .i64 (i : Int), .int .i64 (k : Int)] w (RetBe w (adjI t l i k a b)) := by
  have HS := Lib.hid hs
  have hA := ha
  have hB := hb
  obtain ⟨A, c, rfl, hc1, hc2⟩ := hs.form
  obtain ⟨ad, a', pi, rfl, ha', hpi, hEI⟩ := hs.ent_load rfl hi
  obtain ⟨ad', b', pk, e0, hb', hpk, hEK⟩ := hs.ent_load rfl hk
  injection e0 with e0
  subst e0
  rw [ha] at ha'
  injection ha' with ha'
  subst ha'
  rw [hb] at hb'
  injection hb' with hb'
  subst hb'
  have f0 := fun d os => (hEI.regrown d os).c0
  have f1 := fun d os => (hEI.regrown d os).c1
  have f2 := fun d os => (hEI.regrown d os).c2
  have f3 := fun d os => (hEI.regrown d os).c3
  have f4 := fun d os => (hEI.regrown d os).c4
  have f5 := fun d os => (hEI.regrown d os).c5
  have f6 := fun d os => (hEI.regrown d os).c6
  have f7 := fun d os => (hEI.regrown d os).c7
  have f8 := fun d os => (hEI.regrown d os).c8
  have f9 := fun d os => (hEI.regrown d os).c9
  have f10 := fun d os => (hEI.regrown d os).c10
  have f11 := fun d os => (hEI.regrown d os).c11
  have g0 := fun d os => (hEK.regrown d os).c0
  have g1 := fun d os => (hEK.regrown d os).c1
  have g2 := fun d os => (hEK.regrown d os).c2
  have g3 := fun d os => (hEK.regrown d os).c3
  have g4 := fun d os => (hEK.regrown d os).c4
  have g5 := fun d os => (hEK.regrown d os).c5
  have g6 := fun d os => (hEK.regrown d os).c6
  have g7 := fun d os => (hEK.regrown d os).c7
  have g8 := fun d os => (hEK.regrown d os).c8
  have g9 := fun d os => (hEK.regrown d os).c9
  have g10 := fun d os => (hEK.regrown d os).c10
  have g11 := fun d os => (hEK.regrown d os).c11
  have EI := Lib.hid hEI
  have EK := Lib.hid hEK
  by_cases hik : i = k
  · have HF := Lib.hid (show adjI t l i k a b = false by unfold adjI; rw [decide_eq_true hik]; rfl)
    have q1 : ((i : Int) == (k : Int)) = true := by simp [hik]
    have q2 : (i == k) = true := by simp [hik]
    clear hik hs hEI hEK ha hb hA hB
    go_enter Try.func44, Try.ntmps44
    go_upto_region 1 with (fail)
    refine wp_region_quiet_below (by kernel_rfl) (by kernel_rfl) ?_
    repeat (go_big_quiet_step (fail))
    refine wpQuiet_nil ?_
    intro _ hw'
    obtain ⟨⟨dq, osq⟩, hw''⟩ := hw'
    subst hw''
    go_wp2
    go_ret
    exact RetBe.mk_ HF.out (below_regrown w dq osq)
  · have q1 : ((i : Int) == (k : Int)) = false := by simp; omega
    have q2 : (i == k) = false := by simpa using hik
    have d1 : decide (i = k) = false := by simpa using hik
    cases hm : meetE t a b with
    | true =>
      have HF := Lib.hid (show adjI t l i k a b = false by unfold adjI; rw [hm]; simp)
      have A1 := Lib.hid (reg_v (w := w) (fun X _ => pover_any t a b X hm))
      clear hik hs hEI hEK ha hb hA hB d1 hm
      go_enter Try.func44, Try.ntmps44
      go_upto_region 1 with (fail)
      refine wp_region_quiet_below (by kernel_rfl) (by kernel_rfl) ?_
      repeat (go_big_quiet_step ((first | (with_reducible exact A1.out _ _))))
      refine wpQuiet_nil ?_
      intro _ hw'
      obtain ⟨⟨dq, osq⟩, hw''⟩ := hw'
      subst hw''
      go_wp2
      go_ret
      exact RetBe.mk_ HF.out (below_regrown w dq osq)
    | false =>
      have A1 := Lib.hid (reg_v (w := w) (fun X _ => pover_any t a b X hm))
      have HA := Lib.hid (show adjI t l i k a b = (if swapB t a b = true then allTo (gapAt t l k i b a) l.length else allTo (gapAt t l i k a b) l.length) by unfold adjI; rw [hm, d1]; simp)
      have HO := Lib.hid (fun X (hX : Below w.heap.size w X) => pordered_any t (.slice (some ad) l.length c) l i k a b X (hs.below hX) hl hi hk hA hB)
      have HAB := Lib.hid (And.intro hA hB)
      clear hik hs hEI hEK ha hb hA hB d1 hm
      go_enter Try.func44, Try.ntmps44
      go_upto_region 1 with (fail)
      refine wp_region_quiet_below (by kernel_rfl) (by kernel_rfl) ?_
      repeat (go_big_quiet_step ((first | (with_reducible exact A1.out _ _))))
      refine wpQuiet_nil ?_
      intro _ hw'
      obtain ⟨⟨dq, osq⟩, hw''⟩ := hw'
      subst hw''
      have HB0 := Lib.hid (below_regrown w dq osq)
      go_wp2_with fail
      refine (HO.out _ HB0.out).mono ?_
      rintro _ w2 ⟨rfl, hb2⟩
      have HB2 := Lib.hid (bst HB0.out hb2)
      clear hb2
      clear f0 f1 f2 f3 f4 f5 f6 f7 f8 f9 f10 f11
      clear g0 g1 g2 g3 g4 g5 g6 g7 g8 g9 g10 g11
      obtain ⟨x, y, ex, ey, px, py, hxl, hyl, hx, hy, hpx, hpy, hEX, hEY, HT, HAx⟩ : ∃ (x y : Nat) (ex ey : Ent) (px py : Addr), x < l.length ∧ y < l.length ∧ l[x]? = some ex ∧ l[y]? = some ey ∧ ad.add (x * 12) = px ∧ ad.add (y * 12) = py ∧ EntAt w px ex ∧ EntAt w py ey ∧
          (if swapB t a b = true then Value.tuple #[.int .i64 (k : Int), .int .i64 (i : Int)] else .tuple #[.int .i64 (i : Int), .int .i64 (k : Int)]) = .tuple #[.int .i64 (x : Int), .int .i64 (y : Int)] ∧ adjI t l i k a b = allTo (gapAt t l x y ex ey) l.length := by
        cases hsw : swapB t a b with
        | true => exact ⟨k, i, b, a, pk, pi, hk, hi, HAB.out.2, HAB.out.1, hpk, hpi, EK.out, EI.out, by rw [if_pos rfl], by rw [HA.out, hsw, if_pos rfl]⟩
        | false => exact ⟨i, k, a, b, pi, pk, hi, hk, HAB.out.1, HAB.out.2, hpi, hpk, EI.out, EK.out, by rw [if_neg (by simp)], by rw [HA.out, hsw, if_neg (by simp)]⟩
      rw [HT]
      have EX := Lib.hid (hEX.below HB2.out)
      have EY := Lib.hid (hEY.below HB2.out)
      have HAX := Lib.hid HAx
      clear HT HAx hx hy hEX hEY HA HO hpi hpk
      obtain ⟨W2, hW2⟩ : ∃ W2 : World, W2 = w2 := ⟨_, rfl⟩
      go_wp2
      go_loopw [38] (fun i wr => ∃ j : Nat, j ≤ l.length ∧ i = .int .i64 j ∧ Below w2.heap.size w2 wr ∧ Hid (allTo (gapAt t l x y ex ey) j = true)) (fun i _ => l.length - (intOf i).toNat)
      case atStart => exact ⟨0, by omega, rfl, Below.refl _ _, Lib.hid rfl⟩
      case round =>
        obtain ⟨j, hj, rfl, hbel, hall⟩ := hrel
        by_cases hlt : j < l.length
        · obtain ⟨ad2, e, p, e0, he, hp, hE⟩ := ((HS.out.below HB2.out).below hbel).ent_load rfl hlt
          injection e0 with e0
          subst e0
          obtain ⟨hplt, c0, c1, c2, c3, c4, c5, c6, c7, c8, c9, c10, c11⟩ := hE
          have HG := Lib.hid (gapAt_get (t := t) (x := x) (y := y) (ex := ex) (ey := ey) he)
          have HLT := Lib.hid hlt
          clear he
          obtain ⟨U, hU⟩ : ∃ U, U = wr.alloc (.cells #[.int .i64 e.id, .int .i64 e.rows, .int .i64 e.live, .bool e.lo.null, .int .i64 e.lo.n, .string e.lo.s, .int .i64 e.lo.seq, .bool e.hi.null, .int .i64 e.hi.n, .string e.hi.s, .int .i64 e.hi.seq, .int .i64 e.del] 41) := ⟨_, rfl⟩
          have HBU := Lib.hid (show Below w2.heap.size w2 U by rw [hU]; exact hbel.alloc hbel.size _)
          have hE2 : EntAt U ⟨wr.heap.size, 0, none⟩ e := EntAt.of_blk (e := e) (by rw [hU]; exact Blk.new _ _ _)
          have hX2 := EX.out.below HBU.out
          have hY2 := EY.out.below HBU.out
          have f0 := fun d os => (hE2.regrown d os).c0
          have f1 := fun d os => (hE2.regrown d os).c1
          have f2 := fun d os => (hE2.regrown d os).c2
          have f3 := fun d os => (hE2.regrown d os).c3
          have f4 := fun d os => (hE2.regrown d os).c4
          have f5 := fun d os => (hE2.regrown d os).c5
          have f6 := fun d os => (hE2.regrown d os).c6
          have f7 := fun d os => (hE2.regrown d os).c7
          have f8 := fun d os => (hE2.regrown d os).c8
          have f9 := fun d os => (hE2.regrown d os).c9
          have f10 := fun d os => (hE2.regrown d os).c10
          have f11 := fun d os => (hE2.regrown d os).c11
          have g0 := fun d os => (hX2.regrown d os).c0
          have g1 := fun d os => (hX2.regrown d os).c1
          have g2 := fun d os => (hX2.regrown d os).c2
          have g3 := fun d os => (hX2.regrown d os).c3
          have g4 := fun d os => (hX2.regrown d os).c4
          have g5 := fun d os => (hX2.regrown d os).c5
          have g6 := fun d os => (hX2.regrown d os).c6
          have g7 := fun d os => (hX2.regrown d os).c7
          have g8 := fun d os => (hX2.regrown d os).c8
          have g9 := fun d os => (hX2.regrown d os).c9
          have g10 := fun d os => (hX2.regrown d os).c10
          have g11 := fun d os => (hX2.regrown d os).c11
          have h0 := fun d os => (hY2.regrown d os).c0
          have h1 := fun d os => (hY2.regrown d os).c1
          have h2 := fun d os => (hY2.regrown d os).c2
          have h3 := fun d os => (hY2.regrown d os).c3
          have h4 := fun d os => (hY2.regrown d os).c4
          have h5 := fun d os => (hY2.regrown d os).c5
          have h6 := fun d os => (hY2.regrown d os).c6
          have h7 := fun d os => (hY2.regrown d os).c7
          have h8 := fun d os => (hY2.regrown d os).c8
          have h9 := fun d os => (hY2.regrown d os).c9
          have h10 := fun d os => (hY2.regrown d os).c10
          have h11 := fun d os => (hY2.regrown d os).c11
          clear hE2 hX2 hY2 hbel
          obtain ⟨k1, hk1⟩ : ∃ q, cmpR t e.hi ex.hi = q := ⟨_, rfl⟩
          obtain ⟨k2, hk2⟩ : ∃ q, cmpR t e.lo ey.lo = q := ⟨_, rfl⟩
          have A1 := Lib.hid (reg_v (w := U) (v := .int .i64 k1) (fun X _ => by rw [← hk1]; exact bcmp_any t e.hi ex.hi X))
          have A2 := Lib.hid (reg_v (w := U) (v := .int .i64 k2) (fun X _ => by rw [← hk2]; exact bcmp_any t e.lo ey.lo X))
          rw [hk1, hk2] at HG
          clear hk1 hk2
          go_upto_region 7 with (fail)
          rw [← hU]
          clear hU
          by_cases hjx : j = x
          · have q3 : ((j : Int) != (x : Int)) = false := by simp [hjx]
            have q3' : (j != x) = false := by simp [hjx]
            have HN := Lib.hid (show allTo (gapAt t l x y ex ey) (j + 1) = true from allTo_next hall.out (by rw [HG.out]; simp [hjx]))
            clear hjx
            refine wp_region_quiet_below (by kernel_rfl) (by kernel_rfl) ?_
            repeat (go_big_quiet_step ((first | (with_reducible exact A1.out _ _) | (with_reducible exact A2.out _ _))))
            refine wpQuiet_nil ?_
            intro _ hw'
            obtain ⟨⟨dq, osq⟩, hw''⟩ := hw'
            subst hw''
            go_wp2
            go_roundw
            case rel => exact ⟨j + 1, HLT.out, by go_num, bst HBU.out (below_regrown U dq osq), HN⟩
            case measure => have := HLT.out; simp [intOf]; omega
          · have q3 : ((j : Int) != (x : Int)) = true := by simp; omega
            have q3' : (j != x) = true := by simpa using hjx
            by_cases hjy : j = y
            · have q4 : ((j : Int) != (y : Int)) = false := by simp [hjy]
              have q4' : (j != y) = false := by simp [hjy]
              have HN := Lib.hid (show allTo (gapAt t l x y ex ey) (j + 1) = true from allTo_next hall.out (by rw [HG.out]; simp [hjy]))
              clear hjx hjy
              refine wp_region_quiet_below (by kernel_rfl) (by kernel_rfl) ?_
              repeat (go_big_quiet_step ((first | (with_reducible exact A1.out _ _) | (with_reducible exact A2.out _ _))))
              refine wpQuiet_nil ?_
              intro _ hw'
              obtain ⟨⟨dq, osq⟩, hw''⟩ := hw'
              subst hw''
              go_wp2
              go_roundw
              case rel => exact ⟨j + 1, HLT.out, by go_num, bst HBU.out (below_regrown U dq osq), HN⟩
              case measure => have := HLT.out; simp [intOf]; omega
            · have q4 : ((j : Int) != (y : Int)) = true := by simp; omega
              have q4' : (j != y) = true := by simpa using hjy
              by_cases h1 : 0 < k1
              · have q5 : decide (0 < k1) = true := by simpa using h1
                by_cases h2 : k2 < 0
                · have q6 : decide (k2 < 0) = true := by simpa using h2
                  have HN := Lib.hid (show adjI t l i k a b = false by rw [HAX.out]; exact allTo_false HLT.out (by rw [HG.out]; simp [hjx, hjy, h1, h2]))
                  clear hjx hjy h1 h2
                  refine wp_region_quiet_below (by kernel_rfl) (by kernel_rfl) ?_
                  repeat (go_big_quiet_step ((first | (with_reducible exact A1.out _ _) | (with_reducible exact A2.out _ _))))
                  refine wpQuiet_nil ?_
                  intro _ hw'
                  obtain ⟨⟨dq, osq⟩, hw''⟩ := hw'
                  subst hw''
                  go_wp2
                  go_ret
                  exact RetBe.mk_ HN.out (bst HB2.out (bst HBU.out (below_regrown U dq osq)))
                · have q6 : decide (k2 < 0) = false := by simpa using h2
                  have HN := Lib.hid (show allTo (gapAt t l x y ex ey) (j + 1) = true from allTo_next hall.out (by rw [HG.out]; simp [hjx, hjy, h1, h2]))
                  clear hjx hjy h1 h2
                  refine wp_region_quiet_below (by kernel_rfl) (by kernel_rfl) ?_
                  repeat (go_big_quiet_step ((first | (with_reducible exact A1.out _ _) | (with_reducible exact A2.out _ _))))
                  refine wpQuiet_nil ?_
                  intro _ hw'
                  obtain ⟨⟨dq, osq⟩, hw''⟩ := hw'
                  subst hw''
                  go_wp2
                  go_roundw
                  case rel => exact ⟨j + 1, HLT.out, by go_num, bst HBU.out (below_regrown U dq osq), HN⟩
                  case measure => have := HLT.out; simp [intOf]; omega
              · have q5 : decide (0 < k1) = false := by simpa using h1
                have HN := Lib.hid (show allTo (gapAt t l x y ex ey) (j + 1) = true from allTo_next hall.out (by rw [HG.out]; simp [hjx, hjy, h1]))
                clear hjx hjy h1
                refine wp_region_quiet_below (by kernel_rfl) (by kernel_rfl) ?_
                repeat (go_big_quiet_step ((first | (with_reducible exact A1.out _ _) | (with_reducible exact A2.out _ _))))
                refine wpQuiet_nil ?_
                intro _ hw'
                obtain ⟨⟨dq, osq⟩, hw''⟩ := hw'
                subst hw''
                go_wp2
                go_roundw
                case rel => exact ⟨j + 1, HLT.out, by go_num, bst HBU.out (below_regrown U dq osq), HN⟩
                case measure => have := HLT.out; simp [intOf]; omega
        · have HF := Lib.hid (show adjI t l i k a b = true by rw [HAX.out, show l.length = j by omega]; exact hall.out)
          have HX := Lib.hid (bst HB2.out hbel)
          clear hbel
          go_wp2
          go_ret
          exact RetBe.mk_ HF.out HX.out
end Go.Proofs.Ytcjekbncllccbaa
