/-
  The contract of law 32's snapshots: a few versions out of integers.
-/
import Derived.Test.YtjfnpklknehiiaaDoorKSnap
import Derived.Test.YtjfnpklknehiiaaDoorSnapGen
import Derived.Test.YtjfnpklknehiiaaDoorSnL
namespace Go.Proofs.YtjfnpklknehiiaaDoor
open Go.RowKit
theorem Src.snaps {w w' : World} {B g base : Nat} {rest : List Int} {v : Value} {h : List Snp} (hs : Src w B 64 g rest) (ho : OwnSn w base v h) (k : Only g w w') : OwnSn w' base v h := by
  obtain ⟨us, e1, e2, e3⟩ := ho
  exact ⟨us, e1, own_only e2 hs (by decide) k, fun k' s u hk hu => own_only (e3 k' s u hk hu) hs (by decide) k⟩
theorem own_i1 {w : World} {base : Nat} {e : TypeId} {v : Value} {l : List Int} {y : Int} {R : Nat} (hR : l.length = R) (h : w.ownsRow base e 1 v (R + 1) (ints l ++ (#[Value.int .i64 y] : Array Value).toList)) : w.ownsRow base e 1 v (l ++ [y]).length (ints (l ++ [y])) := by subst hR; exact own_ints h
/-- What the versions' entries are. -/
def EntsOk (h : List Snp) : Prop := ∀ s ∈ h, s.l.length ≤ 6 ∧ ∀ e ∈ s.l, e.gen ∧ e.id ≤ 100
def RetSs (w : World) (e : Ending) (w' : World) : Prop := ∃ v h, e = .returned v ∧ OwnSn w' w.heap.size v h ∧ h.length ≤ 3 ∧ EntsOk h ∧ Below w.heap.size w w'
set_option maxRecDepth 100000 in
set_option maxHeartbeats 8000000 in
theorem snaps32_any (v : Value) (zs : List Int) (w : World) (hs : Sl w 1 v zs.length (ints zs)) (hl : zs.length ≤ 9223372036854775807) (hr : ∀ x ∈ zs, -9223372036854775808 ≤ x ∧ x ≤ 9223372036854775807) :
    Calls Tryd.prog 5 #[v] w (RetSs w) := by
  obtain ⟨A, c, rfl, _, _⟩ := hs.form
  have HF := Lib.hid (from_any _ zs w hs hl hr)
  clear hs hr hl
  go_enter Tryd.func5, Tryd.ntmps5
  go_wp2_with fail
  refine HF.out.mono ?_
  rintro _ w1 ⟨g, rfl, hb1, hsrc⟩
  clear HF
  have HN := Lib.hid (next_any _ g 4 zs w1 hsrc (by omega) (by omega))
  have HGE := Lib.hid hsrc.ge
  obtain ⟨n, hn⟩ : ∃ n : Nat, nxt 4 zs = n := ⟨(nxt 4 zs).toNat, by have := nxt_lo 4 zs (by omega); omega⟩
  have hn4 : n ≤ 3 := by have := nxt_hi 4 zs (by omega); omega
  rw [hn] at HN
  clear hn hsrc
  go_wp2_with fail
  refine HN.out.mono ?_
  rintro _ w2 ⟨rfl, ho2, hs2⟩
  have hb2 := Lib.hid (hb1.trans (ho2.below HGE.out hb1.size))
  have HS2 := Lib.hid hs2
  clear HN ho2 hb1 hs2
  go_wp2
  go_loopw [4, 5] (fun v4 i wr => ∃ (k : Nat) (h : List Snp) (r : List Int), i = .int .i64 k ∧ h.length + k ≤ 3 ∧ Hid (EntsOk h) ∧ Src wr w.heap.size 64 g r ∧ OwnSn wr w.heap.size v4 h ∧ Below w.heap.size w wr) (fun _ i _ => (intOf i).toNat)
  case atStart => exact ⟨n, [], zs.tail, rfl, by simpa using hn4, Lib.hid (by intro s hs; simp at hs), HS2.out, OwnSn.nil _ _, hb2.out⟩
  case round =>
    obtain ⟨wo, rfl⟩ : ∃ wo : World, wo = wr := ⟨_, rfl⟩
    obtain ⟨k, h, r, rfl, hk, hok, hsrc, hown, hbel⟩ := hrel
    obtain ⟨AH, cH, rfl, _, _⟩ := hown.sl.form
    obtain ⟨R, hR⟩ : ∃ R, h.length = R := ⟨_, rfl⟩
    have HR := Lib.hid hR
    rw [hR] at hk hown ⊢
    clear hR
    by_cases hlt : 0 < k
    · have HOW := Lib.hid hown
      have HBE := Lib.hid hbel
      have HSR := Lib.hid hsrc
      have HLT := Lib.hid hlt
      have hd : decide ((0 : Int) < (k : Int)) = true := by simp; omega
      clear hown hbel hsrc
      go_wp2
      go_loopw [6, 7] (fun v6 i wr => ∃ (m : Nat) (rx l : List Int), i = .int .i64 m ∧ m ≤ 10 ∧ l.length = m ∧ Hid (∀ x ∈ l, -9223372036854775808 ≤ x ∧ x ≤ 9223372036854775807) ∧ Src wr w.heap.size 64 g rx ∧ wr.ownsRow wo.heap.size 3 1 v6 m (ints l) ∧ Only g wo wr) (fun _ i _ => 10 - (intOf i).toNat)
      case atStart => exact ⟨0, r, [], rfl, by omega, rfl, Lib.hid (by simp), HSR.out, World.ownsRow_nil _ _ _ _, Only.refl _ _⟩
      case round =>
        obtain ⟨m, rx, l, rfl, hm, hll, hlr, hsrc, hown, hon⟩ := hrel
        by_cases hlm : m < 10
        · have HRAW := Lib.hid hsrc.raw_bd
          have HLM := Lib.hid hlm
          have HLL := Lib.hid hll
          have HSX := Lib.hid hsrc
          have HOWX := Lib.hid hown
          clear hll hsrc hown
          go_wp2_with fail
          refine (raw_any _ g rx wr HSX.out).mono ?_
          rintro _ wa ⟨rfl, ho, hs2⟩
          have hown2 := own_row HOWX.out ho (fun b hb e => HSX.out.own_ne HOWX.out (by decide) (by rw [hb, e]))
          have hon2 := hon.trans ho
          have hsz := hon2.size
          have HS2 := Lib.hid hs2
          have ON2 := Lib.hid hon2
          have HO2 := Lib.hid hown2
          clear ho hon hs2 hon2
          go_wp2_with (at_builtin; go_must (refine app1 _ _ hown2 (Below.refl wo.heap.size wa) (Nat.le_refl _) hsz under_i64 info_i64 rfl (by decide) rfl (by intro u hu; simp at hu; subst hu; rfl) (by omega) (by omega) rfl rfl rfl rfl ?_))
          intro g' cap' w9 ho9 hb9 hg9 hor9
          have O9 := Lib.hid (own_i1 HLL.out ho9)
          have S9 := Lib.hid (HS2.out.grown hg9 (HS2.out.own_ne HO2.out (by decide)) (fun b hb => Nat.le_trans HBE.out.size (HO2.out.lt b hb).1))
          have ON9 := Lib.hid (ON2.out.grown hg9 (fun b hb => .inl (HO2.out.lt b hb).1))
          have HR9 := Lib.hid (show ∀ x ∈ l ++ [raw rx], -9223372036854775808 ≤ x ∧ x ≤ 9223372036854775807 from fun x hx => by
            rcases List.mem_append.1 hx with h | h
            · exact hlr.out x h
            · simp at h; subst h; exact HRAW.out)
          clear ho9 hb9 hg9 hor9 hown2 hsz
          go_wp2
          go_roundw
          case rel => exact ⟨m + 1, rx.tail, l ++ [raw rx], by go_num, HLM.out, by rw [List.length_append, HLL.out]; rfl, HR9, S9.out, (by have := O9.out; rw [List.length_append, HLL.out] at this; exact this), ON9.out⟩
          case measure => have := HLM.out; simp [intOf]; omega
        · have hm10 : m = 10 := by omega
          subst hm10
          obtain ⟨Am, cm, rfl, _, _⟩ := (Sl.of_own hown).form
          have HK := Lib.hid (ksnap_any (.slice Am 10 cm) l wr (by have := Sl.of_own hown; rw [← hll] at this ⊢; exact this) (by omega) hlr.out)
          have OWX := Lib.hid (HSR.out.snaps HOW.out hon)
          have BWX := Lib.hid (HBE.out.trans (hon.below HGE.out HBE.out.size))
          have SRX := Lib.hid hsrc
          clear hown hon hsrc
          go_wp2_with fail
          refine HK.out.mono ?_
          rintro _ w3 ⟨x, q, n', vs, sl, rfl, k1, k2, k3, k4, k5, k6, hlen, hG, hos, hb3⟩
          obtain ⟨AE, cE, rfl, _, _⟩ := (Sl.of_own hos).form
          have HG := Lib.hid (show EntsOk (h ++ [⟨x, q, n', sl⟩]) from fun s hs => by
            rcases List.mem_append.1 hs with h1 | h1
            · exact hok.out s h1
            · simp at h1; subst h1; exact ⟨hlen, fun e he => ⟨(hG.mem e he).1, by have := (hG.mem e he).2; omega⟩⟩)
          have O3 := Lib.hid (own_mono hos BWX.out.size)
          have OW3 := Lib.hid (OWX.out.below hb3)
          have S3 := Lib.hid (SRX.out.below hb3)
          have B3 := Lib.hid (bst BWX.out hb3)
          clear hG hos hb3 k1 k2 k3 k4 k5 k6 hlen HK
          obtain ⟨us, hu1, hu2, hu3⟩ := OW3.out
          rw [HR.out] at hu2
          have HU := Lib.hid (⟨hu1, hu3⟩ : _ ∧ _)
          clear hu1 hu3
          have hsz := B3.out.size
          go_wp2_with (at_builtin; go_must (refine app1 _ _ hu2 (Below.refl w.heap.size w3) (Nat.le_refl _) hsz under_snap info_snap rfl (by decide) rfl (one4 _ _ _ _ _ _) (by omega) (by omega) rfl rfl rfl rfl ?_))
          intro g' cap' w9 ho9 hb9 hg9 hor9
          have O9 := Lib.hid (own_snoc (h := h) (s := ⟨x, q, n', sl⟩) (u := .slice AE sl.length cE) HU.out.1 (by rw [HR.out]; exact hu2) HU.out.2 O3.out (by rw [HR.out]; exact ho9) hg9)
          have HAD := Lib.hid (show (Value.slice AH R cH).ownBlock ≠ some g from fun e => S3.out.own_ne hu2 (by decide) e)
          have S9 := Lib.hid (S3.out.grown hg9 HAD.out (fun b hb => (hu2.lt b hb).1))
          have B9 := Lib.hid (B3.out.trans hb9)
          clear ho9 hb9 hg9 hor9 hu2 hsz
          go_wp2
          go_roundw
          case rel => exact ⟨k - 1, h ++ [⟨x, q, n', sl⟩], _, by have := HLT.out; go_num, by rw [List.length_append, HR.out]; have := HLT.out; simp; omega, HG, S9.out, O9.out, B9.out⟩
          case measure => have := HLT.out; simp [intOf]; omega
    · have HOW := Lib.hid hown
      have HBE := Lib.hid hbel
      have hk0 : k = 0 := by omega
      subst hk0
      clear hown hbel hsrc
      go_wp2
      go_ret
      exact ⟨_, h, rfl, by rw [HR.out] at *; exact HOW.out, by rw [HR.out]; omega, hok.out, HBE.out⟩
end Go.Proofs.YtjfnpklknehiiaaDoor
