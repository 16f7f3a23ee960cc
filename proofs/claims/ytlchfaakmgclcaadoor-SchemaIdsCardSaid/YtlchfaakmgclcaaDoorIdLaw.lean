/-
  Schemas whose texts differ in one byte have different sums.
-/
import Derived.Test.YtlchfaakmgclcaaDoorSId
import Derived.Test.YtlchfaakmgclcaaDoorKSchemaLaw
namespace Go.Proofs.YtlchfaakmgclcaaDoor
open Go.RowKit
def invT : Array Nat := #[0, 241, 226, 19, 196, 53, 38, 215, 136, 121, 106, 155, 76, 189, 174, 95, 16, 225, 242, 3, 212, 37, 54, 199, 152, 105, 122, 139, 92, 173, 190, 79, 32, 209, 194, 51, 228, 21, 6, 247, 168, 89, 74, 187, 108, 157, 142, 127, 48, 193, 210, 35, 244, 5, 22, 231, 184, 73, 90, 171, 124, 141, 158, 111, 177, 64, 83, 162, 117, 132, 151, 102, 57, 200, 219, 42, 253, 12, 31, 238, 161, 80, 67, 178, 101, 148, 135, 118, 41, 216, 203, 58, 237, 28, 15, 254, 145, 96, 115, 130, 85, 164, 183, 70, 25, 232, 251, 10, 221, 44, 63, 206, 129, 112, 99, 146, 69, 180, 167, 86, 9, 248, 235, 26, 205, 60, 47, 222, 98, 147, 128, 113, 166, 87, 68, 181, 234, 27, 8, 249, 46, 223, 204, 61, 114, 131, 144, 97, 182, 71, 84, 165, 250, 11, 24, 233, 62, 207, 220, 45, 66, 179, 160, 81, 134, 119, 100, 149, 202, 59, 40, 217, 14, 255, 236, 29, 82, 163, 176, 65, 150, 103, 116, 133, 218, 43, 56, 201, 30, 239, 252, 13, 211, 34, 49, 192, 23, 230, 245, 4, 91, 170, 185, 72, 159, 110, 125, 140, 195, 50, 33, 208, 7, 246, 229, 20, 75, 186, 169, 88, 143, 126, 109, 156, 243, 2, 17, 224, 55, 198, 213, 36, 123, 138, 153, 104, 191, 78, 93, 172, 227, 18, 1, 240, 39, 214, 197, 52, 107, 154, 137, 120, 175, 94, 77, 188]
theorem invT_at : ∀ i : Fin 256, invT[(tabF i.val).toNat / 16777216]? = some i.val := by decide +kernel
theorem tabF_range (i : Nat) (h : i < 256) : 0 ≤ tabF i ∧ tabF i < 4294967296 := crcIt_range (by omega) (by omega) 8
theorem tabF_top {i j : Nat} (hi : i < 256) (hj : j < 256) (h : (tabF i).toNat / 16777216 = (tabF j).toNat / 16777216) : i = j := by
  have a := invT_at ⟨i, hi⟩
  have b := invT_at ⟨j, hj⟩
  simp only at a b
  rw [h, b] at a
  exact (Option.some.inj a).symm
theorem xor32_eq (a b : Int) : bits .xor .u32 a b = ((BitVec.ofInt 32 a ^^^ BitVec.ofInt 32 b).toNat : Int) := by
  have h : bits .xor .u32 a b = IntKind.u32.wrap ((BitVec.ofInt 32 a ^^^ BitVec.ofInt 32 b).toNat : Int) := rfl
  have := (BitVec.ofInt 32 a ^^^ BitVec.ofInt 32 b).isLt
  rw [h, IntKind.wrap_u32]
  omega
theorem xor8_eq (a b : Int) : bits .xor .u8 a b = ((BitVec.ofInt 8 a ^^^ BitVec.ofInt 8 b).toNat : Int) := by
  have h : bits .xor .u8 a b = IntKind.u8.wrap ((BitVec.ofInt 8 a ^^^ BitVec.ofInt 8 b).toNat : Int) := rfl
  have := (BitVec.ofInt 8 a ^^^ BitVec.ofInt 8 b).isLt
  rw [h, IntKind.wrap_u8]
  omega
theorem ofInt32_nat {x : Int} (h0 : 0 ≤ x) (h1 : x < 4294967296) : (BitVec.ofInt 32 x).toNat = x.toNat := by
  rw [BitVec.toNat_ofInt, show ((2 ^ 32 : Nat) : Int) = 4294967296 from rfl, Int.emod_eq_of_lt h0 h1]
theorem ofInt8_nat {x : Int} (h0 : 0 ≤ x) (h1 : x < 256) : (BitVec.ofInt 8 x).toNat = x.toNat := by
  rw [BitVec.toNat_ofInt, show ((2 ^ 8 : Nat) : Int) = 256 from rfl, Int.emod_eq_of_lt h0 h1]
theorem ofInt32_inj {x y : Int} (h0 : 0 ≤ x) (h1 : x < 4294967296) (k0 : 0 ≤ y) (k1 : y < 4294967296) (h : BitVec.ofInt 32 x = BitVec.ofInt 32 y) : x = y := by
  have := congrArg BitVec.toNat h
  rw [ofInt32_nat h0 h1, ofInt32_nat k0 k1] at this
  omega
theorem ofInt8_inj {x y : Int} (h0 : 0 ≤ x) (h1 : x < 256) (k0 : 0 ≤ y) (k1 : y < 256) (h : BitVec.ofInt 8 x = BitVec.ofInt 8 y) : x = y := by
  have := congrArg BitVec.toNat h
  rw [ofInt8_nat h0 h1, ofInt8_nat k0 k1] at this
  omega
theorem xorc_right {n : Nat} {x y t : BitVec n} (h : x ^^^ t = y ^^^ t) : x = y := by
  have := congrArg (fun z : BitVec n => z ^^^ t) h
  simpa [BitVec.xor_assoc] using this
theorem xorc_left {n : Nat} {x y t : BitVec n} (h : t ^^^ x = t ^^^ y) : x = y := by
  rw [BitVec.xor_comm t x, BitVec.xor_comm t y] at h
  exact xorc_right h
theorem stepB_two {v v' b b' : Int} (h0 : 0 ≤ v) (h1 : v < 4294967296) (k0 : 0 ≤ v') (k1 : v' < 4294967296) (h : stepB v b = stepB v' b') :
    v / 256 = v' / 256 ∧ bits .xor .u8 (v % 256) b = bits .xor .u8 (v' % 256) b' := by
  unfold stepB at h
  have ri := xor8_range (v % 256) b
  have rj := xor8_range (v' % 256) b'
  obtain ⟨i, hi⟩ : ∃ i : Nat, bits .xor .u8 (v % 256) b = (i : Int) := ⟨(bits .xor .u8 (v % 256) b).toNat, by omega⟩
  obtain ⟨j, hj⟩ : ∃ j : Nat, bits .xor .u8 (v' % 256) b' = (j : Int) := ⟨(bits .xor .u8 (v' % 256) b').toNat, by omega⟩
  rw [hi] at h ri ⊢
  rw [hj] at h rj ⊢
  rw [Int.toNat_natCast, Int.toNat_natCast, xor32_eq, xor32_eq] at h
  have hi256 : i < 256 := by omega
  have hj256 : j < 256 := by omega
  have e := BitVec.eq_of_toNat_eq (Int.ofNat.inj h)
  have ti := tabF_range i hi256
  have tj := tabF_range j hj256
  have hs := congrArg (fun x : BitVec 32 => x >>> 24) e
  simp only [BitVec.ushiftRight_xor_distrib] at hs
  have z : ∀ x : Int, 0 ≤ x → x < 4294967296 → (BitVec.ofInt 32 (x / 256)) >>> 24 = 0#32 := by
    intro x hx0 hx1
    apply BitVec.eq_of_toNat_eq
    rw [BitVec.toNat_ushiftRight, ofInt32_nat (by omega) (by omega), Nat.shiftRight_eq_div_pow]
    show (x / 256).toNat / 16777216 = 0
    omega
  rw [z v h0 h1, z v' k0 k1] at hs
  have hs2 := congrArg BitVec.toNat (xorc_left hs)
  rw [BitVec.toNat_ushiftRight, BitVec.toNat_ushiftRight, ofInt32_nat ti.1 ti.2, ofInt32_nat tj.1 tj.2, Nat.shiftRight_eq_div_pow, Nat.shiftRight_eq_div_pow] at hs2
  have eij : i = j := tabF_top hi256 hj256 hs2
  subst eij
  exact ⟨ofInt32_inj (by omega) (by omega) (by omega) (by omega) (xorc_right e), rfl⟩
theorem stepB_v {v v' b : Int} (h0 : 0 ≤ v) (h1 : v < 4294967296) (k0 : 0 ≤ v') (k1 : v' < 4294967296) (h : stepB v b = stepB v' b) : v = v' := by
  obtain ⟨e1, e2⟩ := stepB_two h0 h1 k0 k1 h
  rw [xor8_eq, xor8_eq] at e2
  have e3 := ofInt8_inj (by omega) (by omega) (by omega) (by omega) (xorc_right (BitVec.eq_of_toNat_eq (Int.ofNat.inj e2)))
  omega
theorem stepB_b {v b b' : Int} (h0 : 0 ≤ v) (h1 : v < 4294967296) (k0 : 0 ≤ b) (k1 : b < 256) (m0 : 0 ≤ b') (m1 : b' < 256) (h : stepB v b = stepB v b') : b = b' := by
  obtain ⟨_, e2⟩ := stepB_two h0 h1 h0 h1 h
  rw [xor8_eq, xor8_eq] at e2
  exact ofInt8_inj k0 k1 m0 m1 (xorc_left (BitVec.eq_of_toNat_eq (Int.ofNat.inj e2)))
theorem foldB_cons (v : Int) (a : UInt8) (q : List UInt8) : foldB v (a :: q) = foldB (stepB v (a.toNat : Int)) q := rfl
theorem foldB_app (v : Int) (p q : List UInt8) : foldB v (p ++ q) = foldB (foldB v p) q := by unfold foldB; rw [List.foldl_append]
theorem foldB_v : ∀ (q : List UInt8) {v v' : Int}, 0 ≤ v → v < 4294967296 → 0 ≤ v' → v' < 4294967296 → foldB v q = foldB v' q → v = v'
  | [], _, _, _, _, _, _, h => h
  | a :: q, v, v', h0, h1, k0, k1, h => by
    rw [foldB_cons, foldB_cons] at h
    have r1 := stepB_range v (a.toNat : Int)
    have r2 := stepB_range v' (a.toNat : Int)
    exact stepB_v h0 h1 k0 k1 (foldB_v q r1.1 r1.2 r2.1 r2.2 h)
theorem sum_ne {p q : List UInt8} {a b : UInt8} (h : a ≠ b) : sumV (p ++ a :: q) ≠ sumV (p ++ b :: q) := by
  intro e
  unfold sumV at e
  rw [xor32_eq, xor32_eq] at e
  have e1 := xorc_left (BitVec.eq_of_toNat_eq (Int.ofNat.inj e))
  have r0 := foldB_range (v := 4294967295) (by decide) (by decide) p
  have r1 := foldB_range (v := 4294967295) (by decide) (by decide) (p ++ a :: q)
  have r2 := foldB_range (v := 4294967295) (by decide) (by decide) (p ++ b :: q)
  have e2 := ofInt32_inj r1.1 r1.2 r2.1 r2.2 e1
  rw [foldB_app, foldB_app, foldB_cons, foldB_cons] at e2
  have s1 := stepB_range (foldB 4294967295 p) (a.toNat : Int)
  have s2 := stepB_range (foldB 4294967295 p) (b.toNat : Int)
  have e3 := stepB_b r0.1 r0.2 (by omega) (by have := a.toNat_lt; omega) (by omega) (by have := b.toNat_lt; omega) (foldB_v q s1.1 s1.2 s2.1 s2.2 e2)
  exact h (UInt8.toNat_inj.1 (by omega))
def colY (c : Col) : Col := ⟨⟨#[121]⟩, c.ty, c.sc, c.nu⟩
theorem linesC_set {l : List Col} {i : Nat} (h : i < l.length) (d : Col) : linesC (l.set i d) = linesC (l.take i) ++ (colLine d ++ linesC (l.drop (i + 1))) := by
  rw [List.set_eq_take_append_cons_drop, if_pos h]
  unfold linesC
  rw [List.flatMap_append, List.flatMap_cons]
theorem nmC_y {k : Nat} (h : k ≤ 4) : nmC k ≠ ⟨#[121]⟩ := by
  have : ∀ j : Fin 5, nmC j.val ≠ ⟨#[121]⟩ := by decide +kernel
  exact this ⟨k, by omega⟩
theorem nmC_byte {k : Nat} (h : k ≤ 4) : UInt8.ofNat (96 + k) ≠ 121 := by
  have : ∀ j : Fin 5, UInt8.ofNat (96 + j.val) ≠ 121 := by decide +kernel
  exact this ⟨k, by omega⟩
def tailL (c : Col) : List UInt8 := [32] ++ tyW c.ty ++ colB c ++ colC c ++ [10]
theorem line_y (c : Col) : colLine (colY c) = 121 :: tailL c := by
  unfold colLine colA tailL colY colB colC; simp
theorem line_nm {c : Col} {k : Nat} (h : c.nm = nmC k) : colLine c = UInt8.ofNat (96 + k) :: tailL c := by
  unfold colLine colA tailL; rw [h]; simp [nmC]
theorem keyC_set {l : List Col} {i : Nat} {key : Int} (d : Col) (h : key.toNat ≠ i) : keyC (l.set i d) key = keyC l key := by
  unfold keyC; rw [List.getElem?_set_ne (Ne.symm h)]
theorem y_name : nameB (⟨#[121]⟩ : ByteArray).data.toList = true := by decide +kernel
theorem set_at {l : List Col} {i j : Nat} {c d : Col} (hG : GenS l.length l) (hc : l[i]? = some c) (h : (l.set i (colY c))[j]? = some d) :
    d.nm = (if j = i then ⟨#[121]⟩ else nmC (l.length - j)) ∧ ∃ d0, l[j]? = some d0 ∧ d0.ty = d.ty ∧ d0.sc = d.sc := by
  by_cases e : j = i
  · subst e
    rw [List.getElem?_set_self (List.getElem?_eq_some_iff.1 hc).1] at h
    injection h with h
    subst h
    rw [if_pos rfl]
    exact ⟨rfl, c, hc, rfl, rfl⟩
  · rw [List.getElem?_set_ne (Ne.symm e)] at h
    rw [if_neg e]
    exact ⟨(hG j d h).nm, d, h, rfl, rfl⟩
theorem set_valid {l : List Col} {key : Int} {i : Nat} {c : Col} (h1 : 1 ≤ l.length) (h4 : l.length ≤ 4) (hG : GenS l.length l) (k0 : 0 ≤ key) (k1 : key < l.length) (hc : l[i]? = some c) : schkV (l.set i (colY c)) key = 0 := by
  obtain ⟨m, hm⟩ : ∃ m, m = l.set i (colY c) := ⟨_, rfl⟩
  have hlen : m.length = l.length := by rw [hm, List.length_set]
  have hat : ∀ (j : Nat) (d : Col), m[j]? = some d → d.nm = (if j = i then ⟨#[121]⟩ else nmC (l.length - j)) ∧ ∃ d0, l[j]? = some d0 ∧ d0.ty = d.ty ∧ d0.sc = d.sc := fun j d hd => set_at hG hc (by rw [← hm]; exact hd)
  rw [← hm]
  have hz : ∀ n, n ≤ m.length → firstE (colE m) n = 0 := by
    intro n
    induction n with
    | zero => intro _; rfl
    | succ n ih =>
      intro hn
      refine firstE_next (ih (by omega)) ?_
      have hd : m[n]? = some m[n] := List.getElem?_eq_getElem (by omega)
      rw [colE_at hd]
      generalize m[n] = d at hd
      obtain ⟨hnm, d0, hd0, t1, t2⟩ := hat n d hd
      have g := hG n d0 hd0
      refine err_none ?_ ?_ ?_ ?_
      · rw [hnm]; split
        · exact y_name
        · exact nmC_name (by omega) (by omega)
      · rw [findC_hit hd rfl (fun j e he hj eq => ?_)]
        · exact Int.le_refl _
        · rw [(hat j e he).1, hnm] at eq
          split at eq
          · split at eq
            · omega
            · exact nmC_y (by omega) eq.symm
          · split at eq
            · exact nmC_y (by omega) eq
            · have := nmC_inj (by omega) (by omega) eq
              omega
      · have := g.ty; omega
      · have := g.sc; have := g.sz; omega
  rw [schk_key (by omega) (by omega) (hz _ (Nat.le_refl _)), if_neg (by omega)]
theorem id_valid {l : List Col} {key : Int} (h : schkV l key = 0) : idV (sfmtV l key) = (sumV (linesC l ++ keyC l key), 0) := by
  have e : sfmtV l key = (linesC l ++ keyC l key, 0) := by unfold sfmtV; rw [if_neg (by rw [h]; simp)]
  rw [e]; unfold idV; rw [if_neg (by simp)]
theorem id_ne {l : List Col} {key : Int} {i : Nat} {c : Col} (h1 : 1 ≤ l.length) (h4 : l.length ≤ 4) (hG : GenS l.length l) (k0 : 0 ≤ key) (hc : l[i]? = some c) (hne : key ≠ i) :
    sumV (linesC l ++ keyC l key) ≠ sumV (linesC (l.set i (colY c)) ++ keyC (l.set i (colY c)) key) := by
  have hi := (List.getElem?_eq_some_iff.1 hc).1
  have e1 : l = l.set i c := by
    apply List.ext_getElem?
    intro j
    by_cases e : j = i
    · subst e; rw [List.getElem?_set_self hi, hc]
    · rw [List.getElem?_set_ne (Ne.symm e)]
  rw [keyC_set _ (by omega), linesC_set hi, line_y]
  have e2 : linesC l = linesC (l.take i) ++ (colLine c ++ linesC (l.drop (i + 1))) := (congrArg linesC e1).trans (linesC_set hi c)
  rw [e2, line_nm (hG i c hc).nm]
  simp only [List.append_assoc, List.cons_append]
  exact sum_ne (nmC_byte (by omega))
end Go.Proofs.YtlchfaakmgclcaaDoor
