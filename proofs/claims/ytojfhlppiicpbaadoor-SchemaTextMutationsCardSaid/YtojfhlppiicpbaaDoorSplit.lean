/-
  The contracts of strings.Split at " " and of strings.Cut at a line's end.
-/
import Derived.Test.YtojfhlppiicpbaaDoorShelf
import Derived.Test.YtojfhlppiicpbaaDoorSParSpec
import Derived.Test.YtojfhlppiicpbaaDoorStrs
import Derived.Test.YtojfhlppiicpbaaDoorBase
import Derived.Deep.QuietTactic
import Derived.BigQuiet
import Derived.Lib.TrimByte
namespace Go.Proofs.YtojfhlppiicpbaaDoor
open Go.RowKit Go.Sort
set_option linter.unusedVariables false
theorem none_mem {l : List UInt8} {c : UInt8} (h : Lib.indexByte l c = -1) : ∀ x ∈ l, x ≠ c := by
  intro x hx e
  obtain ⟨k, hk⟩ := List.mem_iff_getElem?.1 hx
  exact Lib.indexByte_none h k (by rw [hk, e])
theorem some_parts {l : List UInt8} {c : UInt8} {i : Nat} (h : Lib.indexByte l c = (i : Int)) : l = l.take i ++ c :: l.drop (i + 1) ∧ (∀ x ∈ l.take i, x ≠ c) ∧ i < l.length := by
  obtain ⟨h1, h2⟩ := Lib.indexByte_some h
  have hi := (List.getElem?_eq_some_iff.1 h1).1
  refine ⟨?_, ?_, hi⟩
  · have h3 : l.drop i = c :: l.drop (i + 1) := by
      rw [List.drop_eq_getElem_cons hi]
      congr 1
      exact (List.getElem?_eq_some_iff.1 h1).2
    rw [← h3, List.take_append_drop]
  · intro x hx e
    obtain ⟨k, hk⟩ := List.mem_iff_getElem?.1 hx
    have hki : k < i := by
      have := (List.getElem?_eq_some_iff.1 hk).1
      rw [List.length_take] at this; omega
    rw [List.getElem?_take_of_lt hki] at hk
    exact h2 k hki (by rw [hk, e])
theorem splitK_C (c : UInt8) : ∀ (n : Nat) (l : List UInt8), l.length ≤ n → Lib.splitK [c] 0 (Lib.count l [c]) l = splitC c l := by
  intro n
  induction n with
  | zero =>
    intro l hl
    obtain rfl : l = [] := List.eq_nil_of_length_eq_zero (by omega)
    rfl
  | succ n ih =>
    intro l hl
    have hge := Lib.indexByte_ge l c
    have ix := Lib.index_one l c
    by_cases h : Lib.indexByte l c = -1
    · rw [Lib.count_miss (by rw [ix, h]), splitC_no (none_mem h)]; rfl
    · obtain ⟨i, hi⟩ : ∃ i : Nat, Lib.indexByte l c = (i : Int) := ⟨(Lib.indexByte l c).toNat, by omega⟩
      obtain ⟨p1, p2, p3⟩ := some_parts hi
      rw [Lib.count_hit (by simp) (by rw [ix, hi]), Nat.add_comm]
      unfold Lib.splitK
      rw [if_neg (by rw [ix, hi, beq_iff_eq]; omega), ix, hi, Int.toNat_natCast, Nat.add_zero, List.length_singleton, ih _ (by rw [List.length_drop]; omega)]
      conv => rhs; rw [p1]
      rw [splitC_app p2]
theorem splitB_C (s : ByteArray) : Lib.splitB { data := #[32] } 0 (Lib.countB s { data := #[32] }) s = (splitC 32 s.data.toList).map mkS := by
  have h := Lib.splitB_data { data := #[32] } 0 (Lib.countB s { data := #[32] }) s
  have h2 : Lib.splitK [32] 0 (Lib.count s.data.toList [32]) s.data.toList = splitC 32 s.data.toList := splitK_C 32 _ _ (Nat.le_refl _)
  rw [← h2]
  have h3 : (Lib.splitB { data := #[32] } 0 (Lib.countB s { data := #[32] }) s).map (·.data.toList) = Lib.splitK [32] 0 (Lib.count s.data.toList [32]) s.data.toList := h
  rw [← h3, List.map_map]
  conv => lhs; rw [← List.map_id (Lib.splitB _ _ _ s)]
  apply List.map_congr_left
  intro x _
  exact (mkS_of x).symm
def wordsM (l : List UInt8) : List ByteArray := (splitC 32 l).map mkS
def RetSplit (w : World) (W : List ByteArray) (e : Ending) (w' : World) : Prop := e = .returned (.slice (some ⟨w.heap.size, 0, none⟩) W.length W.length) ∧ w' = w.alloc (.cells (strV W).toArray 9)
theorem gen_in (s : ByteArray) (w : World) (hs : s.size < 4294967281) :
    Calls Tryd.prog 41 #[.string s, .string { data := #[32] }, .int .i64 0, .int .i64 (-1)] w (RetSplit w (wordsM s.data.toList)) := by
  have h1 : 1 ≤ (ByteArray.mk #[32]).size := by decide
  have hle := Lib.countB_le { data := #[32] } h1 s.size s (Nat.le_refl _)
  have hlen := Lib.splitB_all { data := #[32] } h1 0 _ s rfl
  have C := Any.strings_genSplit_core Tryd.lays221 (by kernel_rfl) s { data := #[32] } 0 (-1) (Lib.countB s { data := #[32] } + 1) w hs h1 (Nat.zero_le _)
    (fun x c hx => (Tryd.strings_Index_one x 32 _).mono fun _ _ ⟨a, b⟩ => ⟨by rw [a]; show _ = Ending.returned (Value.int .i64 (Lib.index x.data.toList [32])); rw [Lib.index_one], b⟩)
    ((Tryd.strings_Count_one s 32 w).mono fun _ _ ⟨a, b⟩ => ⟨by rw [a]; show _ = Ending.returned (Value.int .i64 ((Lib.count s.data.toList [32] : Nat) : Int)); rw [Lib.count_one]; rfl, b⟩)
    (by decide) (by decide) (by rw [if_pos (by decide)]; omega)
  rw [Nat.add_sub_cancel, hlen] at C
  have e2 : Lib.cellsOf (Lib.splitB { data := #[32] } 0 (Lib.countB s { data := #[32] }) s) (Lib.countB s { data := #[32] } + 1) = ((Lib.splitB { data := #[32] } 0 (Lib.countB s { data := #[32] }) s).map Value.string).toArray := by rw [← hlen]; exact Lib.cellsOf_full _
  rw [e2, ← hlen, splitB_C] at C
  exact C
theorem split_any (s : ByteArray) (w : World) (hs : s.size < 4294967281) :
    Calls Tryd.prog 25 #[.string s, .string { data := #[32] }] w (RetSplit w (wordsM s.data.toList)) := by
  have C := Lib.hid (gen_in s w hs)
  obtain ⟨W, hW⟩ : ∃ W, W = wordsM s.data.toList := ⟨_, rfl⟩
  rw [← hW] at C ⊢
  clear hW
  go_enter Tryd.func25, Tryd.ntmps25
  go_wp2_with fail
  refine C.out.mono ?_
  rintro _ _ ⟨rfl, rfl⟩
  go_wp2
  go_ret
  exact ⟨rfl, rfl⟩
theorem line_all : ∀ {t : List UInt8}, (∀ x ∈ t, x ≠ 10) → lineT t = t ∧ lineR t = []
  | [], _ => ⟨rfl, rfl⟩
  | x :: a, h => by
    have h1 := h x (by simp)
    obtain ⟨i1, i2⟩ := line_all (t := a) (fun y hy => h y (by simp [hy]))
    unfold lineT at i1
    unfold lineR at i2
    unfold lineT lineR
    have e : lineB x = true := by unfold lineB; rw [decide_eq_true_eq]; exact h1
    rw [List.takeWhile_cons, List.dropWhile_cons, e]
    exact ⟨by rw [if_pos rfl, i1], by rw [if_pos rfl, i2]⟩
theorem line_none {t : List UInt8} (h : Lib.indexByte t 10 = -1) : lineT t = t ∧ lineR t = [] := line_all (none_mem h)
theorem line_some {t : List UInt8} {i : Nat} (h : Lib.indexByte t 10 = (i : Int)) : lineT t = t.take i ∧ lineR t = 10 :: t.drop (i + 1) ∧ i < t.length := by
  obtain ⟨p1, p2, p3⟩ := some_parts h
  obtain ⟨a, b⟩ := line_of (r := t.drop (i + 1)) p2
  rw [← p1] at a b
  exact ⟨a, b, p3⟩
def RetLine (w : World) (W F : ByteArray) (b : Bool) (e : Ending) (w' : World) : Prop := e = .returned (.tuple #[.string W, .string F, .bool b]) ∧ ∃ n, w' = w.drewN n
set_option maxHeartbeats 1000000 in
theorem cutl_in (s W F : ByteArray) (pt : Bool) (hW : W.data.toList = lineT s.data.toList) (hF : F.data.toList = (lineR s.data.toList).tail) (hp : pt = decide (lineR s.data.toList ≠ [])) (w : World) (hs : s.size ≤ 9223372036854775806) :
    Calls Tryd.prog 40 #[.string s, .string { data := #[10] }] w (RetLine w W F pt) := by
  have CI := Lib.hid (fun X => Tryd.stringslite_Index_one s 10 X)
  have hge := Lib.indexByte_ge s.data.toList 10
  by_cases h : Lib.indexByte s.data.toList 10 = -1
  · obtain ⟨e1, e2⟩ := line_none h
    rw [e1] at hW
    rw [e2] at hF hp
    obtain rfl : W = s := strEq hW
    obtain rfl : F = { data := #[] } := strEq hF
    obtain rfl : pt = false := by rw [hp]; simp
    rw [h] at CI
    clear hW hF hp hge h e1 e2
    go_enter Tryd.func40, Tryd.ntmps40
    go_wp2_with fail
    refine (CI.out _).mono ?_
    rintro _ _ ⟨rfl, rfl⟩
    go_wp2
    go_ret3
    exact ⟨rfl, 0, rfl⟩
  · obtain ⟨i, hi⟩ : ∃ i : Nat, Lib.indexByte s.data.toList 10 = (i : Int) := ⟨(Lib.indexByte s.data.toList 10).toNat, by omega⟩
    obtain ⟨e1, e2, e3⟩ := line_some hi
    rw [e1] at hW
    rw [e2] at hF hp
    rw [size_data] at e3
    have hWs := Lib.hid (show s.extract 0 i = W from strEq (by rw [hW, Lib.extract_upto]))
    have hFs := Lib.hid (show s.extract (i + 1) s.size = F from strEq (by rw [hF, Lib.extract_from]; rfl))
    obtain rfl : pt = true := by rw [hp]; simp
    rw [hi] at CI
    clear hW hF hp hge h hi e1 e2
    go_enter Tryd.func40, Tryd.ntmps40
    go_wp2_with fail
    refine (CI.out _).mono ?_
    rintro _ _ ⟨rfl, rfl⟩
    go_wp2
    go_quiet (fail)
    go_wp2
    go_ret3
    exact ⟨by rw [← hWs.out, ← hFs.out]; first | rfl | simp, _, rfl⟩
theorem cutl_any (s W F : ByteArray) (pt : Bool) (hW : W.data.toList = lineT s.data.toList) (hF : F.data.toList = (lineR s.data.toList).tail) (hp : pt = decide (lineR s.data.toList ≠ [])) (w : World) (hs : s.size ≤ 9223372036854775806) :
    Calls Tryd.prog 24 #[.string s, .string { data := #[10] }] w (RetLine w W F pt) := by
  have CH := Lib.hid (cutl_in s W F pt hW hF hp w hs)
  clear hW hF hp
  go_enter Tryd.func24, Tryd.ntmps24
  go_wp2_with fail
  refine CH.out.mono ?_
  rintro _ _ ⟨rfl, n, rfl⟩
  go_wp2
  go_ret3
  exact ⟨rfl, n, rfl⟩
end Go.Proofs.YtojfhlppiicpbaaDoor
