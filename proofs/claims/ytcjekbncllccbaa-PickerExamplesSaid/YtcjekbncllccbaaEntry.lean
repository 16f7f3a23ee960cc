/-
  The contracts of manifest.Entry and ref18.Entry.
-/
import Derived.Test.YtcjekbncllccbaaEnt
import Derived.Test.YtcjekbncllccbaaBase
namespace Go.Proofs.Ytcjekbncllccbaa
open Go.RowKit
def Rk.val (r : Rk) : Value := .agg #[.bool r.null, .int .i64 r.n, .string r.s, .int .i64 r.seq]
def Ent.val (e : Ent) : Value := .agg #[.int .i64 e.id, .int .i64 e.rows, .int .i64 e.live, .bool e.lo.null, .int .i64 e.lo.n, .string e.lo.s, .int .i64 e.lo.seq, .bool e.hi.null, .int .i64 e.hi.n, .string e.hi.s, .int .i64 e.hi.seq, .int .i64 e.del]
def objB (n : Int) : Bool := decide (1 ≤ n) && decide (n ≤ 2147483647)
def plainB (b : Bool) (n : Int) (s : ByteArray) : Bool := if b then decide (n = 0) && decide (s.size = 0) else decide (s.size ≤ 64)
def inB (n lo hi : Int) : Bool := decide (lo ≤ n) && decide (n ≤ hi)
theorem object_any (n : Int) (w : World) : Calls Try.prog 64 #[.int .i64 n] w fun e w' => e = .returned (.bool (objB n)) ∧ w = w' := by
  by_cases h1 : 1 ≤ n
  · by_cases h2 : n ≤ 2147483647
    · go_enter Try.func64, Try.ntmps64
      go_wp2
      go_ret
      exact ⟨ret_bool (by simp [objB, h1, h2]), rfl⟩
    · go_enter Try.func64, Try.ntmps64
      go_wp2
      go_ret
      exact ⟨ret_bool (by simp [objB, h1, h2]), rfl⟩
  · go_enter Try.func64, Try.ntmps64
    go_wp2
    go_ret
    exact ⟨ret_bool (by simp [objB]; omega), rfl⟩
theorem in_any (n lo hi : Int) (w : World) : Calls Try.prog 90 #[.int .i64 n, .int .i64 lo, .int .i64 hi] w fun e w' => e = .returned (.bool (inB n lo hi)) ∧ w = w' := by
  by_cases h1 : lo ≤ n
  · by_cases h2 : n ≤ hi
    · go_enter Try.func90, Try.ntmps90
      go_wp2
      go_ret
      exact ⟨ret_bool (by simp [inB, h1, h2]), rfl⟩
    · go_enter Try.func90, Try.ntmps90
      go_wp2
      go_ret
      exact ⟨ret_bool (by simp [inB, h1, h2]), rfl⟩
  · go_enter Try.func90, Try.ntmps90
    go_wp2
    go_ret
    exact ⟨ret_bool (by simp [inB]; omega), rfl⟩
theorem nil_size (s : ByteArray) : s.toList = [] ↔ s.size = 0 := by
  rw [Go.ByteArray.toList_eq, ← List.length_eq_zero_iff, size_data]
theorem abel (w : World) (o : Obj) : Below w.heap.size w (w.alloc o) := (Below.refl _ _).alloc (Nat.le_refl _) _
theorem abel2 (w : World) (o p : Obj) : Below w.heap.size w ((w.alloc o).alloc p) := (abel w o).alloc (by simp) _
set_option maxHeartbeats 1000000 in
theorem plain_any (b : Bool) (n : Int) (s : ByteArray) (w : World) (hs : s.size ≤ 9223372036854775807) : Calls Try.prog 92 #[.agg #[.bool b, .int .i64 n, .string s]] w (RetB1' w (plainB b n s)) := by
  cases b
  · by_cases h : s.size ≤ 64
    · go_enter Try.func92, Try.ntmps92
      go_wp2
      go_ret
      exact ⟨ret_bool (by simp [plainB]; omega), abel _ _⟩
    · go_enter Try.func92, Try.ntmps92
      go_wp2
      go_ret
      exact ⟨ret_bool (by simp [plainB]; omega), abel _ _⟩
  · have HN := Lib.hid (nil_size s)
    go_enter Try.func92, Try.ntmps92
    go_wp2
    all_goals
      go_ret
      refine ⟨ret_bool ?_, abel _ _⟩
      simp [plainB, ← HN.out, *]
      try (cases s.toList <;> simp)
set_option maxHeartbeats 1000000 in
theorem rplain_any (r : Rk) (w : World) (hs : r.s.size ≤ 9223372036854775807) : Calls Try.prog 91 #[r.val] w (RetB1' w r.okB) := by
  obtain ⟨b, n, s, q⟩ := r
  have HN := Lib.hid (nil_size s)
  change Calls _ _ #[.agg #[.bool b, .int .i64 n, .string s, .int .i64 q]] w _
  by_cases h1 : 0 ≤ q
  · by_cases h2 : q ≤ 1099511627776
    · cases b
      · by_cases h : s.size ≤ 64
        all_goals
          go_enter Try.func91, Try.ntmps91
          go_wp2
          go_ret
          exact ⟨ret_bool (by simp [Rk.okB, h1, h2]; omega), abel2 _ _ _⟩
      · go_enter Try.func91, Try.ntmps91
        go_wp2
        all_goals
          go_ret
          refine ⟨ret_bool ?_, abel2 _ _ _⟩
          simp [Rk.okB, ← HN.out, *]
          try (cases s.toList <;> simp)
    · go_enter Try.func91, Try.ntmps91
      go_wp2
      go_ret
      exact ⟨ret_bool (by simp [Rk.okB]; omega), abel2 _ _ _⟩
  · go_enter Try.func91, Try.ntmps91
    go_wp2
    go_ret
    exact ⟨ret_bool (by simp [Rk.okB]; omega), abel2 _ _ _⟩
theorem Rk.okB_plain (r : Rk) : r.okB = (plainB r.null r.n r.s && (decide (0 ≤ r.seq) && decide (r.seq ≤ 1099511627776))) := rfl
set_option maxHeartbeats 1000000 in
theorem rank_any (b : Bool) (n : Int) (s : ByteArray) (q : Int) (w : World) (hs : s.size ≤ 9223372036854775807) : Calls Try.prog 65 #[.agg #[.bool b, .int .i64 n, .string s, .int .i64 q]] w (RetB1' w (Rk.okB ⟨b, n, s, q⟩)) := by
  have H := Lib.hid (Rk.okB_plain ⟨b, n, s, q⟩)
  have HP := Lib.hid (fun X => plain_any b n s X hs)
  have HO := Lib.hid (abel w (.cells #[.bool b, .int .i64 n, .string s, .int .i64 q] 37))
  go_enter Try.func65, Try.ntmps65
  go_wp2_with fail
  refine (HP.out _).mono ?_
  rintro _ w1 ⟨rfl, hb1⟩
  have c3 : w1.cell? ⟨w.heap.size, 3, none⟩ = some (.int .i64 q) := (hb1.cell (p := ⟨w.heap.size, 3, none⟩) (by simp)).trans (by simp)
  have HB := Lib.hid hb1
  clear hb1
  go_wp2
  all_goals
    go_ret
    exact ⟨ret_bool (by rw [H.out]; simp [*] <;> omega), bst HO.out HB.out⟩
theorem rplain_any' (b : Bool) (n : Int) (s : ByteArray) (q : Int) (w : World) (hs : s.size ≤ 9223372036854775807) : Calls Try.prog 91 #[.agg #[.bool b, .int .i64 n, .string s, .int .i64 q]] w (RetB1' w (Rk.okB ⟨b, n, s, q⟩)) := rplain_any ⟨b, n, s, q⟩ w hs
theorem Ent.okB_prog (e : Ent) : e.okB = (objB e.id && decide (1 ≤ e.rows) && decide (e.rows ≤ 1024) && decide (1 ≤ e.live) && decide (e.live ≤ e.rows) && e.lo.okB && e.hi.okB && (decide (e.del = 0) || objB e.del)) := by
  have h : (decide (e.del = 0) || objB e.del) = (decide (0 ≤ e.del) && decide (e.del ≤ 2147483647)) := by
    unfold objB
    by_cases h0 : e.del = 0
    · simp [h0]
    · by_cases h1 : 0 ≤ e.del
      · simp [h0, h1]; omega
      · simp [h0, h1]; omega
  rw [h]; simp only [Ent.okB, objB, Bool.and_assoc]
theorem Ent.okB_ref (e : Ent) : e.okB = (inB e.id 1 2147483647 && inB e.rows 1 1024 && inB e.live 1 e.rows && e.lo.okB && e.hi.okB && inB e.del 0 2147483647) := by
  simp only [Ent.okB, inB, Bool.and_assoc]
set_option maxHeartbeats 4000000 in
theorem entry_any (e : Ent) (w : World) (h1 : e.lo.s.size ≤ 9223372036854775807) (h2 : e.hi.s.size ≤ 9223372036854775807) : Calls Try.prog 52 #[e.val] w (RetB1' w e.okB) := by
  have H := Lib.hid e.okB_prog
  obtain ⟨id, rows, live, ⟨ln, lx, ls, lq⟩, ⟨hn, hx, hs, hq⟩, del⟩ := e
  change Calls _ _ #[.agg #[.int .i64 id, .int .i64 rows, .int .i64 live, .bool ln, .int .i64 lx, .string ls, .int .i64 lq, .bool hn, .int .i64 hx, .string hs, .int .i64 hq, .int .i64 del]] w _
  have HL := Lib.hid (fun X => rank_any ln lx ls lq X h1)
  have HH := Lib.hid (fun X => rank_any hn hx hs hq X h2)
  have HO := Lib.hid (abel w (.cells #[.int .i64 id, .int .i64 rows, .int .i64 live, .bool ln, .int .i64 lx, .string ls, .int .i64 lq, .bool hn, .int .i64 hx, .string hs, .int .i64 hq, .int .i64 del] 41))
  go_enter Try.func52, Try.ntmps52
  go_wp2_with (first
    | (go_at_call 64; refine (object_any _ _).mono ?_; rintro _ _ ⟨rfl, rfl⟩)
    | (with_reducible refine (HL.out _).mono ?_
       rintro _ w1 ⟨rfl, hb1⟩
       obtain ⟨hc, hf⟩ := bcell hb1
       have hz : w.heap.size < w1.heap.size := by have := hb1.size; simp at this; omega
       have HB1 := Lib.hid hb1
       clear hb1)
    | (with_reducible refine (HH.out _).mono ?_
       rintro _ w2 ⟨rfl, hb2⟩
       obtain ⟨hc2, hf2⟩ := bcell hb2
       have HB2 := Lib.hid hb2
       clear hb2))
  all_goals
    go_ret
    refine ⟨ret_bool (by rw [H.out]; simp [*] <;> omega), ?_⟩
    first | exact bst (bst HO.out HB1.out) HB2.out | exact bst HO.out HB1.out | exact HO.out
set_option maxHeartbeats 4000000 in
theorem rentry_any (e : Ent) (w : World) (h1 : e.lo.s.size ≤ 9223372036854775807) (h2 : e.hi.s.size ≤ 9223372036854775807) : Calls Try.prog 62 #[e.val] w (RetB1' w e.okB) := by
  have H := Lib.hid e.okB_ref
  obtain ⟨id, rows, live, ⟨ln, lx, ls, lq⟩, ⟨hn, hx, hs, hq⟩, del⟩ := e
  change Calls _ _ #[.agg #[.int .i64 id, .int .i64 rows, .int .i64 live, .bool ln, .int .i64 lx, .string ls, .int .i64 lq, .bool hn, .int .i64 hx, .string hs, .int .i64 hq, .int .i64 del]] w _
  have HL := Lib.hid (fun X => rplain_any' ln lx ls lq X h1)
  have HH := Lib.hid (fun X => rplain_any' hn hx hs hq X h2)
  have HO := Lib.hid (abel w (.cells #[.int .i64 id, .int .i64 rows, .int .i64 live, .bool ln, .int .i64 lx, .string ls, .int .i64 lq, .bool hn, .int .i64 hx, .string hs, .int .i64 hq, .int .i64 del] 41))
  go_enter Try.func62, Try.ntmps62
  go_wp2_with (first
    | (go_at_call 90; refine (in_any _ _ _ _).mono ?_; rintro _ _ ⟨rfl, rfl⟩)
    | (with_reducible refine (HL.out _).mono ?_
       rintro _ w1 ⟨rfl, hb1⟩
       obtain ⟨hc, hf⟩ := bcell hb1
       have hz : w.heap.size < w1.heap.size := by have := hb1.size; simp at this; omega
       have HB1 := Lib.hid hb1
       clear hb1)
    | (with_reducible refine (HH.out _).mono ?_
       rintro _ w2 ⟨rfl, hb2⟩
       obtain ⟨hc2, hf2⟩ := bcell hb2
       have HB2 := Lib.hid hb2
       clear hb2))
  all_goals
    go_ret
    refine ⟨ret_bool (by rw [H.out]; simp [*] <;> omega), ?_⟩
    first | exact bst (bst HO.out HB1.out) HB2.out | exact bst HO.out HB1.out | exact HO.out
end Go.Proofs.Ytcjekbncllccbaa
