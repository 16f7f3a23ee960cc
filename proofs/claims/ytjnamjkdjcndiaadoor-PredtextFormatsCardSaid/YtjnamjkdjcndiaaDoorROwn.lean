/-
  The contracts of ref21.word and ref21.own.
-/
import Derived.Test.YtjnamjkdjcndiaaDoorRPChk
import Derived.Test.YtjnamjkdjcndiaaDoorVFmt5
import Derived.Test.YtjnamjkdjcndiaaDoorFmtLen
namespace Go.Proofs.YtjnamjkdjcndiaaDoor
open Go.RowKit Go.Sort

def RetT (w : World) (L : List UInt8) (e : Ending) (w' : World) : Prop := ∃ S : ByteArray, e = .returned (.string S) ∧ S.data.toList = L ∧ Below w.heap.size w w'
theorem RetT.mk_ {w w' : World} {L : List UInt8} {S : ByteArray} (h : S.data.toList = L) (hb : Below w.heap.size w w') : RetT w L (.returned (.string S)) w' := ⟨S, rfl, h, hb⟩
theorem size_of {S : ByteArray} {L : List UInt8} (h : S.data.toList = L) : S.size = L.length := by rw [← h, sizeD]
theorem vtxts_snoc (c : Col) (a : List Vl) (e : Vl) : vtxts c (a ++ [e]) = vtxts c a ++ (32 :: vtxt c e) := by simp [vtxts]
theorem one_vl {w : World} {g : Nat} {nu : Bool} {n : Int} {s : ByteArray} (h : Blk w g 33 #[.bool nu, .int .i64 n, .string s]) : Sl w 3 (.slice (some ⟨g, 0, none⟩) 1 1) 1 (vls [⟨nu, n, s⟩]) :=
  ⟨_, 1, rfl, Nat.le_refl _, by decide, rfl, fun _ => ⟨_, rfl, h.lt, fun j u hj => by
    rw [Addr.add_lit, h.cell (0 + j), Nat.zero_add]; rw [← Array.getElem?_toList]; exact hj⟩⟩
/-- A valid value whose number fits. -/
structure VlOk (c : Col) (x : Vl) : Prop where
  chk : checkV c.ty true x.nu x.n x.s = 0
  lo : -9223372036854775808 ≤ x.n
  hi : x.n ≤ 9223372036854775807
  sz : x.s.size ≤ 9223372036854775807
theorem vtxt_len {c : Col} {x : Vl} (h : VlOk c x) : (vtxt c x).length ≤ 200 := fmtV_len _ _ _ _ _ _ ⟨h.lo, h.hi⟩
theorem vtxts_len {c : Col} : ∀ {l : List Vl}, (∀ x ∈ l, VlOk c x) → (vtxts c l).length ≤ 201 * l.length
  | [], _ => by simp [vtxts]
  | x :: r, h => by
    have ih := vtxts_len (l := r) fun y hy => h y (by simp [hy])
    have h1 := vtxt_len (h x (by simp))
    have e : vtxts c (x :: r) = (32 :: vtxt c x) ++ vtxts c r := by simp [vtxts]
    rw [e, List.length_append, List.length_cons, List.length_cons]; omega
theorem vtxts_take {c : Col} {l : List Vl} (h : ∀ x ∈ l, VlOk c x) (hl : l.length ≤ 16) (k : Nat) : (vtxts c (l.take k)).length ≤ 3216 := by
  have := vtxts_len (c := c) (l := l.take k) fun x hx => h x (List.mem_of_mem_take hx)
  rw [List.length_take] at this
  omega
set_option maxRecDepth 100000 in
set_option maxHeartbeats 8000000 in
theorem rword_any (op : Int) (h1 : 1 ≤ op) (h2 : op ≤ 11) (w : World) : Calls Tryd.prog 23 #[.int .i64 op] w fun e w' => e = .returned (.string ⟨(wordP op).toArray⟩) ∧ w = w' := by
  have i0 : ∀ w : World, (Instr.index 75 (.agg #[.string { data := #[101, 113] }, .string { data := #[110, 101] }, .string { data := #[108, 116] }, .string { data := #[108, 101] }, .string { data := #[103, 116] }, .string { data := #[103, 101] }, .string { data := #[105, 110] }, .string { data := #[110, 117, 108, 108] }, .string { data := #[97, 110, 100] }, .string { data := #[111, 114] }, .string { data := #[110, 111, 116] }]) (.int .i64 0)).run Tryd.prog w = .ok (.string { data := #[101, 113] }) w := fun _ => by kernel_rfl
  have i1 : ∀ w : World, (Instr.index 75 (.agg #[.string { data := #[101, 113] }, .string { data := #[110, 101] }, .string { data := #[108, 116] }, .string { data := #[108, 101] }, .string { data := #[103, 116] }, .string { data := #[103, 101] }, .string { data := #[105, 110] }, .string { data := #[110, 117, 108, 108] }, .string { data := #[97, 110, 100] }, .string { data := #[111, 114] }, .string { data := #[110, 111, 116] }]) (.int .i64 1)).run Tryd.prog w = .ok (.string { data := #[110, 101] }) w := fun _ => by kernel_rfl
  have i2 : ∀ w : World, (Instr.index 75 (.agg #[.string { data := #[101, 113] }, .string { data := #[110, 101] }, .string { data := #[108, 116] }, .string { data := #[108, 101] }, .string { data := #[103, 116] }, .string { data := #[103, 101] }, .string { data := #[105, 110] }, .string { data := #[110, 117, 108, 108] }, .string { data := #[97, 110, 100] }, .string { data := #[111, 114] }, .string { data := #[110, 111, 116] }]) (.int .i64 2)).run Tryd.prog w = .ok (.string { data := #[108, 116] }) w := fun _ => by kernel_rfl
  have i3 : ∀ w : World, (Instr.index 75 (.agg #[.string { data := #[101, 113] }, .string { data := #[110, 101] }, .string { data := #[108, 116] }, .string { data := #[108, 101] }, .string { data := #[103, 116] }, .string { data := #[103, 101] }, .string { data := #[105, 110] }, .string { data := #[110, 117, 108, 108] }, .string { data := #[97, 110, 100] }, .string { data := #[111, 114] }, .string { data := #[110, 111, 116] }]) (.int .i64 3)).run Tryd.prog w = .ok (.string { data := #[108, 101] }) w := fun _ => by kernel_rfl
  have i4 : ∀ w : World, (Instr.index 75 (.agg #[.string { data := #[101, 113] }, .string { data := #[110, 101] }, .string { data := #[108, 116] }, .string { data := #[108, 101] }, .string { data := #[103, 116] }, .string { data := #[103, 101] }, .string { data := #[105, 110] }, .string { data := #[110, 117, 108, 108] }, .string { data := #[97, 110, 100] }, .string { data := #[111, 114] }, .string { data := #[110, 111, 116] }]) (.int .i64 4)).run Tryd.prog w = .ok (.string { data := #[103, 116] }) w := fun _ => by kernel_rfl
  have i5 : ∀ w : World, (Instr.index 75 (.agg #[.string { data := #[101, 113] }, .string { data := #[110, 101] }, .string { data := #[108, 116] }, .string { data := #[108, 101] }, .string { data := #[103, 116] }, .string { data := #[103, 101] }, .string { data := #[105, 110] }, .string { data := #[110, 117, 108, 108] }, .string { data := #[97, 110, 100] }, .string { data := #[111, 114] }, .string { data := #[110, 111, 116] }]) (.int .i64 5)).run Tryd.prog w = .ok (.string { data := #[103, 101] }) w := fun _ => by kernel_rfl
  have i6 : ∀ w : World, (Instr.index 75 (.agg #[.string { data := #[101, 113] }, .string { data := #[110, 101] }, .string { data := #[108, 116] }, .string { data := #[108, 101] }, .string { data := #[103, 116] }, .string { data := #[103, 101] }, .string { data := #[105, 110] }, .string { data := #[110, 117, 108, 108] }, .string { data := #[97, 110, 100] }, .string { data := #[111, 114] }, .string { data := #[110, 111, 116] }]) (.int .i64 6)).run Tryd.prog w = .ok (.string { data := #[105, 110] }) w := fun _ => by kernel_rfl
  have i7 : ∀ w : World, (Instr.index 75 (.agg #[.string { data := #[101, 113] }, .string { data := #[110, 101] }, .string { data := #[108, 116] }, .string { data := #[108, 101] }, .string { data := #[103, 116] }, .string { data := #[103, 101] }, .string { data := #[105, 110] }, .string { data := #[110, 117, 108, 108] }, .string { data := #[97, 110, 100] }, .string { data := #[111, 114] }, .string { data := #[110, 111, 116] }]) (.int .i64 7)).run Tryd.prog w = .ok (.string { data := #[110, 117, 108, 108] }) w := fun _ => by kernel_rfl
  have i8 : ∀ w : World, (Instr.index 75 (.agg #[.string { data := #[101, 113] }, .string { data := #[110, 101] }, .string { data := #[108, 116] }, .string { data := #[108, 101] }, .string { data := #[103, 116] }, .string { data := #[103, 101] }, .string { data := #[105, 110] }, .string { data := #[110, 117, 108, 108] }, .string { data := #[97, 110, 100] }, .string { data := #[111, 114] }, .string { data := #[110, 111, 116] }]) (.int .i64 8)).run Tryd.prog w = .ok (.string { data := #[97, 110, 100] }) w := fun _ => by kernel_rfl
  have i9 : ∀ w : World, (Instr.index 75 (.agg #[.string { data := #[101, 113] }, .string { data := #[110, 101] }, .string { data := #[108, 116] }, .string { data := #[108, 101] }, .string { data := #[103, 116] }, .string { data := #[103, 101] }, .string { data := #[105, 110] }, .string { data := #[110, 117, 108, 108] }, .string { data := #[97, 110, 100] }, .string { data := #[111, 114] }, .string { data := #[110, 111, 116] }]) (.int .i64 9)).run Tryd.prog w = .ok (.string { data := #[111, 114] }) w := fun _ => by kernel_rfl
  have i10 : ∀ w : World, (Instr.index 75 (.agg #[.string { data := #[101, 113] }, .string { data := #[110, 101] }, .string { data := #[108, 116] }, .string { data := #[108, 101] }, .string { data := #[103, 116] }, .string { data := #[103, 101] }, .string { data := #[105, 110] }, .string { data := #[110, 117, 108, 108] }, .string { data := #[97, 110, 100] }, .string { data := #[111, 114] }, .string { data := #[110, 111, 116] }]) (.int .i64 10)).run Tryd.prog w = .ok (.string { data := #[110, 111, 116] }) w := fun _ => by kernel_rfl
  obtain rfl | rfl | rfl | rfl | rfl | rfl | rfl | rfl | rfl | rfl | rfl : op = 1 ∨ op = 2 ∨ op = 3 ∨ op = 4 ∨ op = 5 ∨ op = 6 ∨ op = 7 ∨ op = 8 ∨ op = 9 ∨ op = 10 ∨ op = 11 := by omega
  all_goals
    go_enter Tryd.func23, Tryd.ntmps23
    go_wp2
    go_ret
    exact ⟨rfl, rfl⟩
set_option maxRecDepth 100000 in
set_option maxHeartbeats 8000000 in
theorem rown_any (v : Value) (key : Int) (cs : List Col) (op : Int) (K : Nat) (vn : Bool) (vi : Int) (vs : ByteArray) (l : List Vl) (u : Value) (a b : Int) (c : Col) (w : World) (ht : Tab w) (hs : Sl w 4 v cs.length (cols cs)) (hu : Sl w 3 u l.length (vls l)) (hcl : cs.length ≤ 1000000) (hc : cs[K]? = some c) (hnm : c.nm.size ≤ 1000) (h1 : 1 ≤ op) (h8 : op ≤ 8)
    (hv : ∀ x ∈ valsP ⟨op, K, ⟨vn, vi, vs⟩, l, a, b⟩, VlOk c x) (hvl : (valsP ⟨op, K, ⟨vn, vi, vs⟩, l, a, b⟩).length ≤ 16) :
    Calls Tryd.prog 24 #[.agg #[v, .int .i64 key], .agg #[.int .i64 op, .int .i64 (K : Int), .bool vn, .int .i64 vi, .string vs, u, .int .i64 a, .int .i64 b]] w (RetT w (leafC c ⟨op, K, ⟨vn, vi, vs⟩, l, a, b⟩)) := by
  obtain ⟨A, cA, rfl, hc1, hc2⟩ := hs.form
  obtain ⟨AL, cL, rfl, hc3, hc4⟩ := hu.form
  obtain ⟨x, hx⟩ : ∃ x : Nd, x = ⟨op, K, ⟨vn, vi, vs⟩, l, a, b⟩ := ⟨_, rfl⟩
  have xop : x.op = op := by rw [hx]
  have xv : x.v = ⟨vn, vi, vs⟩ := by rw [hx]
  have xl : x.l = l := by rw [hx]
  rw [← hx] at hv hvl ⊢
  have HV := Lib.hid hv
  have HVL := Lib.hid hvl
  have HP := Lib.hid (show valsP x = if op < 7 then [⟨vn, vi, vs⟩] else if op = 8 then [] else l by unfold valsP; rw [xop, xv, xl])
  have HLC := Lib.hid (show leafC c x = 40 :: (wordP op ++ (32 :: c.nm.data.toList) ++ vtxts c (valsP x) ++ [41]) by unfold leafC; rw [xop])
  clear hx xop xv xl hv hvl
  obtain ⟨B0, hB0⟩ : ∃ B : ByteArray, B = ⟨(wordP op).toArray⟩ := ⟨_, rfl⟩
  have HW := Lib.hid (show B0.data.toList = wordP op by rw [hB0])
  have hws : B0.size ≤ 4 := by rw [size_of HW.out]; exact wordP_len op
  obtain ⟨W, hW⟩ : ∃ W, W = (w.alloc (.cells #[.slice A cs.length cA, .int .i64 key] 24)).alloc (.cells #[.int .i64 op, .int .i64 (K : Int), .bool vn, .int .i64 vi, .string vs, .slice AL l.length cL, .int .i64 a, .int .i64 b] 36) := ⟨_, rfl⟩
  have hb0 : Below w.heap.size w W := by rw [hW]; exact abelS _ _ _
  have BS := Lib.hid (show Blk W w.heap.size 24 #[.slice A cs.length cA, .int .i64 key] by rw [hW]; exact (Blk.new _ _ _).alloc _)
  have BN := Lib.hid (show Blk W (w.heap.size + 1) 36 #[.int .i64 op, .int .i64 (K : Int), .bool vn, .int .i64 vi, .string vs, .slice AL l.length cL, .int .i64 a, .int .i64 b] by rw [hW]; have h := Blk.new (w.alloc (.cells #[.slice A cs.length cA, .int .i64 key] 24)) 36 #[.int .i64 op, .int .i64 (K : Int), .bool vn, .int .i64 vi, .string vs, .slice AL l.length cL, .int .i64 a, .int .i64 b]; simpa using h)
  have hK : K < cs.length := (List.getElem?_eq_some_iff.1 hc).1
  obtain ⟨ad, c', pc, rfl, hc', hpc, hE⟩ := (hs.below hb0).col_load rfl hK
  rw [hc] at hc'
  injection hc' with hc'
  subst hc'
  obtain ⟨hplt, k0, k1, k2, k3⟩ := hE
  have qK : decide (K < cs.length) = true := decide_eq_true hK
  obtain ⟨M, hM⟩ : ∃ M, W.heap.size = M := ⟨_, rfl⟩
  obtain ⟨W2, hW2⟩ : ∃ W2, W2 = W.alloc (.cells #[.string c.nm, .int .i64 c.ty, .int .i64 c.sc, .bool c.nu] 47) := ⟨_, rfl⟩
  have hbW : Below W.heap.size W W2 := by rw [hW2]; exact (Below.refl _ _).alloc (Nat.le_refl _) _
  have hb2 : Below w.heap.size w W2 := by rw [hW2]; exact hb0.alloc hb0.size _
  have BC := Lib.hid (show Blk W2 M 47 #[.string c.nm, .int .i64 c.ty, .int .i64 c.sc, .bool c.nu] by rw [hW2, ← hM]; exact Blk.new _ _ _)
  have BN2 := Lib.hid (BN.out.below hbW BN.out.lt)
  have HU2 := Lib.hid (hu.below hb2)
  have HB2 := Lib.hid hb2
  have HT := Lib.hid (fun X (hX : Below W2.heap.size W2 X) => (ht.below hb2).below hX)
  have AA0 := Lib.hid (reg_n (w := W2) (fun X _ => (rword_any op h1 (by omega) X).mono fun e w' h => show e = .returned (.string B0) ∧ Below X.heap.size X w' by rw [hB0]; exact ⟨h.1, h.2 ▸ Below.refl _ _⟩))
  clear hs hu hb0 hbW hb2 hc ht hB0
  go_enter Tryd.func24, Tryd.ntmps24
  go_upto_region 1 with (fail)
  rw [← hW]
  clear hW
  have bb := BS.out
  have s0 := bb.cell 0
  have s1 := bb.cell 1
  simp only [List.getElem?_toArray, List.getElem?_cons_zero, List.getElem?_cons_succ] at s0 s1
  clear bb
  have bb := BN.out
  have n0 := bb.cell 0
  have n1 := bb.cell 1
  have n2 := bb.cell 2
  have n3 := bb.cell 3
  have n4 := bb.cell 4
  have n5 := bb.cell 5
  have n6 := bb.cell 6
  have n7 := bb.cell 7
  simp only [List.getElem?_toArray, List.getElem?_cons_zero, List.getElem?_cons_succ] at n0 n1 n2 n3 n4 n5 n6 n7
  clear bb
  have f0 := fun d os => (BC.out.below (below_regrown W2 d os) BC.out.lt).cell 0
  have f1 := fun d os => (BC.out.below (below_regrown W2 d os) BC.out.lt).cell 1
  have f2 := fun d os => (BC.out.below (below_regrown W2 d os) BC.out.lt).cell 2
  have f3 := fun d os => (BC.out.below (below_regrown W2 d os) BC.out.lt).cell 3
  have g0 := fun d os => (BN2.out.below (below_regrown W2 d os) BN2.out.lt).cell 0
  have g1 := fun d os => (BN2.out.below (below_regrown W2 d os) BN2.out.lt).cell 1
  have g2 := fun d os => (BN2.out.below (below_regrown W2 d os) BN2.out.lt).cell 2
  have g3 := fun d os => (BN2.out.below (below_regrown W2 d os) BN2.out.lt).cell 3
  have g4 := fun d os => (BN2.out.below (below_regrown W2 d os) BN2.out.lt).cell 4
  have g5 := fun d os => (BN2.out.below (below_regrown W2 d os) BN2.out.lt).cell 5
  have g6 := fun d os => (BN2.out.below (below_regrown W2 d os) BN2.out.lt).cell 6
  have g7 := fun d os => (BN2.out.below (below_regrown W2 d os) BN2.out.lt).cell 7
  simp only [List.getElem?_toArray, List.getElem?_cons_zero, List.getElem?_cons_succ] at f0 f1 f2 f3 g0 g1 g2 g3 g4 g5 g6 g7
  go_upto_region 2 with (fail)
  rw [← hW2]
  try simp only [hM]
  clear hW2 hM k0 k1 k2 k3 hpc hplt
  clear s0 s1
  clear n0 n1 n2 n3 n4 n5 n6 n7
  refine wp_region_quiet_below (by kernel_rfl) (by kernel_rfl) ?_
  repeat (go_big_quiet_step ((first | (with_reducible exact AA0.out _ _))))
  refine wpQuiet_nil ?_
  intro _ hw'
  obtain ⟨⟨dq, osq⟩, hw''⟩ := hw'
  subst hw''
  have XBW := Lib.hid (below_regrown W2 dq osq)
  obtain ⟨X, hX⟩ : ∃ X, grow (redrawn W2 dq) osq = X := ⟨_, rfl⟩
  simp only [hX] at XBW
  have XN := Lib.hid (BN2.out.below XBW.out BN2.out.lt)
  have XC := Lib.hid (BC.out.below XBW.out BC.out.lt)
  have XU := Lib.hid (HU2.out.below XBW.out)
  have XB := Lib.hid (bst HB2.out XBW.out)
  have XT := Lib.hid (fun Z (hZ : Below X.heap.size X Z) => HT.out Z (bst XBW.out hZ))
  clear f0 f1 f2 f3
  clear g0 g1 g2 g3 g4 g5 g6 g7
  clear AA0
  obtain ⟨S0, hS0⟩ : ∃ q : ByteArray, { data := #[40] } ++ B0 ++ { data := #[32] } ++ c.nm = q := ⟨_, rfl⟩
  have HS0 := Lib.hid (show S0.data.toList = 40 :: (wordP op ++ (32 :: c.nm.data.toList)) by rw [← hS0]; simp [ByteArray.data_append, HW.out])
  have hs0 : S0.size ≤ 1010 := by rw [size_of HS0.out]; simp only [List.length_cons, List.length_append]; have := wordP_len op; have := sizeD c.nm; omega
  rw [hS0]
  clear hS0
  by_cases h6 : op ≤ 6
  · have q6 : decide (op ≤ 6) = true := decide_eq_true h6
    have q8 : (op == 8) = false := by rw [beq_eq_false_iff_ne]; omega
    have p1 : decide (1 ≤ op) = true := decide_eq_true h1
    have HPV := Lib.hid (show valsP x = [⟨vn, vi, vs⟩] by rw [HP.out, if_pos (by omega)])
    clear h6
    have bb := XN.out
    have n0 := bb.cell 0
    have n1 := bb.cell 1
    have n2 := bb.cell 2
    have n3 := bb.cell 3
    have n4 := bb.cell 4
    have n5 := bb.cell 5
    have n6 := bb.cell 6
    have n7 := bb.cell 7
    simp only [List.getElem?_toArray, List.getElem?_cons_zero, List.getElem?_cons_succ] at n0 n1 n2 n3 n4 n5 n6 n7
    clear bb
    go_wp2_with fail
    refine (rcomp_any op _ p1 q6).mono ?_
    rintro _ _ ⟨rfl, rfl⟩
    obtain ⟨L0, hL0⟩ : ∃ N, X.heap.size = N := ⟨_, rfl⟩
    obtain ⟨Y, hY⟩ : ∃ Y, Y = X.alloc (.cells #[.bool vn, .int .i64 vi, .string vs] 33) := ⟨_, rfl⟩
    have hXY : Below X.heap.size X Y := by rw [hY]; exact (Below.refl _ _).alloc (Nat.le_refl _) _
    have YL := Blk.new X 33 #[.bool vn, .int .i64 vi, .string vs]
    rw [← hY, hL0] at YL
    have YU := Lib.hid (show Sl Y 3 (.slice (some ⟨L0, 0, none⟩) 1 1) 1 (vls [⟨vn, vi, vs⟩]) from one_vl YL)
    have YN := Lib.hid (XN.out.below hXY XN.out.lt)
    have YC := Lib.hid (XC.out.below hXY XC.out.lt)
    have YB := Lib.hid (bst XB.out hXY)
    have YT := Lib.hid (fun Z (hZ : Below Y.heap.size Y Z) => XT.out Z (bst hXY hZ))
    clear hXY YL XT XB XC XU XN
    go_upto_region 6 with (fail)
    rw [← hY]
    try simp only [hL0]
    clear hY hL0
    clear n0 n1 n2 n3 n4 n5 n6 n7
    have bb := YN.out
    have n0 := bb.cell 0
    have n1 := bb.cell 1
    have n2 := bb.cell 2
    have n3 := bb.cell 3
    have n4 := bb.cell 4
    have n5 := bb.cell 5
    have n6 := bb.cell 6
    have n7 := bb.cell 7
    simp only [List.getElem?_toArray, List.getElem?_cons_zero, List.getElem?_cons_succ] at n0 n1 n2 n3 n4 n5 n6 n7
    clear bb
    go_upto_region 8 with (fail)
    clear n0 n1 n2 n3 n4 n5 n6 n7
    rw [HPV.out] at HV HVL HLC
    clear HPV HP
    go_wp2
    go_loopw [6, 39] (fun o i wr => ∃ (k : Nat) (S : ByteArray), k ≤ 1 ∧ i = .int .i64 (k : Int) ∧ o = .string S ∧ Below Y.heap.size Y wr ∧ Hid (S.data.toList = S0.data.toList ++ vtxts c ([⟨vn, vi, vs⟩].take k))) (fun _ i _ => 1 - (intOf i).toNat)
    case atStart => exact ⟨0, S0, by omega, rfl, rfl, Below.refl _ _, Lib.hid (by simp [vtxts])⟩
    case round =>
      obtain ⟨k, S, hk, rfl, rfl, hbel, hS⟩ := hrel
      have hSs : S.size ≤ 4300 := by
        rw [size_of hS.out, List.length_append]
        have := vtxts_take (c := c) HV.out HVL.out k
        have := sizeD S0
        omega
      by_cases hlt : k < 1
      · obtain ⟨ad2, e, pe, e0, he, hpe, hE⟩ := (YU.out.below hbel).vl_load rfl hlt
        cases e0; rw [Addr.add_lit, Nat.zero_add] at hpe; subst hpe
        obtain ⟨hplt, c0, c1, c2⟩ := hE
        have HLT := Lib.hid hlt
        have qm : decide (k < 1) = true := decide_eq_true hlt
        have HOK := HV.out e (List.mem_of_getElem? he)
        have HN := Lib.hid (show vtxts c ([⟨vn, vi, vs⟩].take (k + 1)) = vtxts c ([⟨vn, vi, vs⟩].take k) ++ (32 :: vtxt c e) by rw [List.take_add_one, he]; exact vtxts_snoc _ _ _)
        obtain ⟨F, hF⟩ : ∃ F, fmtV c.ty c.sc true e.nu e.n e.s = F := ⟨_, rfl⟩
        obtain ⟨B, hB⟩ : ∃ B : ByteArray, (⟨F.1.toArray⟩ : ByteArray) = B := ⟨_, rfl⟩
        have HB := Lib.hid (show B.data.toList = vtxt c e by rw [← hB]; unfold vtxt; rw [hF])
        have hBs : B.size ≤ 200 := by rw [size_of HB.out]; exact vtxt_len HOK
        obtain ⟨N5, hN5⟩ : ∃ N, wr.heap.size = N := ⟨_, rfl⟩
        obtain ⟨V, hV⟩ : ∃ V, V = wr.alloc (.cells #[.bool e.nu, .int .i64 e.n, .string e.s] 33) := ⟨_, rfl⟩
        have VB := Lib.hid (show Below Y.heap.size Y V by rw [hV]; exact hbel.alloc hbel.size _)
        have VE := Lib.hid (show Blk V N5 33 #[.bool e.nu, .int .i64 e.n, .string e.s] by rw [hV, ← hN5]; exact Blk.new _ _ _)
        have VC := Lib.hid (YC.out.below VB.out YC.out.lt)
        have A1 := Lib.hid (reg_n (w := V) (fun Z _ => rnull_any c Z))
        have A2 := Lib.hid (reg_n (w := V) (fun Z hZ => show Calls Tryd.prog 35 #[.agg #[.string c.nm, .int .i64 c.ty, .int .i64 c.sc, .bool true], .agg #[.bool e.nu, .int .i64 e.n, .string e.s]] Z (fun d w' => d = .returned (.tuple #[.string B, .int .i64 F.2]) ∧ Below Z.heap.size Z w') by
          have h := rvfmt_any c.nm c.ty c.sc true e.nu e.n e.s Z (YT.out Z (bst VB.out hZ)) ⟨HOK.lo, HOK.hi⟩ HOK.sz
          rw [hF] at h
          unfold RetDec at h
          rw [hB] at h
          exact h))
        obtain ⟨r, hr⟩ : ∃ r, F.2 = r := ⟨_, rfl⟩
        rw [hr] at A2
        clear he hbel hF hB hr HOK
        have f0 := fun d os => (VC.out.below (below_regrown V d os) VC.out.lt).cell 0
        have f1 := fun d os => (VC.out.below (below_regrown V d os) VC.out.lt).cell 1
        have f2 := fun d os => (VC.out.below (below_regrown V d os) VC.out.lt).cell 2
        have f3 := fun d os => (VC.out.below (below_regrown V d os) VC.out.lt).cell 3
        have g0 := fun d os => (VE.out.below (below_regrown V d os) VE.out.lt).cell 0
        have g1 := fun d os => (VE.out.below (below_regrown V d os) VE.out.lt).cell 1
        have g2 := fun d os => (VE.out.below (below_regrown V d os) VE.out.lt).cell 2
        simp only [List.getElem?_toArray, List.getElem?_cons_zero, List.getElem?_cons_succ] at f0 f1 f2 f3 g0 g1 g2
    
        go_upto_region 11 with (fail)
        rw [← hV]
        try simp only [hN5]
        clear hV hN5 c0 c1 c2 hplt
        try clear hpe
        refine wp_region_quiet_below (by kernel_rfl) (by kernel_rfl) ?_
        repeat (go_big_quiet_step ((first | (with_reducible exact A1.out _ _) | (with_reducible exact A2.out _ _))))
        refine wpQuiet_nil ?_
        intro _ hw'
        obtain ⟨⟨dq, osq⟩, hw''⟩ := hw'
        subst hw''
        have ZB := Lib.hid (bst VB.out (below_regrown V dq osq))
        obtain ⟨Z, hZ⟩ : ∃ Z, grow (redrawn V dq) osq = Z := ⟨_, rfl⟩
        simp only [hZ] at ZB
        clear f0 f1 f2 f3 g0 g1 g2 A1 A2
        go_wp2
        try simp only [hZ]
        go_roundw
        case rel => exact ⟨k + 1, _, HLT.out, by go_num, rfl, ZB.out, Lib.hid (by rw [HN.out]; simp [ByteArray.data_append, HB.out, hS.out])⟩
        case measure => have := HLT.out; simp [intOf]; omega
      · have qm : decide (k < 1) = false := decide_eq_false hlt
        have HE := Lib.hid (show S.data.toList = S0.data.toList ++ vtxts c [⟨vn, vi, vs⟩] by rw [hS.out, List.take_of_length_le (by first | (simp; done) | (simp; omega))])
        have HX := Lib.hid (bst YB.out hbel)
        clear hbel
        go_wp2
        go_ret
        exact RetT.mk_ (by rw [HLC.out]; simp [ByteArray.data_append, HE.out, HS0.out]) HX.out
  · have q6 : decide (op ≤ 6) = false := decide_eq_false h6
    have p1 : decide (1 ≤ op) = true := decide_eq_true h1
    have YC := XC
    have YB := XB
    have YT := XT
    by_cases e8 : op = 8
    · subst e8
      have HPV := Lib.hid (show valsP x = [] by rw [HP.out, if_neg (by omega), if_pos rfl])
      clear h6
      have bb := XN.out
      have n0 := bb.cell 0
      have n1 := bb.cell 1
      have n2 := bb.cell 2
      have n3 := bb.cell 3
      have n4 := bb.cell 4
      have n5 := bb.cell 5
      have n6 := bb.cell 6
      have n7 := bb.cell 7
      simp only [List.getElem?_toArray, List.getElem?_cons_zero, List.getElem?_cons_succ] at n0 n1 n2 n3 n4 n5 n6 n7
      clear bb
      go_wp2_with fail
      refine (rcomp_any 8 _ p1 q6).mono ?_
      rintro _ _ ⟨rfl, rfl⟩
      go_upto_region 8 with (fail)
      clear n0 n1 n2 n3 n4 n5 n6 n7
      have YU := Lib.hid (show Sl X 3 (.slice none 0 0) 0 (vls []) from Sl.nil X 3)
      rw [HPV.out] at HV HVL HLC
      clear HPV HP
      go_wp2
      go_loopw [6, 39] (fun o i wr => ∃ (k : Nat) (S : ByteArray), k ≤ 0 ∧ i = .int .i64 (k : Int) ∧ o = .string S ∧ Below X.heap.size X wr ∧ Hid (S.data.toList = S0.data.toList ++ vtxts c (([] : List Vl).take k))) (fun _ i _ => 0 - (intOf i).toNat)
      case atStart => exact ⟨0, S0, by omega, rfl, rfl, Below.refl _ _, Lib.hid (by simp [vtxts])⟩
      case round =>
        obtain ⟨k, S, hk, rfl, rfl, hbel, hS⟩ := hrel
        have hSs : S.size ≤ 4300 := by
          rw [size_of hS.out, List.length_append]
          have := vtxts_take (c := c) HV.out HVL.out k
          have := sizeD S0
          omega
        by_cases hlt : k < 0
        · exact absurd hlt (Nat.not_lt_zero _)
        · have qm : decide (k < 0) = false := decide_eq_false hlt
          have HE := Lib.hid (show S.data.toList = S0.data.toList ++ vtxts c ([] : List Vl) by rw [hS.out, List.take_of_length_le (by first | (simp; done) | (simp; omega))])
          have HX := Lib.hid (bst YB.out hbel)
          clear hbel
          go_wp2
          go_ret
          exact RetT.mk_ (by rw [HLC.out]; simp [ByteArray.data_append, HE.out, HS0.out]) HX.out
    · have e7 : op = 7 := by omega
      subst e7
      have HPV := Lib.hid (show valsP x = l by rw [HP.out, if_neg (by omega), if_neg (by omega)])
      clear h6 e8
      have bb := XN.out
      have n0 := bb.cell 0
      have n1 := bb.cell 1
      have n2 := bb.cell 2
      have n3 := bb.cell 3
      have n4 := bb.cell 4
      have n5 := bb.cell 5
      have n6 := bb.cell 6
      have n7 := bb.cell 7
      simp only [List.getElem?_toArray, List.getElem?_cons_zero, List.getElem?_cons_succ] at n0 n1 n2 n3 n4 n5 n6 n7
      clear bb
      go_wp2_with fail
      refine (rcomp_any 7 _ p1 q6).mono ?_
      rintro _ _ ⟨rfl, rfl⟩
      go_upto_region 8 with (fail)
      clear n0 n1 n2 n3 n4 n5 n6 n7
      have YU := XU
      have hl16 : l.length ≤ 16 := by have := HVL.out; rw [HPV.out] at this; exact this
      rw [HPV.out] at HV HVL HLC
      clear HPV HP
      go_wp2
      go_loopw [6, 39] (fun o i wr => ∃ (k : Nat) (S : ByteArray), k ≤ l.length ∧ i = .int .i64 (k : Int) ∧ o = .string S ∧ Below X.heap.size X wr ∧ Hid (S.data.toList = S0.data.toList ++ vtxts c (l.take k))) (fun _ i _ => l.length - (intOf i).toNat)
      case atStart => exact ⟨0, S0, by omega, rfl, rfl, Below.refl _ _, Lib.hid (by simp [vtxts])⟩
      case round =>
        obtain ⟨k, S, hk, rfl, rfl, hbel, hS⟩ := hrel
        have hSs : S.size ≤ 4300 := by
          rw [size_of hS.out, List.length_append]
          have := vtxts_take (c := c) HV.out HVL.out k
          have := sizeD S0
          omega
        by_cases hlt : k < l.length
        · obtain ⟨ad2, e, pe, e0, he, hpe, hE⟩ := (YU.out.below hbel).vl_load rfl hlt
          subst e0
          obtain ⟨hplt, c0, c1, c2⟩ := hE
          have HLT := Lib.hid hlt
          have qm : decide (k < l.length) = true := decide_eq_true hlt
          have HOK := HV.out e (List.mem_of_getElem? he)
          have HN := Lib.hid (show vtxts c (l.take (k + 1)) = vtxts c (l.take k) ++ (32 :: vtxt c e) by rw [List.take_add_one, he]; exact vtxts_snoc _ _ _)
          obtain ⟨F, hF⟩ : ∃ F, fmtV c.ty c.sc true e.nu e.n e.s = F := ⟨_, rfl⟩
          obtain ⟨B, hB⟩ : ∃ B : ByteArray, (⟨F.1.toArray⟩ : ByteArray) = B := ⟨_, rfl⟩
          have HB := Lib.hid (show B.data.toList = vtxt c e by rw [← hB]; unfold vtxt; rw [hF])
          have hBs : B.size ≤ 200 := by rw [size_of HB.out]; exact vtxt_len HOK
          obtain ⟨N5, hN5⟩ : ∃ N, wr.heap.size = N := ⟨_, rfl⟩
          obtain ⟨V, hV⟩ : ∃ V, V = wr.alloc (.cells #[.bool e.nu, .int .i64 e.n, .string e.s] 33) := ⟨_, rfl⟩
          have VB := Lib.hid (show Below X.heap.size X V by rw [hV]; exact hbel.alloc hbel.size _)
          have VE := Lib.hid (show Blk V N5 33 #[.bool e.nu, .int .i64 e.n, .string e.s] by rw [hV, ← hN5]; exact Blk.new _ _ _)
          have VC := Lib.hid (YC.out.below VB.out YC.out.lt)
          have A1 := Lib.hid (reg_n (w := V) (fun Z _ => rnull_any c Z))
          have A2 := Lib.hid (reg_n (w := V) (fun Z hZ => show Calls Tryd.prog 35 #[.agg #[.string c.nm, .int .i64 c.ty, .int .i64 c.sc, .bool true], .agg #[.bool e.nu, .int .i64 e.n, .string e.s]] Z (fun d w' => d = .returned (.tuple #[.string B, .int .i64 F.2]) ∧ Below Z.heap.size Z w') by
            have h := rvfmt_any c.nm c.ty c.sc true e.nu e.n e.s Z (YT.out Z (bst VB.out hZ)) ⟨HOK.lo, HOK.hi⟩ HOK.sz
            rw [hF] at h
            unfold RetDec at h
            rw [hB] at h
            exact h))
          obtain ⟨r, hr⟩ : ∃ r, F.2 = r := ⟨_, rfl⟩
          rw [hr] at A2
          clear he hbel hF hB hr HOK
          have f0 := fun d os => (VC.out.below (below_regrown V d os) VC.out.lt).cell 0
          have f1 := fun d os => (VC.out.below (below_regrown V d os) VC.out.lt).cell 1
          have f2 := fun d os => (VC.out.below (below_regrown V d os) VC.out.lt).cell 2
          have f3 := fun d os => (VC.out.below (below_regrown V d os) VC.out.lt).cell 3
          have g0 := fun d os => (VE.out.below (below_regrown V d os) VE.out.lt).cell 0
          have g1 := fun d os => (VE.out.below (below_regrown V d os) VE.out.lt).cell 1
          have g2 := fun d os => (VE.out.below (below_regrown V d os) VE.out.lt).cell 2
          simp only [List.getElem?_toArray, List.getElem?_cons_zero, List.getElem?_cons_succ] at f0 f1 f2 f3 g0 g1 g2
      
          go_upto_region 11 with (fail)
          rw [← hV]
          try simp only [hN5]
          clear hV hN5 c0 c1 c2 hplt
          try clear hpe
          refine wp_region_quiet_below (by kernel_rfl) (by kernel_rfl) ?_
          repeat (go_big_quiet_step ((first | (with_reducible exact A1.out _ _) | (with_reducible exact A2.out _ _))))
          refine wpQuiet_nil ?_
          intro _ hw'
          obtain ⟨⟨dq, osq⟩, hw''⟩ := hw'
          subst hw''
          have ZB := Lib.hid (bst VB.out (below_regrown V dq osq))
          obtain ⟨Z, hZ⟩ : ∃ Z, grow (redrawn V dq) osq = Z := ⟨_, rfl⟩
          simp only [hZ] at ZB
          clear f0 f1 f2 f3 g0 g1 g2 A1 A2
          go_wp2
          try simp only [hZ]
          go_roundw
          case rel => exact ⟨k + 1, _, HLT.out, by go_num, rfl, ZB.out, Lib.hid (by rw [HN.out]; simp [ByteArray.data_append, HB.out, hS.out])⟩
          case measure => have := HLT.out; simp [intOf]; omega
        · have qm : decide (k < l.length) = false := decide_eq_false hlt
          have HE := Lib.hid (show S.data.toList = S0.data.toList ++ vtxts c l by rw [hS.out, List.take_of_length_le (by omega)])
          have HX := Lib.hid (bst YB.out hbel)
          clear hbel
          go_wp2
          go_ret
          exact RetT.mk_ (by rw [HLC.out]; simp [ByteArray.data_append, HE.out, HS0.out]) HX.out
end Go.Proofs.YtjnamjkdjcndiaaDoor
