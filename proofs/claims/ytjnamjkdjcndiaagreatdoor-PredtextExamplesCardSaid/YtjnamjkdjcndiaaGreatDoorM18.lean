/-
  Words, plain laws and contracts on which the walks lean, in one text.
-/
import Derived.Test.YtjnamjkdjcndiaaGreatDoorPar5
import Derived.Test.YtjnamjkdjcndiaaGreatDoorPLeaf
import Derived.Test.YtjnamjkdjcndiaaGreatDoorM16
namespace Go.Proofs.YtjnamjkdjcndiaaGreatDoor
open Go.RowKit Go.Sort

theorem find_succ {P : Nat → Bool} {k : Nat} (h : ∀ j, j < k → P j = false) (hk : P k = true) {n : Nat} (hn : k < n) : (List.range n).find? P = some k := by
  rw [List.find?_eq_some_iff_append]
  refine ⟨hk, List.range k, (List.range' (k + 1) (n - (k + 1))), ?_, fun a ha => by rw [h a (List.mem_range.1 ha)]; rfl⟩
  rw [List.range_eq_range', List.range_eq_range', show n = k + (1 + (n - (k + 1))) by omega, ← List.range'_append_1, ← List.range'_append_1]
  simp; omega
theorem opW_at {l : List UInt8} {k : Nat} (h : ∀ j : Nat, j < k → wordP ((j : Int) + 1) ≠ l) (hk : wordP ((k : Int) + 1) = l) (h11 : k < 11) : opW l = k + 1 := by
  unfold opW
  rw [find_succ (k := k) (fun j hj => by simpa using h j hj) (by simpa using hk) h11]
  rfl
theorem opW_none {l : List UInt8} (h : ∀ j : Nat, j < 11 → wordP ((j : Int) + 1) ≠ l) : opW l = 0 := by
  unfold opW
  have : (List.range 11).find? (fun k : Nat => wordP ((k : Int) + 1) == l) = none := by
    rw [List.find?_eq_none]
    intro k hk
    simpa using h k (List.mem_range.1 hk)
  rw [this]; rfl
theorem opW_le (l : List UInt8) : opW l ≤ 11 := by
  unfold opW
  cases h : (List.range 11).find? (fun k : Nat => wordP ((k : Int) + 1) == l) with
  | none => simp
  | some k =>
    have := List.mem_range.1 (List.mem_of_find?_eq_some h)
    show k + 1 ≤ 11
    omega
set_option maxRecDepth 100000 in
set_option maxHeartbeats 8000000 in
theorem pidx_any (q : Nat) (W : ByteArray) (w : World) (hB : Blk w q 9 #[.string { data := #[101, 113] }, .string { data := #[110, 101] }, .string { data := #[108, 116] }, .string { data := #[108, 101] }, .string { data := #[103, 116] }, .string { data := #[103, 101] }, .string { data := #[105, 110] }, .string { data := #[110, 117, 108, 108] }, .string { data := #[97, 110, 100] }, .string { data := #[111, 114] }, .string { data := #[110, 111, 116] }]) :
    Calls Tryz.prog 45 #[.slice (some ⟨q, 0, none⟩) 11 11, .string W] w fun e w' => e = .returned (.int .i64 ((opW W.data.toList : Int) - 1)) ∧ Below w.heap.size w w' := by
  have HB := Lib.hid hB
  clear hB
  go_enter Tryz.func45, Tryz.ntmps45
  go_wp2_with fail
  go_loopw [8] (fun n wr => ∃ k : Nat, k ≤ 11 ∧ n = .int .i64 (k : Int) ∧ Hid (∀ j : Nat, j < k → wordP ((j : Int) + 1) ≠ W.data.toList) ∧ Below w.heap.size w wr) (fun n _ => 11 - (intOf n).toNat)
  case atStart => exact ⟨0, by omega, rfl, Lib.hid (fun j hj => by omega), Below.refl _ _⟩
  case round =>
    obtain ⟨k, hk, rfl, hno, hbel⟩ := hrel
    have HB2 := Lib.hid (HB.out.below hbel HB.out.lt)
    have HBE := Lib.hid hbel
    clear hbel
    by_cases hlt : k < 11
    · obtain ⟨J, B, hJ, hJ11, hBJ, hBW⟩ := word_at (op := (k : Int) + 1) (by omega) (by omega)
      obtain rfl : J = k := by omega
      have cc := HB2.out.cell J
      rw [hBJ] at cc
      rw [← hJ] at hBW
      have qJ : decide (J < 11) = true := decide_eq_true hlt
      have pJ : ((J : Int) < 11) = True := eq_true (by omega)
      have wJ : IntKind.i64.wrap ((J : Int) + 1) = (J : Int) + 1 := IntWalk.i64_in _ (by omega)
      by_cases he : W.data.toList = B.data.toList
      · have q1 : (W.toList == B.toList) = true := by rw [Go.ByteArray.toList_eq, Go.ByteArray.toList_eq, he]; exact beq_self_eq_true _
        have HR := Lib.hid (opW_at hno.out (by rw [he, hBW]) hlt)
        clear he hBW hBJ hno hJ
        go_wp2
        go_ret
        rw [HR.out]
        exact ⟨by rw [show (((J + 1 : Nat) : Int) - 1) = (J : Int) by omega]; rfl, HBE.out⟩
      · have q1 : (W.toList == B.toList) = false := by rw [Go.ByteArray.toList_eq, Go.ByteArray.toList_eq]; simpa using he
        have HN := Lib.hid (show ∀ j : Nat, j < J + 1 → wordP ((j : Int) + 1) ≠ W.data.toList by
          intro j hj
          by_cases e : j = J
          · subst e; rw [hJ] at *; intro h; exact he (by rw [← h, hBW])
          · exact hno.out j (by omega))
        clear he hBW hBJ hno hJ
        go_wp2
        go_roundw
        case rel => exact ⟨J + 1, by omega, by rw [show ((J + 1 : Nat) : Int) = (J : Int) + 1 by omega], HN, HBE.out⟩
        case measure => simp [intOf]; omega
    · obtain rfl : k = 11 := by omega
      have HR := Lib.hid (opW_none hno.out)
      clear hno
      go_wp2
      go_ret
      rw [HR.out]
      exact ⟨rfl, HBE.out⟩
/-- What node leaves. -/
def RetNodeP (w : World) (g : Nat) (sv : Value) (key wh e0 : Int) (S : ByteArray) (base : Nat) (nv : Value) (r : Except (Nat × Int) (Nat × List Nd)) (e : Ending) (w' : World) : Prop :=
  Kp (fun i => i = g ∨ nv.ownBlock = some i) w w' ∧ match r with
  | .ok (j, l) => e = .returned (.bool true) ∧ j ≤ S.size ∧ 1 ≤ l.length ∧ l.length ≤ 64 ∧ ∃ nv', Blk w' g 54 #[sv, .int .i64 key, .string S, .int .i64 j, nv', .int .i64 wh, .int .i64 e0] ∧ OwnNd w' base nv' l ∧ (∀ b, nv'.ownBlock = some b → nv.ownBlock = some b ∨ w.heap.size ≤ b)
  | .error (k, er) => e = .returned (.bool false) ∧ ∃ (i n c : Nat) (A : Option Addr), n ≤ 64 ∧ Blk w' g 54 #[sv, .int .i64 key, .string S, .int .i64 i, .slice A n c, .int .i64 k, .int .i64 er]
/-- node, where the fuel is more than what is left. -/
def HNode (w0 : World) (g : Nat) (sv : Value) (key wh e0 : Int) (S : ByteArray) (cs : List Col) (base f : Nat) : Prop :=
  ∀ (i : Nat) (nv : Value) (l : List Nd) (w : World), Blk w g 54 #[sv, .int .i64 key, .string S, .int .i64 i, nv, .int .i64 wh, .int .i64 e0] → i ≤ S.size → S.size < i + f → OwnNd w base nv l → l.length ≤ 64 → Below w0.heap.size w0 w → base ≤ w.heap.size →
    Calls Tryz.prog 23 #[.pointer (some ⟨g, 0, none⟩)] w (RetNodeP w g sv key wh e0 S base nv (parN cs S.data.toList f i l))
/-- What child leaves: the node's field a (o = 6) or b (o = 7). -/
def RetChildP (w : World) (g N o : Nat) (sv : Value) (key wh e0 : Int) (S : ByteArray) (base : Nat) (Z : Array Value) (nv : Value) (r : Except (Nat × Int) (Nat × List Nd)) (e : Ending) (w' : World) : Prop :=
  Kp (fun i => i = g ∨ i = N ∨ nv.ownBlock = some i) w w' ∧ match r with
  | .ok (j, l) => e = .returned (.bool true) ∧ j ≤ S.size ∧ 1 ≤ l.length ∧ l.length ≤ 64 ∧ ∃ nv', Blk w' g 54 #[sv, .int .i64 key, .string S, .int .i64 j, nv', .int .i64 wh, .int .i64 e0] ∧ OwnNd w' base nv' l ∧ (∀ b, nv'.ownBlock = some b → nv.ownBlock = some b ∨ w.heap.size ≤ b) ∧ Blk w' N 66 (Z.setIfInBounds o (.int .i64 ((l.length : Int) - 1)))
  | .error (k, er) => e = .returned (.bool false) ∧ ∃ (i n c : Nat) (A : Option Addr), n ≤ 64 ∧ Blk w' g 54 #[sv, .int .i64 key, .string S, .int .i64 i, .slice A n c, .int .i64 k, .int .i64 er]
theorem OwnNd.turn {w w' : World} {base b : Nat} {v : Value} {l : List Nd} (h : OwnNd w base v l) (k : w.grownBy w' (some b)) (hv : v.ownBlock ≠ some b) {cs : Array Value} {t : TypeId} (hb : Blk w b t cs) (ht : 64 ≠ t) : OwnNd w' base v l := by
  obtain ⟨us, h1, h2, h3⟩ := h
  exact ⟨us, h1, own_grown h2 k (fun g hg e => hv (by rw [hg, e])), fun j s u hk hu => own_grown (h3 j s u hk hu) k (fun g hg e => own_blk_ne (h3 j s u hk hu) hb ht (by rw [hg, e]))⟩
theorem OwnNd.ne {w : World} {base b : Nat} {v : Value} {l : List Nd} (h : OwnNd w base v l) {cs : Array Value} {t : TypeId} (hb : Blk w b t cs) (ht : 66 ≠ t) : v.ownBlock ≠ some b := by
  obtain ⟨us, h1, h2, h3⟩ := h
  exact own_blk_ne h2 hb ht
set_option maxRecDepth 100000 in
set_option maxHeartbeats 8000000 in
theorem pchild_any (w0 : World) (g N i f o base : Nat) (sv nv : Value) (l : List Nd) (key wh e0 z : Int) (S : ByteArray) (cs : List Col) (Z : Array Value) (w : World) (hrec : HNode w0 g sv key wh e0 S cs base f)
    (hB : Blk w g 54 #[sv, .int .i64 key, .string S, .int .i64 i, nv, .int .i64 wh, .int .i64 e0]) (hi : i ≤ S.size) (hf : S.size < i + f) (ho : OwnNd w base nv l) (hl : l.length ≤ 64) (hb0 : Below w0.heap.size w0 w) (hbase : base ≤ w.heap.size) (hN : Blk w N 66 Z) (hZ : Z[o]? = some (.int .i64 z)) (hgN : g ≠ N) (hnv : nv.ownBlock ≠ some N) :
    Calls Tryz.prog 69 #[.pointer (some ⟨g, 0, none⟩), .pointer (some ⟨N, o, none⟩)] w (RetChildP w g N o sv key wh e0 S base Z nv (parN cs S.data.toList f i l)) := by
  have HC := Lib.hid (hrec i nv l w hB hi hf ho hl hb0 hbase)
  obtain ⟨r, hr⟩ : ∃ r, parN cs S.data.toList f i l = r := ⟨_, rfl⟩
  rw [hr] at HC ⊢
  have HN := Lib.hid hN
  have HZ := Lib.hid hZ
  clear hr hrec hB hf ho hb0 hN hZ
  go_enter Tryz.func69, Tryz.ntmps69
  go_wp2_with fail
  refine HC.out.mono ?_
  rintro e w1 hret
  clear HC
  cases r with
  | ok r =>
    obtain ⟨j, l1⟩ := r
    obtain ⟨hk, rfl, hj, hl1, hl2, nv', hB, hO, hob⟩ := hret
    obtain ⟨A, cA, rfl, hc1, hc2⟩ := hO.form
    have HK := Lib.hid hk
    have HB := Lib.hid hB
    have HO := Lib.hid hO
    have HOB := Lib.hid hob
    have hNn : ¬ (fun i => i = g ∨ nv.ownBlock = some i) N := by rintro (h | h); exact hgN h.symm; exact hnv h
    have hN1 := HN.out.kp hk hNn
    have HN1 := Lib.hid hN1
    have c4 := hB.cell 4
    simp only [List.getElem?_toArray, List.getElem?_cons_zero, List.getElem?_cons_succ] at c4
    have co := hN1.cell o
    rw [HZ.out] at co
    have fo := hN1.frozen o
    have wl : IntKind.i64.wrap ((l1.length : Int) - 1) = (l1.length : Int) - 1 := IntWalk.i64_in _ (by omega)
    have hlN := hN1.lt
    clear hk hB hO hob hN1
    go_wp2
    go_ret
    have kg := grownBy_set w1 ⟨N, o, none⟩ (.int .i64 ((l1.length : Int) - 1))
    have hvN : (Value.slice A l1.length cA).ownBlock ≠ some N := by
      intro h
      rcases HOB.out N h with h | h
      · exact hnv h
      · have := HN.out.lt; omega
    refine ⟨(HK.out.mono (S' := fun i => i = g ∨ i = N ∨ nv.ownBlock = some i) (fun i _ h => by rcases h with h | h; exact .inl h; exact .inr (.inr h))).set (p := ⟨N, o, none⟩) (.inl (.inr (.inl rfl))) _, rfl, hj, hl1, hl2, _, HB.out.row kg hgN, HO.out.turn kg hvN HN1.out (by decide), HOB.out, HN1.out.set_ o _⟩
  | error r =>
    obtain ⟨k, er⟩ := r
    obtain ⟨hk, rfl, j, n, c, A, hn, hB⟩ := hret
    have HK := Lib.hid hk
    have HB := Lib.hid hB
    have hNn : ¬ (fun i => i = g ∨ nv.ownBlock = some i) N := by rintro (h | h); exact hgN h.symm; exact hnv h
    have hN1 := HN.out.kp hk hNn
    have c4 := hB.cell 4
    simp only [List.getElem?_toArray, List.getElem?_cons_zero, List.getElem?_cons_succ] at c4
    have co := hN1.cell o
    rw [HZ.out] at co
    have fo := hN1.frozen o
    have wl : IntKind.i64.wrap ((n : Int) - 1) = (n : Int) - 1 := IntWalk.i64_in _ (by omega)
    have hlN := hN1.lt
    clear hk hB hN1
    go_wp2
    go_ret
    have kg := grownBy_set w1 ⟨N, o, none⟩ (.int .i64 ((n : Int) - 1))
    exact ⟨(HK.out.mono (S' := fun i => i = g ∨ i = N ∨ nv.ownBlock = some i) (fun i _ h => by rcases h with h | h; exact .inl h; exact .inr (.inr h))).set (p := ⟨N, o, none⟩) (.inl (.inr (.inl rfl))) _, rfl, j, n, c, A, hn, HB.out.row kg hgN⟩
end Go.Proofs.YtjnamjkdjcndiaaGreatDoor
namespace Go.Proofs.YtjnamjkdjcndiaaGreatDoor
set_option linter.unusedVariables false
def Pos {α : Type} (i : Nat) : Except (Nat × Int) (Nat × α) → Prop
  | .ok (j, _) => i ≤ j
  | .error (j, e) => e = 7 → i ≤ j
theorem col_pos (cs : List Col) (T : List UInt8) (i : Nat) : Pos i (colP cs T i) := by
  have h1 := sk_ge T i
  have h2 := we_ge T (sk T i)
  unfold colP
  split
  · exact fun _ => h1
  · split
    · exact fun _ => h1
    · show i ≤ we T (sk T i); omega
theorem val_pos (c : Col) (T : List UInt8) (i : Nat) : Pos i (valC c T i) := by
  have h1 := sk_ge T i
  have h2 := we_ge T (sk T i)
  unfold valC
  split
  · exact fun _ => h1
  · split
    · exact fun _ => h1
    · show i ≤ we T (sk T i); omega
theorem lst_pos (c : Col) (T : List UInt8) : ∀ (f i : Nat) (l : List Vl), Pos i (lstP c T f i l)
  | 0, i, _ => fun h => by cases h
  | f + 1, i, l => by
    have h1 := sk_ge T i
    have h2 := we_ge T (sk T i)
    unfold lstP
    split
    · split
      · exact fun _ => h1
      · exact h1
    · split
      · exact fun _ => h1
      · split
        · exact fun _ => h1
        · have h3 := lst_pos c T f (we T (sk T i)) (l ++ [vlP (vparV c.ty c.sc true (wd T (sk T i))).1])
          revert h3
          generalize lstP c T f (we T (sk T i)) (l ++ [vlP (vparV c.ty c.sc true (wd T (sk T i))).1]) = R
          intro h3
          cases R with
          | ok r => exact Nat.le_trans (by omega) h3
          | error r => exact fun e => Nat.le_trans (by omega) (h3 e)
theorem leaf_pos (cs : List Col) (T : List UInt8) (op i : Nat) : Pos i (leafR cs T op i) := by
  have h1 := col_pos cs T i
  unfold leafR
  revert h1
  cases colP cs T i with
  | error r => exact fun h => h
  | ok r =>
    obtain ⟨i2, K⟩ := r
    intro h1
    show Pos i (if op = 8 then _ else _)
    split
    · exact h1
    · cases cs[K]? with
      | none => exact fun h => by cases h
      | some c =>
        show Pos i (if op = 7 then _ else _)
        split
        · have h2 := lst_pos c T 17 i2 []
          revert h2
          cases lstP c T 17 i2 [] with
          | error r => exact fun h e => Nat.le_trans h1 (h e)
          | ok r => exact fun h => Nat.le_trans h1 h
        · have h2 := val_pos c T i2
          revert h2
          cases valC c T i2 with
          | error r => exact fun h e => Nat.le_trans h1 (h e)
          | ok r => exact fun h => Nat.le_trans h1 h
theorem arg_pos (cs : List Col) (T : List UInt8) {rec : Nat → List Nd → Except (Nat × Int) (Nat × List Nd)} (hr : ∀ i acc, Pos i (rec i acc)) (op i : Nat) (acc : List Nd) : Pos i (argP cs T rec op i acc) := by
  unfold argP
  split
  · have h1 := hr i acc
    revert h1
    cases rec i acc with
    | error r => exact fun h => h
    | ok r =>
      obtain ⟨i2, a2⟩ := r
      intro h1
      show Pos i (match rec i2 a2 with | .error e => _ | .ok (i3, a3) => _)
      have h2 := hr i2 a2
      revert h2
      cases rec i2 a2 with
      | error r => exact fun h e => Nat.le_trans h1 (h e)
      | ok r => exact fun h => Nat.le_trans h1 h
  · split
    · have h1 := hr i acc
      revert h1
      cases rec i acc with
      | error r => exact fun h => h
      | ok r => exact fun h => h
    · have h1 := leaf_pos cs T op i
      revert h1
      cases leafR cs T op i with
      | error r => exact fun h => h
      | ok r => exact fun h => h
theorem par_pos (cs : List Col) (T : List UInt8) : ∀ (f i : Nat) (acc : List Nd), Pos (i + 1) (parN cs T f i acc)
  | 0, _, _ => fun h => by cases h
  | f + 1, i, acc => by
    unfold parN
    cases h1 : expP T 40 i with
    | error e =>
      unfold expP at h1
      split at h1
      · cases h1
      · injection h1 with h1; subst h1; exact fun h => by cases h
    | ok i1 =>
      obtain ⟨_, _, k1, _⟩ := expP_ok h1
      show Pos (i + 1) (if opW (wd T (sk T i1)) = 0 then _ else _)
      split
      · exact fun h => by cases h
      · have h2 := arg_pos cs T (rec := parN cs T f) (fun i acc => by
          have := par_pos cs T f i acc
          revert this
          cases parN cs T f i acc with
          | error r => exact fun h e => Nat.le_trans (Nat.le_succ i) (h e)
          | ok r => exact fun h => Nat.le_trans (Nat.le_succ i) h) (opW (wd T (sk T i1))) (we T (sk T i1)) acc
        have g1 := sk_ge T i1
        have g2 := we_ge T (sk T i1)
        revert h2
        cases argP cs T (parN cs T f) (opW (wd T (sk T i1))) (we T (sk T i1)) acc with
        | error r => exact fun h e => Nat.le_trans (by omega) (h e)
        | ok r =>
          obtain ⟨i2, x, a2⟩ := r
          intro h2
          have h2 : we T (sk T i1) ≤ i2 := h2
          show Pos (i + 1) (match expP T 41 i2 with | .error e => _ | .ok i3 => _)
          cases h3 : expP T 41 i2 with
          | error e =>
            unfold expP at h3
            split at h3
            · cases h3
            · injection h3 with h3; subst h3; exact fun h => by cases h
          | ok i3 =>
            obtain ⟨_, _, k3, _⟩ := expP_ok h3
            show Pos (i + 1) (if a2.length = 64 then _ else _)
            split
            · intro _; show i + 1 ≤ i3 - 1; omega
            · show i + 1 ≤ i3; omega
/-! Within the text. -/
def Upt {α : Type} (n : Nat) : Except (Nat × Int) (Nat × α) → Prop
  | .ok (j, _) => j ≤ n
  | .error _ => True
theorem col_upt {cs : List Col} {T : List UInt8} {i : Nat} (h : i ≤ T.length) : Upt T.length (colP cs T i) := by
  unfold colP
  split
  · trivial
  · split
    · trivial
    · exact we_le (sk_le h)
theorem val_upt {c : Col} {T : List UInt8} {i : Nat} (h : i ≤ T.length) : Upt T.length (valC c T i) := by
  unfold valC
  split
  · trivial
  · split
    · trivial
    · exact we_le (sk_le h)
theorem lst_upt {c : Col} {T : List UInt8} : ∀ (f i : Nat) (l : List Vl), i ≤ T.length → Upt T.length (lstP c T f i l)
  | 0, _, _, _ => trivial
  | f + 1, i, l, h => by
    unfold lstP
    split
    · split
      · trivial
      · exact sk_le h
    · split
      · trivial
      · split
        · trivial
        · exact lst_upt f _ _ (we_le (sk_le h))
theorem findC_some {l : List Col} {x : ByteArray} (h : ¬ findC l x < 0) : ∃ c, l[(findC l x).toNat]? = some c := by
  revert h
  unfold findC
  cases e : l.findIdx? (fun c => decide (c.nm = x)) with
  | none => intro h; exact absurd (by decide) h
  | some k =>
    intro _
    have hk := (List.findIdx?_eq_some_iff_getElem.1 e).1
    exact ⟨l[k], by show l[((k : Nat) : Int).toNat]? = _; rw [Int.toNat_natCast]; exact List.getElem?_eq_getElem hk⟩
theorem col_has {cs : List Col} {T : List UInt8} {i j K : Nat} (h : colP cs T i = .ok (j, K)) : ∃ c, cs[K]? = some c := by
  unfold colP at h
  split at h
  · cases h
  · split at h
    · cases h
    · rename_i hf
      injection h with h
      injection h with _ h
      subst h
      exact findC_some hf
end Go.Proofs.YtjnamjkdjcndiaaGreatDoor
