/-
  Words, plain laws and contracts on which the walks lean, in one text.
-/
import Derived.Test.YtjnamjkdjcndiaaGreatDoorPar5
import Derived.Test.YtjnamjkdjcndiaaGreatDoorPLeaf
import Derived.Test.YtjnamjkdjcndiaaGreatDoorM17
namespace Go.Proofs.YtjnamjkdjcndiaaGreatDoor
open Go.RowKit Go.Sort

theorem find_succ {P : Nat → Bool} {k : Nat} (h : ∀ j, j < k → P j = false) (hk : P k = true) {n : Nat} (hn : k < n) : (List.range n).find? P = some k := by
  rw [List.find?_eq_some_iff_append]
  refine ⟨hk, List.range k, (List.range' (k + 1) (n - (k + 1))), ?_, fun a ha => by rw [h a (List.mem_range.1 ha)]; rfl⟩
  rw [List.range_eq_range', List.range_eq_range', show n = k + (1 + (n - (k + 1))) by omega, ← List.range'_append_1, ← List.range'_append_1]
  simp; omega
theorem opW_at {l : List UInt8} {k : Nat} (h : ∀ j : Nat, j < k → wordP ((j : Int) + 1) ≠ l) (hk : wordP ((k : Int) + 1) = l) (h11 : k < 11) : opW l = k + 1 := by
  unfold opW
  rw [find_succ (k := k) (fun j hj => by simpa using h j hj) (by simpa using hk) h11]
  rfl
theorem opW_none {l : List UInt8} (h : ∀ j : Nat, j < 11 → wordP ((j : Int) + 1) ≠ l) : opW l = 0 := by
  unfold opW
  have : (List.range 11).find? (fun k : Nat => wordP ((k : Int) + 1) == l) = none := by
    rw [List.find?_eq_none]
    intro k hk
    simpa using h k (List.mem_range.1 hk)
  rw [this]; rfl
theorem opW_le (l : List UInt8) : opW l ≤ 11 := by
  unfold opW
  cases h : (List.range 11).find? (fun k : Nat => wordP ((k : Int) + 1) == l) with
  | none => simp
  | some k =>
    have := List.mem_range.1 (List.mem_of_find?_eq_some h)
    show k + 1 ≤ 11
    omega
set_option maxRecDepth 100000 in
set_option maxHeartbeats 8000000 in
theorem pidx_any (q : Nat) (W : ByteArray) (w : World) (hB : Blk w q 9 #[.string { data := #[101, 113] }, .string { data := #[110, 101] }, .string { data := #[108, 116] }, .string { data := #[108, 101] }, .string { data := #[103, 116] }, .string { data := #[103, 101] }, .string { data := #[105, 110] }, .string { data := #[110, 117, 108, 108] }, .string { data := #[97, 110, 100] }, .string { data := #[111, 114] }, .string { data := #[110, 111, 116] }]) :
    Calls Tryz.prog 45 #[.slice (some ⟨q, 0, none⟩) 11 11, .string W] w fun e w' => e = .returned (.int .i64 ((opW W.data.toList : Int) - 1)) ∧ Below w.heap.size w w' := by
  have HB := Lib.hid hB
  clear hB
  go_enter Tryz.func45, Tryz.ntmps45
  go_wp2_with fail
  go_loopw [8] (fun n wr => ∃ k : Nat, k ≤ 11 ∧ n = .int .i64 (k : Int) ∧ Hid (∀ j : Nat, j < k → wordP ((j : Int) + 1) ≠ W.data.toList) ∧ Below w.heap.size w wr) (fun n _ => 11 - (intOf n).toNat)
  case atStart => exact ⟨0, by omega, rfl, Lib.hid (fun j hj => by omega), Below.refl _ _⟩
  case round =>
    obtain ⟨k, hk, rfl, hno, hbel⟩ := hrel
    have HB2 := Lib.hid (HB.out.below hbel HB.out.lt)
    have HBE := Lib.hid hbel
    clear hbel
    by_cases hlt : k < 11
    · obtain ⟨J, B, hJ, hJ11, hBJ, hBW⟩ := word_at (op := (k : Int) + 1) (by omega) (by omega)
      obtain rfl : J = k := by omega
      have cc := HB2.out.cell J
      rw [hBJ] at cc
      rw [← hJ] at hBW
      have qJ : decide (J < 11) = true := decide_eq_true hlt
      have pJ : ((J : Int) < 11) = True := eq_true (by omega)
      have wJ : IntKind.i64.wrap ((J : Int) + 1) = (J : Int) + 1 := IntWalk.i64_in _ (by omega)
      by_cases he : W.data.toList = B.data.toList
      · have q1 : (W.toList == B.toList) = true := by rw [Go.ByteArray.toList_eq, Go.ByteArray.toList_eq, he]; exact beq_self_eq_true _
        have HR := Lib.hid (opW_at hno.out (by rw [he, hBW]) hlt)
        clear he hBW hBJ hno hJ
        go_wp2
        go_ret
        rw [HR.out]
        exact ⟨by rw [show (((J + 1 : Nat) : Int) - 1) = (J : Int) by omega]; rfl, HBE.out⟩
      · have q1 : (W.toList == B.toList) = false := by rw [Go.ByteArray.toList_eq, Go.ByteArray.toList_eq]; simpa using he
        have HN := Lib.hid (show ∀ j : Nat, j < J + 1 → wordP ((j : Int) + 1) ≠ W.data.toList by
          intro j hj
          by_cases e : j = J
          · subst e; rw [hJ] at *; intro h; exact he (by rw [← h, hBW])
          · exact hno.out j (by omega))
        clear he hBW hBJ hno hJ
        go_wp2
        go_roundw
        case rel => exact ⟨J + 1, by omega, by rw [show ((J + 1 : Nat) : Int) = (J : Int) + 1 by omega], HN, HBE.out⟩
        case measure => simp [intOf]; omega
    · obtain rfl : k = 11 := by omega
      have HR := Lib.hid (opW_none hno.out)
      clear hno
      go_wp2
      go_ret
      rw [HR.out]
      exact ⟨rfl, HBE.out⟩
def RetNodeP (w : World) (g : Nat) (sv : Value) (key wh e0 : Int) (S : ByteArray) (base : Nat) (nv : Value) (r : Except (Nat × Int) (Nat × List Nd)) (e : Ending) (w' : World) : Prop :=
  Kp (fun i => i = g ∨ nv.ownBlock = some i) w w' ∧ match r with
  | .ok (j, l) => e = .returned (.bool true) ∧ j ≤ S.size ∧ 1 ≤ l.length ∧ l.length ≤ 64 ∧ ∃ nv', Blk w' g 54 #[sv, .int .i64 key, .string S, .int .i64 j, nv', .int .i64 wh, .int .i64 e0] ∧ OwnNd w' base nv' l ∧ (∀ b, nv'.ownBlock = some b → nv.ownBlock = some b ∨ w.heap.size ≤ b)
  | .error (k, er) => e = .returned (.bool false) ∧ ∃ (i n c : Nat) (A : Option Addr), n ≤ 64 ∧ Blk w' g 54 #[sv, .int .i64 key, .string S, .int .i64 i, .slice A n c, .int .i64 k, .int .i64 er]
def HNode (w0 : World) (g : Nat) (sv : Value) (key wh e0 : Int) (S : ByteArray) (cs : List Col) (base f : Nat) : Prop :=
  ∀ (i : Nat) (nv : Value) (l : List Nd) (w : World), Blk w g 54 #[sv, .int .i64 key, .string S, .int .i64 i, nv, .int .i64 wh, .int .i64 e0] → i ≤ S.size → S.size < i + f → OwnNd w base nv l → l.length ≤ 64 → Below w0.heap.size w0 w → base ≤ w.heap.size →
    Calls Tryz.prog 23 #[.pointer (some ⟨g, 0, none⟩)] w (RetNodeP w g sv key wh e0 S base nv (parN cs S.data.toList f i l))
def RetChildP (w : World) (g N o : Nat) (sv : Value) (key wh e0 : Int) (S : ByteArray) (base : Nat) (Z : Array Value) (nv : Value) (r : Except (Nat × Int) (Nat × List Nd)) (e : Ending) (w' : World) : Prop :=
  Kp (fun i => i = g ∨ i = N ∨ nv.ownBlock = some i) w w' ∧ match r with
  | .ok (j, l) => e = .returned (.bool true) ∧ j ≤ S.size ∧ 1 ≤ l.length ∧ l.length ≤ 64 ∧ ∃ nv', Blk w' g 54 #[sv, .int .i64 key, .string S, .int .i64 j, nv', .int .i64 wh, .int .i64 e0] ∧ OwnNd w' base nv' l ∧ (∀ b, nv'.ownBlock = some b → nv.ownBlock = some b ∨ w.heap.size ≤ b) ∧ Blk w' N 66 (Z.setIfInBounds o (.int .i64 ((l.length : Int) - 1)))
  | .error (k, er) => e = .returned (.bool false) ∧ ∃ (i n c : Nat) (A : Option Addr), n ≤ 64 ∧ Blk w' g 54 #[sv, .int .i64 key, .string S, .int .i64 i, .slice A n c, .int .i64 k, .int .i64 er]
theorem OwnNd.turn {w w' : World} {base b : Nat} {v : Value} {l : List Nd} (h : OwnNd w base v l) (k : w.grownBy w' (some b)) (hv : v.ownBlock ≠ some b) {cs : Array Value} {t : TypeId} (hb : Blk w b t cs) (ht : 64 ≠ t) : OwnNd w' base v l := by
  obtain ⟨us, h1, h2, h3⟩ := h
  exact ⟨us, h1, own_grown h2 k (fun g hg e => hv (by rw [hg, e])), fun j s u hk hu => own_grown (h3 j s u hk hu) k (fun g hg e => own_blk_ne (h3 j s u hk hu) hb ht (by rw [hg, e]))⟩
theorem OwnNd.ne {w : World} {base b : Nat} {v : Value} {l : List Nd} (h : OwnNd w base v l) {cs : Array Value} {t : TypeId} (hb : Blk w b t cs) (ht : 66 ≠ t) : v.ownBlock ≠ some b := by
  obtain ⟨us, h1, h2, h3⟩ := h
  exact own_blk_ne h2 hb ht
set_option maxRecDepth 100000 in
set_option maxHeartbeats 8000000 in
theorem pchild_any (w0 : World) (g N i f o base : Nat) (sv nv : Value) (l : List Nd) (key wh e0 z : Int) (S : ByteArray) (cs : List Col) (Z : Array Value) (w : World) (hrec : HNode w0 g sv key wh e0 S cs base f)
    (hB : Blk w g 54 #[sv, .int .i64 key, .string S, .int .i64 i, nv, .int .i64 wh, .int .i64 e0]) (hi : i ≤ S.size) (hf : S.size < i + f) (ho : OwnNd w base nv l) (hl : l.length ≤ 64) (hb0 : Below w0.heap.size w0 w) (hbase : base ≤ w.heap.size) (hN : Blk w N 66 Z) (hZ : Z[o]? = some (.int .i64 z)) (hgN : g ≠ N) (hnv : nv.ownBlock ≠ some N) :
    Calls Tryz.prog 69 #[.pointer (some ⟨g, 0, none⟩), .pointer (some ⟨N, o, none⟩)] w (RetChildP w g N o sv key wh e0 S base Z nv (parN cs S.data.toList f i l)) := by
  have HC := Lib.hid (hrec i nv l w hB hi hf ho hl hb0 hbase)
  obtain ⟨r, hr⟩ : ∃ r, parN cs S.data.toList f i l = r := ⟨_, rfl⟩
  rw [hr] at HC ⊢
  have HN := Lib.hid hN
  have HZ := Lib.hid hZ
  clear hr hrec hB hf ho hb0 hN hZ
  go_enter Tryz.func69, Tryz.ntmps69
  go_wp2_with fail
  refine HC.out.mono ?_
  rintro e w1 hret
  clear HC
  cases r with
  | ok r =>
    obtain ⟨j, l1⟩ := r
    obtain ⟨hk, rfl, hj, hl1, hl2, nv', hB, hO, hob⟩ := hret
    obtain ⟨A, cA, rfl, hc1, hc2⟩ := hO.form
    have HK := Lib.hid hk
    have HB := Lib.hid hB
    have HO := Lib.hid hO
    have HOB := Lib.hid hob
    have hNn : ¬ (fun i => i = g ∨ nv.ownBlock = some i) N := by rintro (h | h); exact hgN h.symm; exact hnv h
    have hN1 := HN.out.kp hk hNn
    have HN1 := Lib.hid hN1
    have c4 := hB.cell 4
    simp only [List.getElem?_toArray, List.getElem?_cons_zero, List.getElem?_cons_succ] at c4
    have co := hN1.cell o
    rw [HZ.out] at co
    have fo := hN1.frozen o
    have wl : IntKind.i64.wrap ((l1.length : Int) - 1) = (l1.length : Int) - 1 := IntWalk.i64_in _ (by omega)
    have hlN := hN1.lt
    clear hk hB hO hob hN1
    go_wp2
    go_ret
    have kg := grownBy_set w1 ⟨N, o, none⟩ (.int .i64 ((l1.length : Int) - 1))
    have hvN : (Value.slice A l1.length cA).ownBlock ≠ some N := by
      intro h
      rcases HOB.out N h with h | h
      · exact hnv h
      · have := HN.out.lt; omega
    refine ⟨(HK.out.mono (S' := fun i => i = g ∨ i = N ∨ nv.ownBlock = some i) (fun i _ h => by rcases h with h | h; exact .inl h; exact .inr (.inr h))).set (p := ⟨N, o, none⟩) (.inl (.inr (.inl rfl))) _, rfl, hj, hl1, hl2, _, HB.out.row kg hgN, HO.out.turn kg hvN HN1.out (by decide), HOB.out, HN1.out.set_ o _⟩
  | error r =>
    obtain ⟨k, er⟩ := r
    obtain ⟨hk, rfl, j, n, c, A, hn, hB⟩ := hret
    have HK := Lib.hid hk
    have HB := Lib.hid hB
    have hNn : ¬ (fun i => i = g ∨ nv.ownBlock = some i) N := by rintro (h | h); exact hgN h.symm; exact hnv h
    have hN1 := HN.out.kp hk hNn
    have c4 := hB.cell 4
    simp only [List.getElem?_toArray, List.getElem?_cons_zero, List.getElem?_cons_succ] at c4
    have co := hN1.cell o
    rw [HZ.out] at co
    have fo := hN1.frozen o
    have wl : IntKind.i64.wrap ((n : Int) - 1) = (n : Int) - 1 := IntWalk.i64_in _ (by omega)
    have hlN := hN1.lt
    clear hk hB hN1
    go_wp2
    go_ret
    have kg := grownBy_set w1 ⟨N, o, none⟩ (.int .i64 ((n : Int) - 1))
    exact ⟨(HK.out.mono (S' := fun i => i = g ∨ i = N ∨ nv.ownBlock = some i) (fun i _ h => by rcases h with h | h; exact .inl h; exact .inr (.inr h))).set (p := ⟨N, o, none⟩) (.inl (.inr (.inl rfl))) _, rfl, j, n, c, A, hn, HB.out.row kg hgN⟩
end Go.Proofs.YtjnamjkdjcndiaaGreatDoor
namespace Go.Proofs.YtjnamjkdjcndiaaGreatDoor
set_option linter.unusedVariables false
def Pos {α : Type} (i : Nat) : Except (Nat × Int) (Nat × α) → Prop
  | .ok (j, _) => i ≤ j
  | .error (j, e) => e = 7 → i ≤ j
theorem col_pos (cs : List Col) (T : List UInt8) (i : Nat) : Pos i (colP cs T i) := by
  have h1 := sk_ge T i
  have h2 := we_ge T (sk T i)
  unfold colP
  split
  · exact fun _ => h1
  · split
    · exact fun _ => h1
    · show i ≤ we T (sk T i); omega
theorem val_pos (c : Col) (T : List UInt8) (i : Nat) : Pos i (valC c T i) := by
  have h1 := sk_ge T i
  have h2 := we_ge T (sk T i)
  unfold valC
  split
  · exact fun _ => h1
  · split
    · exact fun _ => h1
    · show i ≤ we T (sk T i); omega
theorem lst_pos (c : Col) (T : List UInt8) : ∀ (f i : Nat) (l : List Vl), Pos i (lstP c T f i l)
  | 0, i, _ => fun h => by cases h
  | f + 1, i, l => by
    have h1 := sk_ge T i
    have h2 := we_ge T (sk T i)
    unfold lstP
    split
    · split
      · exact fun _ => h1
      · exact h1
    · split
      · exact fun _ => h1
      · split
        · exact fun _ => h1
        · have h3 := lst_pos c T f (we T (sk T i)) (l ++ [vlP (vparV c.ty c.sc true (wd T (sk T i))).1])
          revert h3
          generalize lstP c T f (we T (sk T i)) (l ++ [vlP (vparV c.ty c.sc true (wd T (sk T i))).1]) = R
          intro h3
          cases R with
          | ok r => exact Nat.le_trans (by omega) h3
          | error r => exact fun e => Nat.le_trans (by omega) (h3 e)
theorem leaf_pos (cs : List Col) (T : List UInt8) (op i : Nat) : Pos i (leafR cs T op i) := by
  have h1 := col_pos cs T i
  unfold leafR
  revert h1
  cases colP cs T i with
  | error r => exact fun h => h
  | ok r =>
    obtain ⟨i2, K⟩ := r
    intro h1
    show Pos i (if op = 8 then _ else _)
    split
    · exact h1
    · cases cs[K]? with
      | none => exact fun h => by cases h
      | some c =>
        show Pos i (if op = 7 then _ else _)
        split
        · have h2 := lst_pos c T 17 i2 []
          revert h2
          cases lstP c T 17 i2 [] with
          | error r => exact fun h e => Nat.le_trans h1 (h e)
          | ok r => exact fun h => Nat.le_trans h1 h
        · have h2 := val_pos c T i2
          revert h2
          cases valC c T i2 with
          | error r => exact fun h e => Nat.le_trans h1 (h e)
          | ok r => exact fun h => Nat.le_trans h1 h
theorem arg_pos (cs : List Col) (T : List UInt8) {rec : Nat → List Nd → Except (Nat × Int) (Nat × List Nd)} (hr : ∀ i acc, Pos i (rec i acc)) (op i : Nat) (acc : List Nd) : Pos i (argP cs T rec op i acc) := by
  unfold argP
  split
  · have h1 := hr i acc
    revert h1
    cases rec i acc with
    | error r => exact fun h => h
    | ok r =>
      obtain ⟨i2, a2⟩ := r
      intro h1
      show Pos i (match rec i2 a2 with | .error e => _ | .ok (i3, a3) => _)
      have h2 := hr i2 a2
      revert h2
      cases rec i2 a2 with
      | error r => exact fun h e => Nat.le_trans h1 (h e)
      | ok r => exact fun h => Nat.le_trans h1 h
  · split
    · have h1 := hr i acc
      revert h1
      cases rec i acc with
      | error r => exact fun h => h
      | ok r => exact fun h => h
    · have h1 := leaf_pos cs T op i
      revert h1
      cases leafR cs T op i with
      | error r => exact fun h => h
      | ok r => exact fun h => h
theorem par_pos (cs : List Col) (T : List UInt8) : ∀ (f i : Nat) (acc : List Nd), Pos (i + 1) (parN cs T f i acc)
  | 0, _, _ => fun h => by cases h
  | f + 1, i, acc => by
    unfold parN
    cases h1 : expP T 40 i with
    | error e =>
      unfold expP at h1
      split at h1
      · cases h1
      · injection h1 with h1; subst h1; exact fun h => by cases h
    | ok i1 =>
      obtain ⟨_, _, k1, _⟩ := expP_ok h1
      show Pos (i + 1) (if opW (wd T (sk T i1)) = 0 then _ else _)
      split
      · exact fun h => by cases h
      · have h2 := arg_pos cs T (rec := parN cs T f) (fun i acc => by
          have := par_pos cs T f i acc
          revert this
          cases parN cs T f i acc with
          | error r => exact fun h e => Nat.le_trans (Nat.le_succ i) (h e)
          | ok r => exact fun h => Nat.le_trans (Nat.le_succ i) h) (opW (wd T (sk T i1))) (we T (sk T i1)) acc
        have g1 := sk_ge T i1
        have g2 := we_ge T (sk T i1)
        revert h2
        cases argP cs T (parN cs T f) (opW (wd T (sk T i1))) (we T (sk T i1)) acc with
        | error r => exact fun h e => Nat.le_trans (by omega) (h e)
        | ok r =>
          obtain ⟨i2, x, a2⟩ := r
          intro h2
          have h2 : we T (sk T i1) ≤ i2 := h2
          show Pos (i + 1) (match expP T 41 i2 with | .error e => _ | .ok i3 => _)
          cases h3 : expP T 41 i2 with
          | error e =>
            unfold expP at h3
            split at h3
            · cases h3
            · injection h3 with h3; subst h3; exact fun h => by cases h
          | ok i3 =>
            obtain ⟨_, _, k3, _⟩ := expP_ok h3
            show Pos (i + 1) (if a2.length = 64 then _ else _)
            split
            · intro _; show i + 1 ≤ i3 - 1; omega
            · show i + 1 ≤ i3; omega
/-! Within the text. -/
def Upt {α : Type} (n : Nat) : Except (Nat × Int) (Nat × α) → Prop
  | .ok (j, _) => j ≤ n
  | .error _ => True
theorem col_upt {cs : List Col} {T : List UInt8} {i : Nat} (h : i ≤ T.length) : Upt T.length (colP cs T i) := by
  unfold colP
  split
  · trivial
  · split
    · trivial
    · exact we_le (sk_le h)
theorem val_upt {c : Col} {T : List UInt8} {i : Nat} (h : i ≤ T.length) : Upt T.length (valC c T i) := by
  unfold valC
  split
  · trivial
  · split
    · trivial
    · exact we_le (sk_le h)
theorem lst_upt {c : Col} {T : List UInt8} : ∀ (f i : Nat) (l : List Vl), i ≤ T.length → Upt T.length (lstP c T f i l)
  | 0, _, _, _ => trivial
  | f + 1, i, l, h => by
    unfold lstP
    split
    · split
      · trivial
      · exact sk_le h
    · split
      · trivial
      · split
        · trivial
        · exact lst_upt f _ _ (we_le (sk_le h))
theorem findC_some {l : List Col} {x : ByteArray} (h : ¬ findC l x < 0) : ∃ c, l[(findC l x).toNat]? = some c := by
  revert h
  unfold findC
  cases e : l.findIdx? (fun c => decide (c.nm = x)) with
  | none => intro h; exact absurd (by decide) h
  | some k =>
    intro _
    have hk := (List.findIdx?_eq_some_iff_getElem.1 e).1
    exact ⟨l[k], by show l[((k : Nat) : Int).toNat]? = _; rw [Int.toNat_natCast]; exact List.getElem?_eq_getElem hk⟩
theorem col_has {cs : List Col} {T : List UInt8} {i j K : Nat} (h : colP cs T i = .ok (j, K)) : ∃ c, cs[K]? = some c := by
  unfold colP at h
  split at h
  · cases h
  · split at h
    · cases h
    · rename_i hf
      injection h with h
      injection h with _ h
      subst h
      exact findC_some hf
end Go.Proofs.YtjnamjkdjcndiaaGreatDoor
namespace Go.Proofs.YtjnamjkdjcndiaaGreatDoor
open Go.RowKit Go.Sort

def RetRestP (w : World) (g N : Nat) (sv : Value) (key wh e0 : Int) (S : ByteArray) (base : Nat) (nv : Value) (r : Except (Nat × Int) (Nat × Nd × List Nd)) (e : Ending) (w' : World) : Prop :=
  Kp (fun i => i = g ∨ i = N ∨ nv.ownBlock = some i) w w' ∧ match r with
  | .ok (j, x, l) => e = .returned (.bool true) ∧ j ≤ S.size ∧ l.length ≤ 64 ∧ ∃ nv' u, Blk w' g 54 #[sv, .int .i64 key, .string S, .int .i64 j, nv', .int .i64 wh, .int .i64 e0] ∧ OwnNd w' base nv' l ∧ (∀ b, nv'.ownBlock = some b → nv.ownBlock = some b ∨ w.heap.size ≤ b) ∧ Blk w' N 66 #[.int .i64 x.op, .int .i64 x.col, .bool x.v.nu, .int .i64 x.v.n, .string x.v.s, u, .int .i64 x.a, .int .i64 x.b] ∧ w'.ownsRow base 64 3 u x.l.length (vls x.l)
  | .error (k, er) => e = .returned (.bool false) ∧ ∃ (i n c : Nat) (A : Option Addr), n ≤ 64 ∧ Blk w' g 54 #[sv, .int .i64 key, .string S, .int .i64 i, .slice A n c, .int .i64 k, .int .i64 er]
section
variable {cs : List Col} {T : List UInt8} {rec : Nat → List Nd → Except (Nat × Int) (Nat × List Nd)} {op i j j2 K : Nat} {acc a2 a3 : List Nd} {e : Nat × Int} {c : Col} {v : Vl} {l : List Vl}
theorem arg_e1 (h : op = 9 ∨ op = 10) (h1 : rec i acc = .error e) : argP cs T rec op i acc = .error e := by unfold argP; rw [if_pos h, h1]
theorem arg_e2 (h : op = 9 ∨ op = 10) (h1 : rec i acc = .ok (j, a2)) (h2 : rec j a2 = .error e) : argP cs T rec op i acc = .error e := by unfold argP; rw [if_pos h, h1]; dsimp only; rw [h2]
theorem arg_o2 (h : op = 9 ∨ op = 10) (h1 : rec i acc = .ok (j, a2)) (h2 : rec j a2 = .ok (j2, a3)) : argP cs T rec op i acc = .ok (j2, ⟨op, 0, v0, [], (a2.length : Int) - 1, (a3.length : Int) - 1⟩, a3) := by unfold argP; rw [if_pos h, h1]; dsimp only; rw [h2]
theorem arg_n1 (h1 : rec i acc = .error e) : argP cs T rec 11 i acc = .error e := by unfold argP; rw [if_neg (by decide), if_pos rfl, h1]
theorem arg_n2 (h1 : rec i acc = .ok (j, a2)) : argP cs T rec 11 i acc = .ok (j, ⟨11, 0, v0, [], (a2.length : Int) - 1, 0⟩, a2) := by unfold argP; rw [if_neg (by decide), if_pos rfl, h1]
theorem arg_l1 (h : op ≤ 8) (h1 : colP cs T i = .error e) : argP cs T rec op i acc = .error e := by unfold argP leafR; rw [if_neg (by omega), if_neg (by omega), h1]
theorem arg_l8 (h1 : colP cs T i = .ok (j, K)) : argP cs T rec 8 i acc = .ok (j, ⟨8, K, v0, [], 0, 0⟩, acc) := by unfold argP leafR; rw [if_neg (by decide), if_neg (by decide), h1]; rfl
theorem leaf_l (h1 : colP cs T i = .ok (j, K)) (hc : cs[K]? = some c) : leafR cs T 7 i = (match lstP c T 17 j [] with
          | .error e => .error e
          | .ok (i3, l) => .ok (i3, ⟨7, K, v0, l, 0, 0⟩)) := by
  unfold leafR; rw [h1]
  dsimp only
  rw [hc]; rfl
theorem leaf_v (h : op ≤ 6) (h1 : colP cs T i = .ok (j, K)) (hc : cs[K]? = some c) : leafR cs T op i = (match valC c T j with
          | .error e => .error e
          | .ok (i3, v) => .ok (i3, ⟨op, K, v, [], 0, 0⟩)) := by
  unfold leafR; rw [h1]
  show (if op = 8 then _ else match cs[K]? with | none => _ | some c => _) = _
  rw [if_neg (by omega), hc]
  show (if op = 7 then _ else _) = _
  rw [if_neg (by omega)]; rfl
theorem arg_l7e (h1 : colP cs T i = .ok (j, K)) (hc : cs[K]? = some c) (h2 : lstP c T 17 j [] = .error e) : argP cs T rec 7 i acc = .error e := by unfold argP; rw [if_neg (by decide), if_neg (by decide), leaf_l h1 hc, h2]
theorem arg_l7o (h1 : colP cs T i = .ok (j, K)) (hc : cs[K]? = some c) (h2 : lstP c T 17 j [] = .ok (j2, l)) : argP cs T rec 7 i acc = .ok (j2, ⟨7, K, v0, l, 0, 0⟩, acc) := by unfold argP; rw [if_neg (by decide), if_neg (by decide), leaf_l h1 hc, h2]
theorem arg_lve (h : op ≤ 6) (h1 : colP cs T i = .ok (j, K)) (hc : cs[K]? = some c) (h2 : valC c T j = .error e) : argP cs T rec op i acc = .error e := by unfold argP; rw [if_neg (by omega), if_neg (by omega), leaf_v h h1 hc, h2]
theorem arg_lvo (h : op ≤ 6) (h1 : colP cs T i = .ok (j, K)) (hc : cs[K]? = some c) (h2 : valC c T j = .ok (j2, v)) : argP cs T rec op i acc = .ok (j2, ⟨op, K, v, [], 0, 0⟩, acc) := by unfold argP; rw [if_neg (by omega), if_neg (by omega), leaf_v h h1 hc, h2]
end
structure PCtx (w0 : World) (g : Nat) (sv : Value) (S : ByteArray) (cs : List Col) (base : Nat) : Prop where
  hS : S.size ≤ 65536
  hcs : Sl w0 4 sv cs.length (cols cs)
  hE : Env w0
  hcl : cs.length ≤ 1000
  hg : w0.heap.size ≤ g
  hb : w0.heap.size ≤ base
theorem OwnNd.ge {w : World} {base b : Nat} {v : Value} {l : List Nd} (h : OwnNd w base v l) (hb : v.ownBlock = some b) : base ≤ b ∧ b < w.heap.size := by
  obtain ⟨us, h1, h2, h3⟩ := h
  exact h2.lt b hb
set_option maxRecDepth 100000 in
set_option maxHeartbeats 8000000 in
theorem prest9_any (w0 : World) (g N i f base : Nat) (sv nv : Value) (l : List Nd) (key wh e0 : Int) (S : ByteArray) (cs : List Col) (w : World) (hx : PCtx w0 g sv S cs base) (hrec : HNode w0 g sv key wh e0 S cs base f)
    (hB : Blk w g 54 #[sv, .int .i64 key, .string S, .int .i64 i, nv, .int .i64 wh, .int .i64 e0]) (hi : i ≤ S.size) (hf : S.size < i + f) (ho : OwnNd w base nv l) (hl : l.length ≤ 64) (hb0 : Below w0.heap.size w0 w) (hbase : base ≤ w.heap.size) (hN : Blk w N 66 #[.int .i64 9, .int .i64 0, .bool false, .int .i64 0, .string { data := #[] }, .slice none 0 0, .int .i64 0, .int .i64 0]) (hnv : nv.ownBlock ≠ some N) (hn0 : w0.heap.size ≤ N) :
    Calls Tryz.prog 48 #[.pointer (some ⟨g, 0, none⟩), .pointer (some ⟨N, 0, none⟩)] w (RetRestP w g N sv key wh e0 S base nv (argP cs S.data.toList (parN cs S.data.toList f) 9 i l)) := by
  have hgN : g ≠ N := by intro e; subst e; have := hB.symm.trans hN; injection this with this; injection this with _ h; revert h; decide
  have HX := Lib.hid hx
  have HB0 := Lib.hid hb0
  have HBS := Lib.hid hbase
  have HO := Lib.hid ho
  have HNN := Lib.hid hN
  have HB := Lib.hid hB
  have HNV := Lib.hid hnv
  have HI := Lib.hid hi
  have HF := Lib.hid hf
  have HREC := Lib.hid hrec
  have n0 := hN.cell 0
  simp only [List.getElem?_toArray, List.getElem?_cons_zero] at n0
  clear hx hb0 hbase ho hN hB hnv hi hf hrec
  have hpos := par_pos cs S.data.toList f i l
  cases hr : parN cs S.data.toList f i l with
  | error r =>
    obtain ⟨k, er⟩ := r
    have HR1 := Lib.hid hr
    have HR := Lib.hid (arg_e1 (cs := cs) (T := S.data.toList) (op := 9) (by decide) hr)
    clear hr hpos
    go_enter Tryz.func48, Tryz.ntmps48
    go_wp2_with fail
    refine (pchild_any w0 g N i f 6 base sv nv l key wh e0 0 S cs _ w HREC.out HB.out HI.out HF.out HO.out hl HB0.out HBS.out HNN.out rfl hgN HNV.out).mono ?_
    rintro e w1 hret
    rw [HR1.out] at hret
    obtain ⟨hk, rfl, j0, n0, c0, A0, hn, hB⟩ := hret
    have HK1 := Lib.hid (hk)
    have HB1 := Lib.hid hB
    clear hk hB
    go_wp2
    go_ret
    rw [HR.out]
    exact ⟨HK1.out, rfl, j0, n0, c0, A0, hn, HB1.out⟩
  | ok r =>
    obtain ⟨j, l1⟩ := r
    rw [hr] at hpos
    have hij : i + 1 ≤ j := hpos
    have HR1 := Lib.hid hr
    cases hr2 : parN cs S.data.toList f j l1 with
    | error r =>
      obtain ⟨k, er⟩ := r
      have HR := Lib.hid (arg_e2 (cs := cs) (T := S.data.toList) (op := 9) (by decide) hr hr2)
      have HR2 := Lib.hid hr2
      clear hr hr2 hpos
      go_enter Tryz.func48, Tryz.ntmps48
      go_wp2_with fail
      refine (pchild_any w0 g N i f 6 base sv nv l key wh e0 0 S cs _ w HREC.out HB.out HI.out HF.out HO.out hl HB0.out HBS.out HNN.out rfl hgN HNV.out).mono ?_
      rintro e w1 hret
      rw [HR1.out] at hret
      obtain ⟨hk, rfl, hj, hl1, hl2, nv1, hB, hO, hob, hN⟩ := hret
      simp only [List.setIfInBounds_toArray, List.set_cons_zero, List.set_cons_succ] at hN
      have HK1 := Lib.hid hk
      have HB1 := Lib.hid hB
      have HO1 := Lib.hid hO
      have HOB1 := Lib.hid hob
      have HN1 := Lib.hid hN
      have HJ1 := Lib.hid hj
      clear hk hB hO hob hN hj
      have hb1 := Lib.hid (show Below w0.heap.size w0 w1 from below_kp HB0.out HK1.out (fun q h => by
        rcases h with h | h | h
        · have := HX.out.hg; omega
        · omega
        · have := (HO.out.ge h).1; have := HX.out.hb; omega) HB0.out.size)
      have hnv1 := Lib.hid (show nv1.ownBlock ≠ some N by
        intro h
        rcases HOB1.out N h with h | h
        · exact HNV.out h
        · have := HNN.out.lt; omega)
      clear n0
      go_wp2_with fail
      refine (pchild_any w0 g N j f 7 base sv nv1 l1 key wh e0 0 S cs _ w1 HREC.out HB1.out HJ1.out (by have := HF.out; omega) HO1.out hl2 hb1.out (Nat.le_trans HBS.out HK1.out.size) HN1.out rfl hgN hnv1.out).mono ?_
      rintro e w2 hret
      rw [HR2.out] at hret
      obtain ⟨hk, rfl, j0, n0, c0, A0, hn, hB⟩ := hret
      have HK2 := Lib.hid (HK1.out.then' hk (fun q hq h => by rcases h with h | h | h; exact .inl h; exact .inr (.inl h); rcases HOB1.out q h with h | h; exact .inr (.inr h); exact absurd h (by omega)))
      have HB2 := Lib.hid hB
      clear hk hB
      go_wp2
      go_ret
      rw [HR.out]
      exact ⟨HK2.out, rfl, j0, n0, c0, A0, hn, HB2.out⟩
    | ok r =>
      obtain ⟨j2, l2⟩ := r
      have HR := Lib.hid (arg_o2 (cs := cs) (T := S.data.toList) (op := 9) (by decide) hr hr2)
      have HR2 := Lib.hid hr2
      clear hr hr2 hpos
      go_enter Tryz.func48, Tryz.ntmps48
      go_wp2_with fail
      refine (pchild_any w0 g N i f 6 base sv nv l key wh e0 0 S cs _ w HREC.out HB.out HI.out HF.out HO.out hl HB0.out HBS.out HNN.out rfl hgN HNV.out).mono ?_
      rintro e w1 hret
      rw [HR1.out] at hret
      obtain ⟨hk, rfl, hj, hl1, hl2, nv1, hB, hO, hob, hN⟩ := hret
      simp only [List.setIfInBounds_toArray, List.set_cons_zero, List.set_cons_succ] at hN
      have HK1 := Lib.hid hk
      have HB1 := Lib.hid hB
      have HO1 := Lib.hid hO
      have HOB1 := Lib.hid hob
      have HN1 := Lib.hid hN
      have HJ1 := Lib.hid hj
      clear hk hB hO hob hN hj
      have hb1 := Lib.hid (show Below w0.heap.size w0 w1 from below_kp HB0.out HK1.out (fun q h => by
        rcases h with h | h | h
        · have := HX.out.hg; omega
        · omega
        · have := (HO.out.ge h).1; have := HX.out.hb; omega) HB0.out.size)
      have hnv1 := Lib.hid (show nv1.ownBlock ≠ some N by
        intro h
        rcases HOB1.out N h with h | h
        · exact HNV.out h
        · have := HNN.out.lt; omega)
      clear n0
      go_wp2_with fail
      refine (pchild_any w0 g N j f 7 base sv nv1 l1 key wh e0 0 S cs _ w1 HREC.out HB1.out HJ1.out (by have := HF.out; omega) HO1.out hl2 hb1.out (Nat.le_trans HBS.out HK1.out.size) HN1.out rfl hgN hnv1.out).mono ?_
      rintro e w2 hret
      rw [HR2.out] at hret
      obtain ⟨hk, rfl, hj2, hl3, hl4, nv2, hB, hO, hob, hN⟩ := hret
      simp only [List.setIfInBounds_toArray, List.set_cons_zero, List.set_cons_succ] at hN
      have HK2 := Lib.hid (HK1.out.then' hk (fun q hq h => by rcases h with h | h | h; exact .inl h; exact .inr (.inl h); rcases HOB1.out q h with h | h; exact .inr (.inr h); exact absurd h (by omega)))
      have HB2 := Lib.hid hB
      have HO2 := Lib.hid hO
      have HOB2 := Lib.hid (show ∀ b, nv2.ownBlock = some b → nv.ownBlock = some b ∨ w.heap.size ≤ b from fun b h => by
        rcases hob b h with h | h
        · exact HOB1.out b h
        · exact .inr (Nat.le_trans HK1.out.size h))
      have HN2 := Lib.hid hN
      clear hk hB hO hob hN
      go_wp2
      go_ret
      rw [HR.out]
      exact ⟨HK2.out, rfl, hj2, hl4, nv2, _, HB2.out, HO2.out, HOB2.out, HN2.out, World.ownsRow_nil _ _ _ _⟩
set_option maxRecDepth 100000 in
set_option maxHeartbeats 8000000 in
theorem prest10_any (w0 : World) (g N i f base : Nat) (sv nv : Value) (l : List Nd) (key wh e0 : Int) (S : ByteArray) (cs : List Col) (w : World) (hx : PCtx w0 g sv S cs base) (hrec : HNode w0 g sv key wh e0 S cs base f)
    (hB : Blk w g 54 #[sv, .int .i64 key, .string S, .int .i64 i, nv, .int .i64 wh, .int .i64 e0]) (hi : i ≤ S.size) (hf : S.size < i + f) (ho : OwnNd w base nv l) (hl : l.length ≤ 64) (hb0 : Below w0.heap.size w0 w) (hbase : base ≤ w.heap.size) (hN : Blk w N 66 #[.int .i64 10, .int .i64 0, .bool false, .int .i64 0, .string { data := #[] }, .slice none 0 0, .int .i64 0, .int .i64 0]) (hnv : nv.ownBlock ≠ some N) (hn0 : w0.heap.size ≤ N) :
    Calls Tryz.prog 48 #[.pointer (some ⟨g, 0, none⟩), .pointer (some ⟨N, 0, none⟩)] w (RetRestP w g N sv key wh e0 S base nv (argP cs S.data.toList (parN cs S.data.toList f) 10 i l)) := by
  have hgN : g ≠ N := by intro e; subst e; have := hB.symm.trans hN; injection this with this; injection this with _ h; revert h; decide
  have HX := Lib.hid hx
  have HB0 := Lib.hid hb0
  have HBS := Lib.hid hbase
  have HO := Lib.hid ho
  have HNN := Lib.hid hN
  have HB := Lib.hid hB
  have HNV := Lib.hid hnv
  have HI := Lib.hid hi
  have HF := Lib.hid hf
  have HREC := Lib.hid hrec
  have n0 := hN.cell 0
  simp only [List.getElem?_toArray, List.getElem?_cons_zero] at n0
  clear hx hb0 hbase ho hN hB hnv hi hf hrec
  have hpos := par_pos cs S.data.toList f i l
  cases hr : parN cs S.data.toList f i l with
  | error r =>
    obtain ⟨k, er⟩ := r
    have HR1 := Lib.hid hr
    have HR := Lib.hid (arg_e1 (cs := cs) (T := S.data.toList) (op := 10) (by decide) hr)
    clear hr hpos
    go_enter Tryz.func48, Tryz.ntmps48
    go_wp2_with fail
    refine (pchild_any w0 g N i f 6 base sv nv l key wh e0 0 S cs _ w HREC.out HB.out HI.out HF.out HO.out hl HB0.out HBS.out HNN.out rfl hgN HNV.out).mono ?_
    rintro e w1 hret
    rw [HR1.out] at hret
    obtain ⟨hk, rfl, j0, n0, c0, A0, hn, hB⟩ := hret
    have HK1 := Lib.hid (hk)
    have HB1 := Lib.hid hB
    clear hk hB
    go_wp2
    go_ret
    rw [HR.out]
    exact ⟨HK1.out, rfl, j0, n0, c0, A0, hn, HB1.out⟩
  | ok r =>
    obtain ⟨j, l1⟩ := r
    rw [hr] at hpos
    have hij : i + 1 ≤ j := hpos
    have HR1 := Lib.hid hr
    cases hr2 : parN cs S.data.toList f j l1 with
    | error r =>
      obtain ⟨k, er⟩ := r
      have HR := Lib.hid (arg_e2 (cs := cs) (T := S.data.toList) (op := 10) (by decide) hr hr2)
      have HR2 := Lib.hid hr2
      clear hr hr2 hpos
      go_enter Tryz.func48, Tryz.ntmps48
      go_wp2_with fail
      refine (pchild_any w0 g N i f 6 base sv nv l key wh e0 0 S cs _ w HREC.out HB.out HI.out HF.out HO.out hl HB0.out HBS.out HNN.out rfl hgN HNV.out).mono ?_
      rintro e w1 hret
      rw [HR1.out] at hret
      obtain ⟨hk, rfl, hj, hl1, hl2, nv1, hB, hO, hob, hN⟩ := hret
      simp only [List.setIfInBounds_toArray, List.set_cons_zero, List.set_cons_succ] at hN
      have HK1 := Lib.hid hk
      have HB1 := Lib.hid hB
      have HO1 := Lib.hid hO
      have HOB1 := Lib.hid hob
      have HN1 := Lib.hid hN
      have HJ1 := Lib.hid hj
      clear hk hB hO hob hN hj
      have hb1 := Lib.hid (show Below w0.heap.size w0 w1 from below_kp HB0.out HK1.out (fun q h => by
        rcases h with h | h | h
        · have := HX.out.hg; omega
        · omega
        · have := (HO.out.ge h).1; have := HX.out.hb; omega) HB0.out.size)
      have hnv1 := Lib.hid (show nv1.ownBlock ≠ some N by
        intro h
        rcases HOB1.out N h with h | h
        · exact HNV.out h
        · have := HNN.out.lt; omega)
      clear n0
      go_wp2_with fail
      refine (pchild_any w0 g N j f 7 base sv nv1 l1 key wh e0 0 S cs _ w1 HREC.out HB1.out HJ1.out (by have := HF.out; omega) HO1.out hl2 hb1.out (Nat.le_trans HBS.out HK1.out.size) HN1.out rfl hgN hnv1.out).mono ?_
      rintro e w2 hret
      rw [HR2.out] at hret
      obtain ⟨hk, rfl, j0, n0, c0, A0, hn, hB⟩ := hret
      have HK2 := Lib.hid (HK1.out.then' hk (fun q hq h => by rcases h with h | h | h; exact .inl h; exact .inr (.inl h); rcases HOB1.out q h with h | h; exact .inr (.inr h); exact absurd h (by omega)))
      have HB2 := Lib.hid hB
      clear hk hB
      go_wp2
      go_ret
      rw [HR.out]
      exact ⟨HK2.out, rfl, j0, n0, c0, A0, hn, HB2.out⟩
    | ok r =>
      obtain ⟨j2, l2⟩ := r
      have HR := Lib.hid (arg_o2 (cs := cs) (T := S.data.toList) (op := 10) (by decide) hr hr2)
      have HR2 := Lib.hid hr2
      clear hr hr2 hpos
      go_enter Tryz.func48, Tryz.ntmps48
      go_wp2_with fail
      refine (pchild_any w0 g N i f 6 base sv nv l key wh e0 0 S cs _ w HREC.out HB.out HI.out HF.out HO.out hl HB0.out HBS.out HNN.out rfl hgN HNV.out).mono ?_
      rintro e w1 hret
      rw [HR1.out] at hret
      obtain ⟨hk, rfl, hj, hl1, hl2, nv1, hB, hO, hob, hN⟩ := hret
      simp only [List.setIfInBounds_toArray, List.set_cons_zero, List.set_cons_succ] at hN
      have HK1 := Lib.hid hk
      have HB1 := Lib.hid hB
      have HO1 := Lib.hid hO
      have HOB1 := Lib.hid hob
      have HN1 := Lib.hid hN
      have HJ1 := Lib.hid hj
      clear hk hB hO hob hN hj
      have hb1 := Lib.hid (show Below w0.heap.size w0 w1 from below_kp HB0.out HK1.out (fun q h => by
        rcases h with h | h | h
        · have := HX.out.hg; omega
        · omega
        · have := (HO.out.ge h).1; have := HX.out.hb; omega) HB0.out.size)
      have hnv1 := Lib.hid (show nv1.ownBlock ≠ some N by
        intro h
        rcases HOB1.out N h with h | h
        · exact HNV.out h
        · have := HNN.out.lt; omega)
      clear n0
      go_wp2_with fail
      refine (pchild_any w0 g N j f 7 base sv nv1 l1 key wh e0 0 S cs _ w1 HREC.out HB1.out HJ1.out (by have := HF.out; omega) HO1.out hl2 hb1.out (Nat.le_trans HBS.out HK1.out.size) HN1.out rfl hgN hnv1.out).mono ?_
      rintro e w2 hret
      rw [HR2.out] at hret
      obtain ⟨hk, rfl, hj2, hl3, hl4, nv2, hB, hO, hob, hN⟩ := hret
      simp only [List.setIfInBounds_toArray, List.set_cons_zero, List.set_cons_succ] at hN
      have HK2 := Lib.hid (HK1.out.then' hk (fun q hq h => by rcases h with h | h | h; exact .inl h; exact .inr (.inl h); rcases HOB1.out q h with h | h; exact .inr (.inr h); exact absurd h (by omega)))
      have HB2 := Lib.hid hB
      have HO2 := Lib.hid hO
      have HOB2 := Lib.hid (show ∀ b, nv2.ownBlock = some b → nv.ownBlock = some b ∨ w.heap.size ≤ b from fun b h => by
        rcases hob b h with h | h
        · exact HOB1.out b h
        · exact .inr (Nat.le_trans HK1.out.size h))
      have HN2 := Lib.hid hN
      clear hk hB hO hob hN
      go_wp2
      go_ret
      rw [HR.out]
      exact ⟨HK2.out, rfl, hj2, hl4, nv2, _, HB2.out, HO2.out, HOB2.out, HN2.out, World.ownsRow_nil _ _ _ _⟩
set_option maxRecDepth 100000 in
set_option maxHeartbeats 8000000 in
theorem prest11_any (w0 : World) (g N i f base : Nat) (sv nv : Value) (l : List Nd) (key wh e0 : Int) (S : ByteArray) (cs : List Col) (w : World) (hx : PCtx w0 g sv S cs base) (hrec : HNode w0 g sv key wh e0 S cs base f)
    (hB : Blk w g 54 #[sv, .int .i64 key, .string S, .int .i64 i, nv, .int .i64 wh, .int .i64 e0]) (hi : i ≤ S.size) (hf : S.size < i + f) (ho : OwnNd w base nv l) (hl : l.length ≤ 64) (hb0 : Below w0.heap.size w0 w) (hbase : base ≤ w.heap.size) (hN : Blk w N 66 #[.int .i64 11, .int .i64 0, .bool false, .int .i64 0, .string { data := #[] }, .slice none 0 0, .int .i64 0, .int .i64 0]) (hnv : nv.ownBlock ≠ some N) (hn0 : w0.heap.size ≤ N) :
    Calls Tryz.prog 48 #[.pointer (some ⟨g, 0, none⟩), .pointer (some ⟨N, 0, none⟩)] w (RetRestP w g N sv key wh e0 S base nv (argP cs S.data.toList (parN cs S.data.toList f) 11 i l)) := by
  have hgN : g ≠ N := by intro e; subst e; have := hB.symm.trans hN; injection this with this; injection this with _ h; revert h; decide
  have HX := Lib.hid hx
  have HB0 := Lib.hid hb0
  have HBS := Lib.hid hbase
  have HO := Lib.hid ho
  have HNN := Lib.hid hN
  have HB := Lib.hid hB
  have HNV := Lib.hid hnv
  have HI := Lib.hid hi
  have HF := Lib.hid hf
  have HREC := Lib.hid hrec
  have n0 := hN.cell 0
  simp only [List.getElem?_toArray, List.getElem?_cons_zero] at n0
  clear hx hb0 hbase ho hN hB hnv hi hf hrec
  cases hr : parN cs S.data.toList f i l with
  | error r =>
    obtain ⟨k, er⟩ := r
    have HR1 := Lib.hid hr
    have HR := Lib.hid (arg_n1 (cs := cs) (T := S.data.toList) hr)
    clear hr
    go_enter Tryz.func48, Tryz.ntmps48
    go_wp2_with fail
    refine (pchild_any w0 g N i f 6 base sv nv l key wh e0 0 S cs _ w HREC.out HB.out HI.out HF.out HO.out hl HB0.out HBS.out HNN.out rfl hgN HNV.out).mono ?_
    rintro e w1 hret
    rw [HR1.out] at hret
    obtain ⟨hk, rfl, j0, n0, c0, A0, hn, hB⟩ := hret
    have HK1 := Lib.hid (hk)
    have HB1 := Lib.hid hB
    clear hk hB
    go_wp2
    go_ret
    rw [HR.out]
    exact ⟨HK1.out, rfl, j0, n0, c0, A0, hn, HB1.out⟩
  | ok r =>
    obtain ⟨j, l1⟩ := r
    have HR1 := Lib.hid hr
    have HR := Lib.hid (arg_n2 (cs := cs) (T := S.data.toList) hr)
    clear hr
    go_enter Tryz.func48, Tryz.ntmps48
    go_wp2_with fail
    refine (pchild_any w0 g N i f 6 base sv nv l key wh e0 0 S cs _ w HREC.out HB.out HI.out HF.out HO.out hl HB0.out HBS.out HNN.out rfl hgN HNV.out).mono ?_
    rintro e w1 hret
    rw [HR1.out] at hret
    obtain ⟨hk, rfl, hj, hl1, hl2, nv1, hB, hO, hob, hN⟩ := hret
    simp only [List.setIfInBounds_toArray, List.set_cons_zero, List.set_cons_succ] at hN
    have HK1 := Lib.hid hk
    have HB1 := Lib.hid hB
    have HO1 := Lib.hid hO
    have HOB1 := Lib.hid hob
    have HN1 := Lib.hid hN
    have HJ1 := Lib.hid hj
    clear hk hB hO hob hN hj
    clear n0
    go_wp2
    go_ret
    rw [HR.out]
    exact ⟨HK1.out, rfl, HJ1.out, hl2, nv1, _, HB1.out, HO1.out, HOB1.out, HN1.out, World.ownsRow_nil _ _ _ _⟩
set_option maxRecDepth 100000 in
set_option maxHeartbeats 8000000 in
theorem prest8_any (w0 : World) (g N i f base : Nat) (sv nv : Value) (l : List Nd) (key wh e0 : Int) (S : ByteArray) (cs : List Col) (w : World) (hx : PCtx w0 g sv S cs base) (hrec : HNode w0 g sv key wh e0 S cs base f)
    (hB : Blk w g 54 #[sv, .int .i64 key, .string S, .int .i64 i, nv, .int .i64 wh, .int .i64 e0]) (hi : i ≤ S.size) (hf : S.size < i + f) (ho : OwnNd w base nv l) (hl : l.length ≤ 64) (hb0 : Below w0.heap.size w0 w) (hbase : base ≤ w.heap.size) (hN : Blk w N 66 #[.int .i64 8, .int .i64 0, .bool false, .int .i64 0, .string { data := #[] }, .slice none 0 0, .int .i64 0, .int .i64 0]) (hnv : nv.ownBlock ≠ some N) (hn0 : w0.heap.size ≤ N) :
    Calls Tryz.prog 48 #[.pointer (some ⟨g, 0, none⟩), .pointer (some ⟨N, 0, none⟩)] w (RetRestP w g N sv key wh e0 S base nv (argP cs S.data.toList (parN cs S.data.toList f) 8 i l)) := by
  have hgN : g ≠ N := by intro e; subst e; have := hB.symm.trans hN; injection this with this; injection this with _ h; revert h; decide
  have HX := Lib.hid hx
  have HB0 := Lib.hid hb0
  have HBS := Lib.hid hbase
  have HO := Lib.hid ho
  have HNN := Lib.hid hN
  have HB := Lib.hid hB
  have HNV := Lib.hid hnv
  have HI := Lib.hid hi
  have HF := Lib.hid hf
  have HREC := Lib.hid hrec
  have n0 := hN.cell 0
  simp only [List.getElem?_toArray, List.getElem?_cons_zero] at n0
  clear hx hb0 hbase ho hN hB hnv hi hf hrec
  have HT := Lib.hid (show i ≤ S.data.toList.length by rw [size_data]; exact HI.out)
  cases hr : colP cs S.data.toList i with
  | error r =>
    obtain ⟨k, er⟩ := r
    have HR1 := Lib.hid hr
    have HR := Lib.hid (arg_l1 (cs := cs) (T := S.data.toList) (op := 8) (i := i) (rec := parN cs S.data.toList f) (acc := l) (by omega) hr)
    clear hr
    go_enter Tryz.func48, Tryz.ntmps48
    go_wp2_with fail
    refine (pcol_any w0 g N i sv nv (.slice none 0 0) key wh e0 8 0 0 0 0 false { data := #[] } S cs w HB.out HNN.out HI.out HX.out.hS HX.out.hcs HB0.out HX.out.hg hn0 HX.out.hcl).mono ?_
    rintro e w1 hret
    rw [HR1.out] at hret
    obtain ⟨hk, rfl, j0, hB⟩ := hret
    have HK1 := Lib.hid ((hk).mono (S' := fun i => i = g ∨ i = N ∨ nv.ownBlock = some i) (fun q _ h => by rcases h with h | h; exact .inl h; exact .inr (.inl h)))
    have HB1 := Lib.hid hB
    clear hk hB
    go_wp2
    go_ret
    rw [HR.out]
    obtain ⟨A, cA, hnv, _, _⟩ := HO.out.form
    subst hnv
    exact ⟨HK1.out, rfl, j0, _, cA, A, hl, HB1.out⟩
  | ok r =>
    obtain ⟨j, K⟩ := r
    have HR1 := Lib.hid hr
    obtain ⟨c, hc⟩ := col_has hr
    have HC := Lib.hid hc
    have hju := col_upt (cs := cs) HT.out
    rw [hr] at hju
    have HJ := Lib.hid (show j ≤ S.size by rw [← size_data]; exact hju)
    clear hju
    have HR := Lib.hid (arg_l8 (cs := cs) (T := S.data.toList) (i := i) (rec := parN cs S.data.toList f) (acc := l) hr)
    clear hr hc
    go_enter Tryz.func48, Tryz.ntmps48
    go_wp2_with fail
    refine (pcol_any w0 g N i sv nv (.slice none 0 0) key wh e0 8 0 0 0 0 false { data := #[] } S cs w HB.out HNN.out HI.out HX.out.hS HX.out.hcs HB0.out HX.out.hg hn0 HX.out.hcl).mono ?_
    rintro e w1 hret
    rw [HR1.out] at hret
    obtain ⟨hk, rfl, hB, hN⟩ := hret
    have HK1 := Lib.hid hk
    have HB1 := Lib.hid hB
    have HN1 := Lib.hid hN
    have HOA := Lib.hid (HO.out.kp hk (fun b hb h => by rcases h with h | h; exact HO.out.ne HB.out (by decide) (by rw [hb, h]); exact HNV.out (by rw [hb, h])) (fun u n xs hu b hb h => by rcases h with h | h; exact own_blk_ne hu HB.out (by decide) (by rw [hb, h]); exact own_blk_ne hu HNN.out (by decide) (by rw [hb, h])))
    clear hk hB hN
    clear n0
    go_wp2
    go_ret
    rw [HR.out]
    exact ⟨(HK1.out).mono (S' := fun i => i = g ∨ i = N ∨ nv.ownBlock = some i) (fun q _ h => by rcases h with h | h; exact .inl h; exact .inr (.inl h)), rfl, HJ.out, hl, nv, _, HB1.out, HOA.out, fun b h => .inl h, HN1.out, World.ownsRow_nil _ _ _ _⟩
set_option maxRecDepth 100000 in
set_option maxHeartbeats 8000000 in
theorem prest7_any (w0 : World) (g N i f base : Nat) (sv nv : Value) (l : List Nd) (key wh e0 : Int) (S : ByteArray) (cs : List Col) (w : World) (hx : PCtx w0 g sv S cs base) (hrec : HNode w0 g sv key wh e0 S cs base f)
    (hB : Blk w g 54 #[sv, .int .i64 key, .string S, .int .i64 i, nv, .int .i64 wh, .int .i64 e0]) (hi : i ≤ S.size) (hf : S.size < i + f) (ho : OwnNd w base nv l) (hl : l.length ≤ 64) (hb0 : Below w0.heap.size w0 w) (hbase : base ≤ w.heap.size) (hN : Blk w N 66 #[.int .i64 7, .int .i64 0, .bool false, .int .i64 0, .string { data := #[] }, .slice none 0 0, .int .i64 0, .int .i64 0]) (hnv : nv.ownBlock ≠ some N) (hn0 : w0.heap.size ≤ N) :
    Calls Tryz.prog 48 #[.pointer (some ⟨g, 0, none⟩), .pointer (some ⟨N, 0, none⟩)] w (RetRestP w g N sv key wh e0 S base nv (argP cs S.data.toList (parN cs S.data.toList f) 7 i l)) := by
  have hgN : g ≠ N := by intro e; subst e; have := hB.symm.trans hN; injection this with this; injection this with _ h; revert h; decide
  have HX := Lib.hid hx
  have HB0 := Lib.hid hb0
  have HBS := Lib.hid hbase
  have HO := Lib.hid ho
  have HNN := Lib.hid hN
  have HB := Lib.hid hB
  have HNV := Lib.hid hnv
  have HI := Lib.hid hi
  have HF := Lib.hid hf
  have HREC := Lib.hid hrec
  have n0 := hN.cell 0
  simp only [List.getElem?_toArray, List.getElem?_cons_zero] at n0
  clear hx hb0 hbase ho hN hB hnv hi hf hrec
  have HT := Lib.hid (show i ≤ S.data.toList.length by rw [size_data]; exact HI.out)
  cases hr : colP cs S.data.toList i with
  | error r =>
    obtain ⟨k, er⟩ := r
    have HR1 := Lib.hid hr
    have HR := Lib.hid (arg_l1 (cs := cs) (T := S.data.toList) (op := 7) (i := i) (rec := parN cs S.data.toList f) (acc := l) (by omega) hr)
    clear hr
    go_enter Tryz.func48, Tryz.ntmps48
    go_wp2_with fail
    refine (pcol_any w0 g N i sv nv (.slice none 0 0) key wh e0 7 0 0 0 0 false { data := #[] } S cs w HB.out HNN.out HI.out HX.out.hS HX.out.hcs HB0.out HX.out.hg hn0 HX.out.hcl).mono ?_
    rintro e w1 hret
    rw [HR1.out] at hret
    obtain ⟨hk, rfl, j0, hB⟩ := hret
    have HK1 := Lib.hid ((hk).mono (S' := fun i => i = g ∨ i = N ∨ nv.ownBlock = some i) (fun q _ h => by rcases h with h | h; exact .inl h; exact .inr (.inl h)))
    have HB1 := Lib.hid hB
    clear hk hB
    go_wp2
    go_ret
    rw [HR.out]
    obtain ⟨A, cA, hnv, _, _⟩ := HO.out.form
    subst hnv
    exact ⟨HK1.out, rfl, j0, _, cA, A, hl, HB1.out⟩
  | ok r =>
    obtain ⟨j, K⟩ := r
    have HR1 := Lib.hid hr
    obtain ⟨c, hc⟩ := col_has hr
    have HC := Lib.hid hc
    have hju := col_upt (cs := cs) HT.out
    rw [hr] at hju
    have HJ := Lib.hid (show j ≤ S.size by rw [← size_data]; exact hju)
    clear hju
    cases hr2 : lstP c S.data.toList 17 j [] with
    | error r =>
      obtain ⟨k, er⟩ := r
      have HR := Lib.hid (arg_l7e (cs := cs) (T := S.data.toList) (i := i) (rec := parN cs S.data.toList f) (acc := l) hr hc hr2)
      have HR2 := Lib.hid hr2
      clear hr hr2 hc
      go_enter Tryz.func48, Tryz.ntmps48
      go_wp2_with fail
      refine (pcol_any w0 g N i sv nv (.slice none 0 0) key wh e0 7 0 0 0 0 false { data := #[] } S cs w HB.out HNN.out HI.out HX.out.hS HX.out.hcs HB0.out HX.out.hg hn0 HX.out.hcl).mono ?_
      rintro e w1 hret
      rw [HR1.out] at hret
      obtain ⟨hk, rfl, hB, hN⟩ := hret
      have HK1 := Lib.hid hk
      have HB1 := Lib.hid hB
      have HN1 := Lib.hid hN
      have HOA := Lib.hid (HO.out.kp hk (fun b hb h => by rcases h with h | h; exact HO.out.ne HB.out (by decide) (by rw [hb, h]); exact HNV.out (by rw [hb, h])) (fun u n xs hu b hb h => by rcases h with h | h; exact own_blk_ne hu HB.out (by decide) (by rw [hb, h]); exact own_blk_ne hu HNN.out (by decide) (by rw [hb, h])))
      clear hk hB hN
      have hb1 := Lib.hid (show Below w0.heap.size w0 w1 from below_kp HB0.out HK1.out (fun q h => by
        rcases h with h | h
        · have := HX.out.hg; omega
        · omega) HB0.out.size)
      clear n0
      go_wp2_with fail
      refine (plist_any w0 g N j K sv nv key wh e0 7 0 0 0 false { data := #[] } S cs c w1 HB1.out HN1.out HJ.out HX.out.hS HX.out.hcs HX.out.hE hb1.out HX.out.hg hn0 HX.out.hcl HC.out).mono ?_
      rintro e w2 hret
      rw [HR2.out] at hret
      obtain ⟨hk, rfl, j0, hB⟩ := hret
      have HK2 := Lib.hid ((HK1.out.trans hk).mono (S' := fun i => i = g ∨ i = N ∨ nv.ownBlock = some i) (fun q _ h => by rcases h with h | h; exact .inl h; exact .inr (.inl h)))
      have HB2 := Lib.hid hB
      clear hk hB
      go_wp2
      go_ret
      rw [HR.out]
      obtain ⟨A, cA, hnv, _, _⟩ := HO.out.form
      subst hnv
      exact ⟨HK2.out, rfl, j0, _, cA, A, hl, HB2.out⟩
    | ok r =>
      obtain ⟨j2, y⟩ := r
      have HR := Lib.hid (arg_l7o (cs := cs) (T := S.data.toList) (i := i) (rec := parN cs S.data.toList f) (acc := l) hr hc hr2)
      have HR2 := Lib.hid hr2
      have hju := lst_upt (c := c) (T := S.data.toList) 17 j [] (by rw [size_data]; exact HJ.out)
      rw [hr2] at hju
      have HJ2 := Lib.hid (show j2 ≤ S.size by rw [← size_data]; exact hju)
      clear hju
      clear hr hr2 hc
      go_enter Tryz.func48, Tryz.ntmps48
      go_wp2_with fail
      refine (pcol_any w0 g N i sv nv (.slice none 0 0) key wh e0 7 0 0 0 0 false { data := #[] } S cs w HB.out HNN.out HI.out HX.out.hS HX.out.hcs HB0.out HX.out.hg hn0 HX.out.hcl).mono ?_
      rintro e w1 hret
      rw [HR1.out] at hret
      obtain ⟨hk, rfl, hB, hN⟩ := hret
      have HK1 := Lib.hid hk
      have HB1 := Lib.hid hB
      have HN1 := Lib.hid hN
      have HOA := Lib.hid (HO.out.kp hk (fun b hb h => by rcases h with h | h; exact HO.out.ne HB.out (by decide) (by rw [hb, h]); exact HNV.out (by rw [hb, h])) (fun u n xs hu b hb h => by rcases h with h | h; exact own_blk_ne hu HB.out (by decide) (by rw [hb, h]); exact own_blk_ne hu HNN.out (by decide) (by rw [hb, h])))
      clear hk hB hN
      have hb1 := Lib.hid (show Below w0.heap.size w0 w1 from below_kp HB0.out HK1.out (fun q h => by
        rcases h with h | h
        · have := HX.out.hg; omega
        · omega) HB0.out.size)
      clear n0
      go_wp2_with fail
      refine (plist_any w0 g N j K sv nv key wh e0 7 0 0 0 false { data := #[] } S cs c w1 HB1.out HN1.out HJ.out HX.out.hS HX.out.hcs HX.out.hE hb1.out HX.out.hg hn0 HX.out.hcl HC.out).mono ?_
      rintro e w2 hret
      rw [HR2.out] at hret
      obtain ⟨hk, rfl, hB, lu, hN, hrow⟩ := hret
      have HK2 := Lib.hid (HK1.out.trans hk)
      have HB2 := Lib.hid hB
      have HN2 := Lib.hid hN
      have HRW := Lib.hid hrow
      have HOB := Lib.hid (HOA.out.kp hk (fun b hb h => by rcases h with h | h; exact HO.out.ne HB.out (by decide) (by rw [hb, h]); exact HNV.out (by rw [hb, h])) (fun u n xs hu b hb h => by rcases h with h | h; exact own_blk_ne hu HB1.out (by decide) (by rw [hb, h]); exact own_blk_ne hu HN1.out (by decide) (by rw [hb, h])))
      clear hk hB hN hrow
      go_wp2
      go_ret
      rw [HR.out]
      exact ⟨(HK2.out).mono (S' := fun i => i = g ∨ i = N ∨ nv.ownBlock = some i) (fun q _ h => by rcases h with h | h; exact .inl h; exact .inr (.inl h)), rfl, HJ2.out, hl, nv, _, HB2.out, HOB.out, fun b h => .inl h, HN2.out, own_mono HRW.out (Nat.le_trans HBS.out HK1.out.size)⟩
set_option maxRecDepth 100000 in
set_option maxHeartbeats 8000000 in
theorem prestV_any (w0 : World) (g N i f base o : Nat) (sv nv : Value) (l : List Nd) (key wh e0 : Int) (S : ByteArray) (cs : List Col) (w : World) (hx : PCtx w0 g sv S cs base) (hrec : HNode w0 g sv key wh e0 S cs base f)
    (hB : Blk w g 54 #[sv, .int .i64 key, .string S, .int .i64 i, nv, .int .i64 wh, .int .i64 e0]) (hi : i ≤ S.size) (hf : S.size < i + f) (ho : OwnNd w base nv l) (hl : l.length ≤ 64) (hb0 : Below w0.heap.size w0 w) (hbase : base ≤ w.heap.size) (hN : Blk w N 66 #[.int .i64 (o : Int), .int .i64 0, .bool false, .int .i64 0, .string { data := #[] }, .slice none 0 0, .int .i64 0, .int .i64 0]) (hnv : nv.ownBlock ≠ some N) (hn0 : w0.heap.size ≤ N) (h1 : 1 ≤ o) (h6 : o ≤ 6) :
    Calls Tryz.prog 48 #[.pointer (some ⟨g, 0, none⟩), .pointer (some ⟨N, 0, none⟩)] w (RetRestP w g N sv key wh e0 S base nv (argP cs S.data.toList (parN cs S.data.toList f) o i l)) := by
  have hgN : g ≠ N := by intro e; subst e; have := hB.symm.trans hN; injection this with this; injection this with _ h; revert h; decide
  have HX := Lib.hid hx
  have HB0 := Lib.hid hb0
  have HBS := Lib.hid hbase
  have HO := Lib.hid ho
  have HNN := Lib.hid hN
  have HB := Lib.hid hB
  have HNV := Lib.hid hnv
  have HI := Lib.hid hi
  have HF := Lib.hid hf
  have HREC := Lib.hid hrec
  have n0 := hN.cell 0
  simp only [List.getElem?_toArray, List.getElem?_cons_zero] at n0
  clear hx hb0 hbase ho hN hB hnv hi hf hrec
  have q7 : ((o : Int) == 7) = false := by rw [beq_eq_false_iff_ne]; omega
  have q8 : ((o : Int) == 8) = false := by rw [beq_eq_false_iff_ne]; omega
  have q9 : ((o : Int) == 9) = false := by rw [beq_eq_false_iff_ne]; omega
  have q10 : ((o : Int) == 10) = false := by rw [beq_eq_false_iff_ne]; omega
  have q11 : ((o : Int) == 11) = false := by rw [beq_eq_false_iff_ne]; omega
  have HT := Lib.hid (show i ≤ S.data.toList.length by rw [size_data]; exact HI.out)
  cases hr : colP cs S.data.toList i with
  | error r =>
    obtain ⟨k, er⟩ := r
    have HR1 := Lib.hid hr
    have HR := Lib.hid (arg_l1 (cs := cs) (T := S.data.toList) (op := o) (i := i) (rec := parN cs S.data.toList f) (acc := l) (by omega) hr)
    clear hr
    go_enter Tryz.func48, Tryz.ntmps48
    go_wp2_with fail
    refine (pcol_any w0 g N i sv nv (.slice none 0 0) key wh e0 (o : Int) 0 0 0 0 false { data := #[] } S cs w HB.out HNN.out HI.out HX.out.hS HX.out.hcs HB0.out HX.out.hg hn0 HX.out.hcl).mono ?_
    rintro e w1 hret
    rw [HR1.out] at hret
    obtain ⟨hk, rfl, j0, hB⟩ := hret
    have HK1 := Lib.hid ((hk).mono (S' := fun i => i = g ∨ i = N ∨ nv.ownBlock = some i) (fun q _ h => by rcases h with h | h; exact .inl h; exact .inr (.inl h)))
    have HB1 := Lib.hid hB
    clear hk hB
    go_wp2
    go_ret
    rw [HR.out]
    obtain ⟨A, cA, hnv, _, _⟩ := HO.out.form
    subst hnv
    exact ⟨HK1.out, rfl, j0, _, cA, A, hl, HB1.out⟩
  | ok r =>
    obtain ⟨j, K⟩ := r
    have HR1 := Lib.hid hr
    obtain ⟨c, hc⟩ := col_has hr
    have HC := Lib.hid hc
    have hju := col_upt (cs := cs) HT.out
    rw [hr] at hju
    have HJ := Lib.hid (show j ≤ S.size by rw [← size_data]; exact hju)
    clear hju
    cases hr2 : valC c S.data.toList j with
    | error r =>
      obtain ⟨k, er⟩ := r
      have HR := Lib.hid (arg_lve (cs := cs) (T := S.data.toList) (i := i) (rec := parN cs S.data.toList f) (acc := l) h6 hr hc hr2)
      have HR2 := Lib.hid hr2
      clear hr hr2 hc
      go_enter Tryz.func48, Tryz.ntmps48
      go_wp2_with fail
      refine (pcol_any w0 g N i sv nv (.slice none 0 0) key wh e0 (o : Int) 0 0 0 0 false { data := #[] } S cs w HB.out HNN.out HI.out HX.out.hS HX.out.hcs HB0.out HX.out.hg hn0 HX.out.hcl).mono ?_
      rintro e w1 hret
      rw [HR1.out] at hret
      obtain ⟨hk, rfl, hB, hN⟩ := hret
      have HK1 := Lib.hid hk
      have HB1 := Lib.hid hB
      have HN1 := Lib.hid hN
      have HOA := Lib.hid (HO.out.kp hk (fun b hb h => by rcases h with h | h; exact HO.out.ne HB.out (by decide) (by rw [hb, h]); exact HNV.out (by rw [hb, h])) (fun u n xs hu b hb h => by rcases h with h | h; exact own_blk_ne hu HB.out (by decide) (by rw [hb, h]); exact own_blk_ne hu HNN.out (by decide) (by rw [hb, h])))
      clear hk hB hN
      have hb1 := Lib.hid (show Below w0.heap.size w0 w1 from below_kp HB0.out HK1.out (fun q h => by
        rcases h with h | h
        · have := HX.out.hg; omega
        · omega) HB0.out.size)
      clear n0
      go_wp2_with fail
      refine (pval_any w0 g N j K sv nv (.slice none 0 0) key wh e0 (o : Int) 0 0 0 false { data := #[] } S cs c w1 HB1.out HN1.out HJ.out HX.out.hS HX.out.hcs HX.out.hE hb1.out HX.out.hg hn0 HX.out.hcl HC.out).mono ?_
      rintro e w2 hret
      rw [HR2.out] at hret
      obtain ⟨hk, rfl, j0, hB⟩ := hret
      have HK2 := Lib.hid ((HK1.out.trans hk).mono (S' := fun i => i = g ∨ i = N ∨ nv.ownBlock = some i) (fun q _ h => by rcases h with h | h; exact .inl h; exact .inr (.inl h)))
      have HB2 := Lib.hid hB
      clear hk hB
      go_wp2
      go_ret
      rw [HR.out]
      obtain ⟨A, cA, hnv, _, _⟩ := HO.out.form
      subst hnv
      exact ⟨HK2.out, rfl, j0, _, cA, A, hl, HB2.out⟩
    | ok r =>
      obtain ⟨j2, y⟩ := r
      have HR := Lib.hid (arg_lvo (cs := cs) (T := S.data.toList) (i := i) (rec := parN cs S.data.toList f) (acc := l) h6 hr hc hr2)
      have HR2 := Lib.hid hr2
      have hju := val_upt (c := c) (T := S.data.toList) (i := j) (by rw [size_data]; exact HJ.out)
      rw [hr2] at hju
      have HJ2 := Lib.hid (show j2 ≤ S.size by rw [← size_data]; exact hju)
      clear hju
      clear hr hr2 hc
      go_enter Tryz.func48, Tryz.ntmps48
      go_wp2_with fail
      refine (pcol_any w0 g N i sv nv (.slice none 0 0) key wh e0 (o : Int) 0 0 0 0 false { data := #[] } S cs w HB.out HNN.out HI.out HX.out.hS HX.out.hcs HB0.out HX.out.hg hn0 HX.out.hcl).mono ?_
      rintro e w1 hret
      rw [HR1.out] at hret
      obtain ⟨hk, rfl, hB, hN⟩ := hret
      have HK1 := Lib.hid hk
      have HB1 := Lib.hid hB
      have HN1 := Lib.hid hN
      have HOA := Lib.hid (HO.out.kp hk (fun b hb h => by rcases h with h | h; exact HO.out.ne HB.out (by decide) (by rw [hb, h]); exact HNV.out (by rw [hb, h])) (fun u n xs hu b hb h => by rcases h with h | h; exact own_blk_ne hu HB.out (by decide) (by rw [hb, h]); exact own_blk_ne hu HNN.out (by decide) (by rw [hb, h])))
      clear hk hB hN
      have hb1 := Lib.hid (show Below w0.heap.size w0 w1 from below_kp HB0.out HK1.out (fun q h => by
        rcases h with h | h
        · have := HX.out.hg; omega
        · omega) HB0.out.size)
      clear n0
      go_wp2_with fail
      refine (pval_any w0 g N j K sv nv (.slice none 0 0) key wh e0 (o : Int) 0 0 0 false { data := #[] } S cs c w1 HB1.out HN1.out HJ.out HX.out.hS HX.out.hcs HX.out.hE hb1.out HX.out.hg hn0 HX.out.hcl HC.out).mono ?_
      rintro e w2 hret
      rw [HR2.out] at hret
      obtain ⟨hk, rfl, hB, hN⟩ := hret
      have HK2 := Lib.hid (HK1.out.trans hk)
      have HB2 := Lib.hid hB
      have HN2 := Lib.hid hN
      have HOB := Lib.hid (HOA.out.kp hk (fun b hb h => by rcases h with h | h; exact HO.out.ne HB.out (by decide) (by rw [hb, h]); exact HNV.out (by rw [hb, h])) (fun u n xs hu b hb h => by rcases h with h | h; exact own_blk_ne hu HB1.out (by decide) (by rw [hb, h]); exact own_blk_ne hu HN1.out (by decide) (by rw [hb, h])))
      clear hk hB hN
      go_wp2
      go_ret
      rw [HR.out]
      exact ⟨(HK2.out).mono (S' := fun i => i = g ∨ i = N ∨ nv.ownBlock = some i) (fun q _ h => by rcases h with h | h; exact .inl h; exact .inr (.inl h)), rfl, HJ2.out, hl, nv, _, HB2.out, HOB.out, fun b h => .inl h, HN2.out, World.ownsRow_nil _ _ _ _⟩
end Go.Proofs.YtjnamjkdjcndiaaGreatDoor
