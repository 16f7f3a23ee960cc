/-
 Where the reading of a predicate's text stops,and where ErrFull is reported.
-/
import Derived.Test.YtjnamjkdjcndiaaGreatDoorM18
namespace Go.Proofs.YtjnamjkdjcndiaaGreatDoor
set_option linter.unusedVariables false
def Pos {α:Type} (i:Nat):Except (Nat×Int) (Nat×α)→Prop
 | .ok (j,_)=>i≤j
 | .error (j,e)=>e=7→i≤j
theorem col_pos (cs:List Col) (T:List UInt8) (i:Nat):Pos i (colP cs T i):=by
 have h1:=sk_ge T i;have h2:=we_ge T (sk T i);unfold colP
 split
 ·exact fun _=>h1
 ·split
  ·exact fun _=>h1
  ·show i≤we T (sk T i);omega
theorem val_pos (c:Col) (T:List UInt8) (i:Nat):Pos i (valC c T i):=by
 have h1:=sk_ge T i;have h2:=we_ge T (sk T i);unfold valC
 split
 ·exact fun _=>h1
 ·split
  ·exact fun _=>h1
  ·show i≤we T (sk T i);omega
theorem lst_pos (c:Col) (T:List UInt8):∀ (f i:Nat) (l:List Vl),Pos i (lstP c T f i l)
 | 0,i,_=>fun h=>by cases h
 | f+1,i,l=>by
  have h1:=sk_ge T i;have h2:=we_ge T (sk T i);unfold lstP
  split
  ·split
   ·exact fun _=>h1
   ·exact h1
  ·split
   ·exact fun _=>h1
   ·split
    ·exact fun _=>h1
    ·have h3:=lst_pos c T f (we T (sk T i)) (l ++ [vlP (vparV c.ty c.sc true (wd T (sk T i))).1]);revert h3
     generalize lstP c T f (we T (sk T i)) (l ++ [vlP (vparV c.ty c.sc true (wd T (sk T i))).1])=R
     intro h3
     cases R with
     | ok r=>exact Nat.le_trans (by omega) h3
     | error r=>exact fun e=>Nat.le_trans (by omega) (h3 e)
theorem leaf_pos (cs:List Col) (T:List UInt8) (op i:Nat):Pos i (leafR cs T op i):=by
 have h1:=col_pos cs T i;unfold leafR
 revert h1
 cases colP cs T i with
 | error r=>exact fun h=>h
 | ok r =>
  obtain ⟨i2,K⟩:=r;intro h1
  show Pos i (if op=8 then _ else _)
  split
  ·exact h1
  ·cases cs[K]? with
   | none=>exact fun h=>by cases h
   | some c =>
    show Pos i (if op=7 then _ else _)
    split
    ·have h2:=lst_pos c T 17 i2 [];revert h2
     cases lstP c T 17 i2 [] with
     | error r=>exact fun h e=>Nat.le_trans h1 (h e)
     | ok r=>exact fun h=>Nat.le_trans h1 h
    ·have h2:=val_pos c T i2;revert h2
     cases valC c T i2 with
     | error r=>exact fun h e=>Nat.le_trans h1 (h e)
     | ok r=>exact fun h=>Nat.le_trans h1 h
theorem arg_pos (cs:List Col) (T:List UInt8) {rec:Nat→List Nd→Except (Nat×Int) (Nat×List Nd)} (hr:∀ i acc,Pos i (rec i acc)) (op i:Nat) (acc:List Nd):Pos i (argP cs T rec op i acc):=by
 unfold argP
 split
 ·have h1:=hr i acc;revert h1
  cases rec i acc with
  | error r=>exact fun h=>h
  | ok r =>
   obtain ⟨i2,a2⟩:=r;intro h1
   show Pos i (match rec i2 a2 with | .error e=>_ | .ok (i3,a3)=>_)
   have h2:=hr i2 a2;revert h2
   cases rec i2 a2 with
   | error r=>exact fun h e=>Nat.le_trans h1 (h e)
   | ok r=>exact fun h=>Nat.le_trans h1 h
 ·split
  ·have h1:=hr i acc;revert h1
   cases rec i acc with
   | error r=>exact fun h=>h
   | ok r=>exact fun h=>h
  ·have h1:=leaf_pos cs T op i;revert h1
   cases leafR cs T op i with
   | error r=>exact fun h=>h
   | ok r=>exact fun h=>h
theorem par_pos (cs:List Col) (T:List UInt8):∀ (f i:Nat) (acc:List Nd),Pos (i+1) (parN cs T f i acc)
 | 0,_,_=>fun h=>by cases h
 | f+1,i,acc=>by
  unfold parN
  cases h1:expP T 40 i with
  | error e =>
   unfold expP at h1
   split at h1
   ·cases h1
   ·injection h1 with h1;subst h1;exact fun h=>by cases h
  | ok i1 =>
   obtain ⟨_,_,k1,_⟩:=expP_ok h1;show Pos (i+1) (if opW (wd T (sk T i1))=0 then _ else _)
   split
   ·exact fun h=>by cases h
   ·have h2:=arg_pos cs T (rec:=parN cs T f) (fun i acc=>by
     have:=par_pos cs T f i acc
     revert this
     cases parN cs T f i acc with
     | error r=>exact fun h e=>Nat.le_trans (Nat.le_succ i) (h e)
     | ok r=>exact fun h=>Nat.le_trans (Nat.le_succ i) h) (opW (wd T (sk T i1))) (we T (sk T i1)) acc
    have g1:=sk_ge T i1;have g2:=we_ge T (sk T i1);revert h2
    cases argP cs T (parN cs T f) (opW (wd T (sk T i1))) (we T (sk T i1)) acc with
    | error r=>exact fun h e=>Nat.le_trans (by omega) (h e)
    | ok r =>
     obtain ⟨i2,x,a2⟩:=r;intro h2
     have h2:we T (sk T i1)≤i2:=h2;show Pos (i+1) (match expP T 41 i2 with | .error e=>_ | .ok i3=>_)
     cases h3:expP T 41 i2 with
     | error e =>
      unfold expP at h3
      split at h3
      ·cases h3
      ·injection h3 with h3;subst h3;exact fun h=>by cases h
     | ok i3 =>
      obtain ⟨_,_,k3,_⟩:=expP_ok h3;show Pos (i+1) (if a2.length=64 then _ else _)
      split
      ·intro _;show i+1≤i3 - 1;omega
      ·show i+1≤i3;omega
theorem parP_pos {cs:List Col} {key:Int} {T:List UInt8} (hs:schkV cs key=0) (hl:T.length≤65536) (h:(parP cs key T).2.2=7):0<(parP cs key T).2.1:=by
 have hp:=par_pos cs T (T.length+1) 0 [];unfold parP at h ⊢
 rw[if_neg (by rw[hs];simp),if_neg (by omega)]at h ⊢;by_cases h0:T.length=0
 ·rw[if_pos h0]at h;cases h
 ·rw[if_neg h0]at h ⊢;revert hp h
  cases parN cs T (T.length+1) 0 [] with
  | error r=>intro h hp;exact hp h
  | ok r =>
   obtain ⟨i,l⟩:=r;intro h hp
   show 0<(if sk T i<T.length then _ else _:List Nd×Nat×Int).2.1
   have h:(if sk T i<T.length then ([],sk T i,2) else (l,0,0):List Nd×Nat×Int).2.2=7:=h;split at h
   ·cases h
   ·cases h
/-! Within the text. -/
def Upt {α:Type} (n:Nat):Except (Nat×Int) (Nat×α)→Prop
 | .ok (j,_)=>j≤n
 | .error _=>True
theorem col_upt {cs:List Col} {T:List UInt8} {i:Nat} (h:i≤T.length):Upt T.length (colP cs T i):=by
 unfold colP
 split
 ·trivial
 ·split
  ·trivial
  ·exact we_le (sk_le h)
theorem val_upt {c:Col} {T:List UInt8} {i:Nat} (h:i≤T.length):Upt T.length (valC c T i):=by
 unfold valC
 split
 ·trivial
 ·split
  ·trivial
  ·exact we_le (sk_le h)
theorem lst_upt {c:Col} {T:List UInt8}:∀ (f i:Nat) (l:List Vl),i≤T.length→Upt T.length (lstP c T f i l)
 | 0,_,_,_=>trivial
 | f+1,i,l,h=>by
  unfold lstP
  split
  ·split
   ·trivial
   ·exact sk_le h
  ·split
   ·trivial
   ·split
    ·trivial
    ·exact lst_upt f _ _ (we_le (sk_le h))
theorem findC_some {l:List Col} {x:ByteArray} (h:¬ findC l x<0):∃ c,l[(findC l x).toNat]?=some c:=by
 revert h
 unfold findC
 cases e:l.findIdx? (fun c=>decide (c.nm=x)) with
 | none=>intro h;exact absurd (by decide) h
 | some k =>
  intro _
  have hk:=(List.findIdx?_eq_some_iff_getElem.1 e).1;exact ⟨l[k],by show l[((k:Nat):Int).toNat]?=_;rw[Int.toNat_natCast];exact List.getElem?_eq_getElem hk⟩
theorem col_has {cs:List Col} {T:List UInt8} {i j K:Nat} (h:colP cs T i=.ok (j,K)):∃ c,cs[K]?=some c:=by
 unfold colP at h
 split at h
 ·cases h
 ·split at h
  ·cases h
  ·rename_i hf
   injection h with h
   injection h with _ h
   subst h;exact findC_some hf
end Go.Proofs.YtjnamjkdjcndiaaGreatDoor
