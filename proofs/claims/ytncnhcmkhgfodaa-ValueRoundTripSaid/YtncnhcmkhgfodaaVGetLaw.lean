/-
 What varint.Get answers lies in bounds.
-/
import Derived.Test.YtncnhcmkhgfodaaVarGet
namespace Go.Proofs.Ytncnhcmkhgfodaa
set_option maxRecDepth 100000 in
theorem vgetFrom_ok:∀ (l:List UInt8) (i acc:Nat),i≤10→acc<2 ^ (7 * i) →
  (vgetFrom i acc l).1<18446744073709551616∧((vgetFrom i acc l).2.2=0→i<(vgetFrom i acc l).2.1∧(vgetFrom i acc l).2.1≤i+l.length):=by
 intro l
 induction l with
 | nil=>intro i acc hi ha;unfold vgetFrom;split <;> simp
 | cons b r ih =>
  intro i acc hi ha
  have hb:=b.toNat_lt;unfold vgetFrom
  split
  ·simp
  split
  ·simp
  have hs:i=0∨i=1∨i=2∨i=3∨i=4∨i=5∨i=6∨i=7∨i=8∨i=9:=by omega
  split
  ·split
   ·simp
   ·refine ⟨?_,fun _=>by simp⟩
    rcases hs with rfl|rfl|rfl|rfl|rfl|rfl|rfl|rfl|rfl|rfl <;> (simp at ha ⊢;omega)
  ·have h:=ih (i+1) (acc+b.toNat % 128 * 2 ^ (7 * i)) (by omega) (by
    rcases hs with rfl|rfl|rfl|rfl|rfl|rfl|rfl|rfl|rfl|rfl <;> (simp at ha ⊢;omega))
   refine ⟨h.1,fun h0=>?_⟩
   have:=h.2 h0
   simp
   omega
theorem vgetAt_ok (l:List UInt8) (n:Int):∃ (v:Nat) (p e:Int),vgetAt l n=((v:Int),p,e)∧v<18446744073709551616∧(e=0→0≤n∧n<p∧p≤l.length)∧(e=0∨e=2∨e=4∨e=8∨e=10):=by
 unfold vgetAt
 split
 ·exact ⟨0,0,4,rfl,by decide,by simp,by simp⟩
 ·have h:=vgetFrom_ok (l.drop n.toNat) 0 0 (by decide) (by decide);have hE:∀ (l:List UInt8) (i acc:Nat),(vgetFrom i acc l).2.2=0∨(vgetFrom i acc l).2.2=2∨(vgetFrom i acc l).2.2=4∨(vgetFrom i acc l).2.2=8∨(vgetFrom i acc l).2.2=10:=by
   intro l
   induction l with
   | nil=>intro i acc;unfold vgetFrom;split <;> simp
   | cons b r ih =>
    intro i acc
    unfold vgetFrom
    split
    ·simp
    split
    ·simp
    split
    ·split <;> simp
    ·exact ih _ _
  refine ⟨_,_,_,rfl,h.1,fun he=>?_,hE _ _ _⟩
  have h2:=h.2 he;rw[if_pos he];have h3:(l.drop n.toNat).length=l.length - n.toNat:=List.length_drop ..;omega
end Go.Proofs.Ytncnhcmkhgfodaa
