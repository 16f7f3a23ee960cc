/-
 Arguments of a law,opened: what the walk is told of each.
-/
import Derived.Test.YtncnhcmkhgfodaaRows
import Derived.Test.YtncnhcmkhgfodaaM1
import Derived.WalkKit
import Derived.ProofKit
import Derived.OpenShut
import Derived.ShutString
import Derived.ChangeOld
import Derived.JoinedCond
namespace Go.Proofs.Ytncnhcmkhgfodaa
open Go.ChangeShapes Go.WideShapes Go.ChangeAt Go.RowKit
section
variable {H:Type} {enc:TypeId×Value→H} {P:Program} {W:World} {base:Nat} {b0:Nat}
def IsRow (k:IntKind) (w:World) (a:Option Addr) (len cap:Nat) (zs:List Int):Prop :=
 (a=none∧len=0∧cap=0∧zs=[]) ∨
 ∃ x,a=some x∧len≤cap∧cap≤maxLen∧zs.length=cap∧(∀ i,i<zs.length→w.cell? (x.add i)=some (.int k (zs.getD i 0)))∧∀ n ∈ zs,(Lit.int k n).wf=true
theorem opened_ints {k:IntKind} {t e:TypeId} {v:Value} {d:DataW H} {p:List MemPlace} (ht:P.underlying t=some (.slice e)) (he:P.underlying e=some (.int k)) (hc:P.cellsOf e=1)
  (hval:Value.okWide P W .any b0 t v) (h:DataW.Trod enc P W 0 (fun _=>true) true t v d p):∃ a len cap zs,v=.slice a len cap∧IsRow k W a len cap zs∧len≤Rows.uptoBulk d:=by
 obtain ⟨a0,len0,cap0,rfl⟩:=okWide_slice ht hval;obtain ⟨fuel,hf⟩:=h;rcases open_ints ht he hc hf with ⟨hcs,_⟩|⟨x,l,c,zs,hcs,_,hl,hm,hz,hx,hcell,hwz⟩
 ·simp[Value.cells]at hcs;obtain ⟨rfl,rfl,rfl⟩:=hcs;exact ⟨_,_,_,[],rfl,.inl ⟨rfl,rfl,rfl,rfl⟩,by omega⟩
 ·simp[Value.cells]at hcs;obtain ⟨rfl,rfl,rfl⟩:=hcs;refine ⟨_,_,_,zs,rfl,.inr ⟨_,rfl,hl,hm,by simpa using hz,hcell,hwz⟩,?_⟩
  simp only[Prod.mk.injEq]at hx;rw[hx.1];have e1:(lits (H:=H) k (zs.take len0)).length=len0:=by
   have:zs.length=cap0:=by simpa using hz
   simp[lits];omega
  have hlen:∀ l:List (DataW H),l.length≤Rows.uptoBulkAll l:=by
   intro l
   induction l with
   | nil=>simp[Rows.uptoBulkAll]
   | cons x r ih =>
    have:1≤Rows.uptoBulk x:=by
     cases x with
     | lit l=>cases l <;> simp[Rows.uptoBulk]
     | nil=>simp[Rows.uptoBulk]
     | ptr d=>simp[Rows.uptoBulk]
     | slice elems spare=>simp[Rows.uptoBulk]
     | agg parts=>simp[Rows.uptoBulk]
     | iface t d=>simp[Rows.uptoBulk]
     | map entries=>simp[Rows.uptoBulk]
     | held h=>simp[Rows.uptoBulk]
    simp only[Rows.uptoBulkAll,List.length_cons];omega
  have:=hlen (lits (H:=H) k (zs.take len0))
  simp only[Rows.uptoBulk];omega
end
end Go.Proofs.Ytncnhcmkhgfodaa
