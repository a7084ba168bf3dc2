import Derived.Test.YtibjkhepedfpiaaGreatDoorSgPkT
namespace Go.Proofs.YtibjkhepedfpiaaGreatDoor.OpS
open Go Go.RowKit Go.Deep Mem Ap Opn
section
variable {H0:Type} {enc:TypeId×Value→H0} {P:Program} {w:World} {base:Nat} {spare:Nat→Bool} {held:Bool} {α:Type}
theorem seq_of {en:α→List Value} {sz:Nat} {Q:α→Prop} {t e:TypeId} {n:Nat} {v:Value} {x:DataW H0×List MemPlace} (ht:P.underlying t=some (.slice e)) (hC:P.cellsOf e=sz) (hsz:0<sz)
 (hel: ∀(n:Nat) (cs:List Value) (x:DataW H0×List MemPlace),cs.length=sz→DataW.trod enc P w base spare held n e cs=some x→ ∃y,cs=en y∧Q y) (h:DataW.trod enc P w base spare held n t [v]=some x):
 ∃(a:Option Addr) (cap:Nat) (L:List α),v= .slice a L.length cap∧L.length≤9223372036854775807∧Seq en sz w a L∧(∀y∈L,Q y)∧(a=none→cap=0)∧(0<L.length→ ∃b o,a=some ⟨b,o,none⟩):=by
 rcases open_slice ht h with⟨h0,_⟩|⟨a,len,cap,m,n',D,Pl,hcs,_,hl,hcap,hm,_,hi⟩
 ·simp only[List.cons.injEq,and_true]at h0
  exact⟨none,0,[],h0,by simp,Seq.nil,fun y hy=>(by cases hy),fun _=>rfl,fun h=>(by simp at h)⟩
 ·simp only[List.cons.injEq,and_true]at hcs
  have hlm:len≤m:=by split at hm<;>omega
  have hall: ∀i:Fin len,∃y:α,Q y∧(∀j,j<sz→ ∃u,(en y)[j]? =some u∧w.cell? ((a.add (i*sz)).add j)=some u)∧(en y).length=sz:=by
   intro i;obtain⟨cs',hc,htr⟩:=hi i (by have:=i.isLt;omega);rw[hC]at hc;obtain⟨_,hlen,hat⟩:=World.cells?_some hc;obtain⟨y,rfl,hq⟩:=hel _ _ _ hlen htr;refine⟨y,hq,fun j hj=>⟨(en y)[j]'(by omega),List.getElem?_eq_getElem (by omega),?_⟩,hlen⟩;rw[hat j hj,List.getElem?_eq_getElem (by omega)]
  obtain⟨f,hf⟩:=Classical.axiomOfChoice hall
  have hspot:0<len→a.spot=none:=fun h0=>by
   obtain⟨u,_,hc⟩:=(hf ⟨0,h0⟩).2.1 0 hsz;have hs:=World.cell?_spot hc;obtain⟨b,o,s⟩:=a
   cases s with
   |none=>rfl
   |some q=>simp[Addr.add]at hs
  refine⟨some a,cap,List.ofFn f,by rw[hcs,List.length_ofFn],?_,fun i y hi'=>?_,fun y hy=>?_,fun h=>(by cases h),fun h=>?_⟩
  ·rw[List.length_ofFn]
   unfold maxLen at hcap;simp at hcap;omega
  ·rw[List.getElem?_ofFn]at hi'
   split at hi'
   case isFalse=>cases hi'
   rename_i hil;injection hi' with hi'
   subst hi';have hs:=hspot (by omega);obtain⟨b,o,s⟩:=a;simp only at hs;subst hs;obtain⟨_,hc,hlen⟩:=hf ⟨i,hil⟩
   have hb:b<w.heap.size:=by
    obtain⟨u,_,h0⟩:=hc 0 hsz;rw[add_at,add_at]at h0;exact World.block_lt_of_cell? w _ h0
   refine⟨b,o,rfl,hb,fun j u hj=>?_⟩;have hjl:j<sz:=by rw[←hlen];exact(List.getElem?_eq_some_iff.1 hj).1
   obtain⟨u',hu,h1⟩:=hc j hjl;rw[hj]at hu;injection hu with hu
   subst hu;rw[add_at,add_at]at h1;rw[off_eq];exact h1
  ·obtain⟨i,rfl⟩:=List.mem_ofFn.1 hy
   exact(hf i).1
  ·rw[List.length_ofFn]at h
   have hs:=hspot h;obtain⟨b,o,s⟩:=a;simp only at hs;subst hs;exact⟨b,o,rfl⟩
end
end Go.Proofs.YtibjkhepedfpiaaGreatDoor.OpS
