import Derived.Test.YtdbpkhnmhddmmaaGreatDoorRnBoP
namespace Go.Proofs.YtdbpkhnmhddmmaaGreatDoor.BoQ
open Go St DgC TlS TbM TbO TbP TbQ TbT TbU TbV TbW FrA FrB FrC LaE LaH LaI LaP LaQ LaR BoP
structure Sees2 (F:Fr) (S:Tb):Prop where
 R:S.R=256
 ok:Ok S
 b: ∀q,q<191*256→S.is q=true→S.b q=Dp F q
 st: ∀z∈S.st,(∃x∈F.L,z=x.1)∨z=F.used
section
variable {F:Fr} {S:Tb}
theorem walk3 (hl:LayF F) (hR:F.R=256) (ho:OkL F) (h:Sees2 F S): ∀(L:List (Nat×ByteArray)) (a:Nat),Chain a L F.used→(∀x∈L,x∈F.L)→(∀z∈S.st,a≤z→(∃x∈L,z=x.1)∨z=F.used)→
 (∃M:List (Nat×ByteArray),M.Sublist L∧outAt S a=M.map (fun x=>(x.1,x.2.size))∧(∀x∈M,Whole S x)∧((∀x∈L,Whole S x)→M=L)∧(∀x∈L,Whole S x→x.1∈S.st→x∈M))∧
 (∀b,b<a→dN S b=0→(∀z∈S.st,b<z→a≤z)→ ∃M:List (Nat×ByteArray),M.Sublist L∧outAt S b=M.map (fun x=>(x.1,x.2.size))∧(∀x∈M,Whole S x)∧(∀x∈L,Whole S x→x.1∈S.st→x∈M))
 |[],a,hc,_,hst=>by
  obtain rfl:a=F.used:=hc
  have hu:F.used≤191*256:=by
   have h2:=ho.ok.u;have h3:F.R*F.C≤256*191:=by rw[hR];exact Nat.mul_le_mul_left _ ho.ok.C
   omega
  have hd:dN S F.used=0:=by
   by_cases e:F.used<191*256
   ·refine dN_no ?_
    cases hi:S.is F.used with
    |false=>exact Or.inl rfl
    |true=>exact Or.inr (by rw[h.b _ e hi];exact Dp_none hl hR _ (Nat.le_refl _) e)
   ·exact dN_out (by rw[h.R];omega)
  have hno: ∀z∈S.st,F.used≤z→z=F.used:=fun z hz hle=>by
   rcases hst z hz hle with⟨x,hx,_⟩|e
   ·cases hx
   ·exact e
  have hend:outAt S F.used=[]:=outAt_end (by rw[h.R];exact hu) (by rw[hd];decide) (nxt_none fun z hz=>by
   rcases Nat.lt_or_ge F.used z with h1|h1
   ·have:=hno z hz (by omega);omega
   ·exact h1)
  refine⟨⟨[],List.Sublist.refl _,hend,fun x hx=>(by cases hx),fun _=>rfl,fun x hx=>(by cases hx)⟩,fun b hb hdb hnb=>⟨[],List.Sublist.refl _,?_,fun x hx=>(by cases hx),fun x hx=>(by cases hx)⟩⟩;by_cases hq:F.used∈S.st
  ·rw[outAt_next h.ok (by rw[h.R];omega) (by rw[hdb];decide) (nxt_some h.ok.up hq hb (fun z hz hbz=>hnb z hz hbz))]
   exact hend
  ·refine outAt_end (by rw[h.R];omega) (by rw[hdb];decide) (nxt_none fun z hz=>?_)
   rcases Nat.lt_or_ge b z with h1|h1
   ·have h2:=hnb z hz h1
    have h3:=hno z hz h2;exact absurd (h3▸hz) hq
   ·exact h1
 |(q,d)::t,a,hc,hin,hst=>by
  obtain⟨hqa,hd,hct⟩:=hc;subst hqa;have h20:=dg_size hd
  have hu:F.used≤191*256:=by
   have h2:=ho.ok.u;have h3:F.R*F.C≤256*191:=by rw[hR];exact Nat.mul_le_mul_left _ ho.ok.C
   omega
  have hcle:=chain_le hct;have hmem:=hin (q,d) (by simp)
  have hgap: ∀z∈S.st,q<z→q+d.size≤z:=fun z hz hqz=>by
   rcases hst z hz (by omega)with⟨x,hx,e⟩|e
   ·rcases List.mem_cons.1 hx with e2|hx
    ·subst e2;subst e;exact absurd hqz (Nat.lt_irrefl _)
    ·have:=(chain_in hct x hx).1;omega
   ·omega
  have hst2: ∀z∈S.st,q+d.size≤z→(∃x∈t,z=x.1)∨z=F.used:=fun z hz hle=>by
   rcases hst z hz (by omega)with⟨x,hx,e⟩|e
   ·rcases List.mem_cons.1 hx with e2|hx
    ·subst e2;subst e;omega
    ·exact Or.inl ⟨x,hx,e⟩
   ·exact Or.inr e
  obtain⟨ihM,ihN⟩:=walk3 hl hR ho h t (q+d.size) hct (fun x hx=>hin x (by simp[hx])) hst2
  have hbq: ∀j,j<d.size→S.is (q+j)=true→S.b (q+j)=sb d j:=fun j hj hi=>by
   rw[h.b _ (by omega) hi];exact Dp_gram hl hR ho (q,d) hmem j hj
  have main: ∃M:List (Nat×ByteArray),M.Sublist ((q,d)::t)∧outAt S q=M.map (fun x=>(x.1,x.2.size))∧(∀x∈M,Whole S x)∧((∀x∈(q,d)::t,Whole S x)→M=(q,d)::t)∧(∀x∈(q,d)::t,Whole S x→x.1∈S.st→x∈M):=by
   by_cases hw:Whole S (q,d)
   ·have hy:dN S q=d.size:=dN_yes hd (by rw[h.R];omega) hw (fun i hi=>hbq i hi (hw i hi))
    obtain⟨M,m1,m2,m3,m4,m5⟩:=ihM;refine⟨(q,d)::M,m1.cons_cons _,?_,?_,?_,?_⟩
    ·rw[outAt_yes h.ok (by rw[h.R];omega) (by rw[hy];omega),hy,m2]
     rfl
    ·intro x hx
     rcases List.mem_cons.1 hx with rfl|hx
     ·exact hw
     ·exact m3 x hx
    ·intro hall
     rw[m4 (fun x hx=>hall x (by simp[hx]))]
    ·intro x hx hwx hsx
     rcases List.mem_cons.1 hx with rfl|hx
     ·simp
     ·exact List.mem_cons_of_mem _ (m5 x hx hwx hsx)
   ·have hdn:dN S q=0:=by
     obtain⟨i,hi⟩:=Classical.not_forall.1 hw;obtain⟨hi,hni⟩:=Classical.not_imp.1 hi;exact dN_part hd hbq hi (by simpa using hni)
    obtain⟨M,m1,m2,m3,m5⟩:=ihN q (by omega) hdn hgap
    exact⟨M,m1.cons _,m2,m3,fun hall=>absurd (hall (q,d) (by simp)) hw,fun x hx hwx hsx=>by
     rcases List.mem_cons.1 hx with rfl|hx
     ·exact absurd hwx hw
     ·exact m5 x hx hwx hsx⟩
  refine⟨main,fun b hb hdb hnb=>?_⟩;by_cases hq:q∈S.st
  ·obtain⟨M,m1,m2,m3,_,m5⟩:=main
   refine⟨M,m1,?_,m3,m5⟩;rw[outAt_next h.ok (by rw[h.R];omega) (by rw[hdb];decide) (nxt_some h.ok.up hq hb (fun z hz hbz=>hnb z hz hbz))];exact m2
  ·obtain⟨M,m1,m2,m3,m5⟩:=ihN b (by omega) hdb (fun z hz hbz=>by
    have h1:=hnb z hz hbz;have h2:q≠z:=fun e=>hq (e▸hz);exact hgap z hz (by omega))
   exact⟨M,m1.cons _,m2,m3,fun x hx hwx hsx=>by
    rcases List.mem_cons.1 hx with rfl|hx
    ·exact absurd hsx hq
    ·exact m5 x hx hwx hsx⟩
end
structure OutOk (F:Fr) (S:Tb) (P:Nat→Prop) (M:List (Nat×ByteArray)):Prop where
 sub:M.Sublist F.L
 out:outAt S 0=M.map (fun x=>(x.1,x.2.size))
 txt: ∀x∈M,bytesL S x.1 x.2.size=bl x.2
 has: ∀(i:Nat) x,F.L[i]? =some x→P i→x∈M
theorem mended_out {F:Fr} {T:Tb} {P:Nat→Prop} (hF:FrS F) (h:KnS F T P):
 ∃M,OutOk F (mdS T (rowC F) 256) P M∧(cntF T 256=0→M=F.L):=by
 have hR:=h.1.R
 have hB: ∀z,(∃i,i<F.L.length+(64-F.K)∧P i∧cvB F i z)→(∃x∈F.L,z=x.1)∨z=F.used:=fun z ⟨i,_,_,x,hx,e⟩=>by
  rcases e with e|⟨_,e,_⟩
  ·exact Or.inl ⟨x,List.mem_of_getElem? hx,e⟩
  ·exact Or.inr e
 have hS:Sees2 F (mdS T (rowC F) 256):=by
  refine⟨hR,⟨h.2.R,h.2.R0,h.2.st,h.2.up,h.2.lt⟩,fun q hq hi=>?_,fun z hz=>hB z ((h.1.st z).1 hz)⟩;have hr:q%256<T.R:=by rw[hR];exact Nat.mod_lt _ (by decide)
  have hc:q/256<255:=by omega
  have hqq:q=q/256*T.R+q%256:=by rw[hR];omega
  have e1:=mdS_is T (rowC F) 256 (q%256) (q/256) hr hc;have e2:=mdS_b T (rowC F) 256 (q%256) (q/256) hr hc;rw[←hqq]at e1 e2;rw[e1]at hi;rw[e2];by_cases h2:q%256<256∧okR T (q%256)=true
  ·rw[if_pos h2,rowC_at F _ _ hc]
   rfl
  ·rw[if_neg h2]at hi ⊢
   exact h.1.b q ((h.1.is q).1 hi)
 have hu:=hF.u;obtain⟨M,m1,m2,m3,m4,m5⟩:=(walk3 hF.lay hF.mks.R hF.ok hS F.L 0 hF.ok.ch (fun x hx=>hx) (fun z hz _=>hS.st z hz)).1;refine⟨M,⟨m1,m2,fun x hx=>bytes_are (fun i hi=>?_),fun i x hx hp=>?_⟩,fun h0=>m4 (fun x hx i hi=>?_)⟩
 ·have hx2:=m1.subset hx
  have h1:=chain_in hF.ok.ch x hx2;rw[hS.b _ (by omega) (m3 x hx i hi)];exact Dp_gram hF.lay hF.mks.R hF.ok x hx2 i hi
 ·have hi:=(List.getElem?_eq_some_iff.1 hx).1
  have hmem:=List.mem_of_getElem? hx;have h1:=chain_in hF.ok.ch x hmem;refine m5 x hmem (fun j hj=>?_) ((h.1.st x.1).2 ⟨i,by omega,hp,x,hx,Or.inl rfl⟩);have hq:T.is (x.1+j)=true:=(h.1.is _).2 ⟨i,by omega,hp,Or.inl ⟨x,hx,Or.inl ⟨by omega,by omega⟩⟩⟩;have hr:(x.1+j)%256<T.R:=by rw[hR];exact Nat.mod_lt _ (by decide)
  have hqq:x.1+j=(x.1+j)/256*T.R+(x.1+j)%256:=by rw[hR];omega
  have e1:=mdS_is T (rowC F) 256 ((x.1+j)%256) ((x.1+j)/256) hr (by omega);rw[←hqq]at e1;rw[e1,hq,ite_self]
 ·have h1:=chain_in hF.ok.ch x hx
  exact mended_whole hR h0 (rowC F) _ (by omega)
theorem len_le {α:Type} (R:α→Nat→Prop): ∀(l:List α) (m:List Nat),l.Nodup→(∀a∈l,∃b∈m,R a b)→(∀a∈l,∀a'∈l,∀b,R a b→R a' b→a=a')→l.length≤m.length
 |[],_,_,_,_=>Nat.zero_le _
 |a::t,m,hn,h1,h2=>by
  obtain⟨b,hb,hr⟩:=h1 a (by simp);obtain⟨hna,hnt⟩:=List.nodup_cons.1 hn
  have ih:=len_le R t (m.erase b) hnt (fun a' ha'=>by
   obtain⟨b',hb',hr'⟩:=h1 a' (by simp[ha']);refine⟨b',(List.mem_erase_of_ne (fun e=>?_)).2 hb',hr'⟩;subst e;exact hna ((h2 a (by simp) a' (by simp[ha']) _ hr hr')▸ha')) (fun x hx y hy b=>h2 x (by simp[hx]) y (by simp[hy]) b)
  rw[List.length_erase_of_mem hb]at ih;have:=List.length_pos_of_mem hb;simp only[List.length_cons];omega
theorem take_snoc {α:Type} {l:List α} {i:Nat} {x:α} (h:l[i]? =some x):l.take (i+1)=l.take i++[x]:=by
 rw[List.take_add_one,h];rfl
end Go.Proofs.YtdbpkhnmhddmmaaGreatDoor.BoQ
