import Derived.Test.YtdbpkhnmhddmmaaGreatDoorRnPkX
namespace Go.Proofs.YtdbpkhnmhddmmaaGreatDoor.BoP
open Go St DgC TlS TbM TbO TbP TbQ TbU TbV TbW FrA FrB FrC LaH LaI LaP LaQ LaR BuA BuC BuD BuE BuF BuL BuN BuO BuP BuS
structure FrS (F:Fr):Prop where
 mks:MkS F
 ok:OkL F
 lay:LayF F
 n0:F.L.length≠0
section
variable {F:Fr} {T:Tb} {A B:Nat→Prop}
theorem FrS.u (h:FrS F):F.used≤191*256:=by
 have h2:=h.ok.ok.u;have h3:F.R*F.C≤256*191:=by rw[h.mks.R];exact Nat.mul_le_mul_left _ h.ok.ok.C
 omega
theorem chain_last: ∀{L:List (Nat×ByteArray)} {a b i:Nat} {x:Nat×ByteArray},Chain a L b→L[i]? =some x→i+1=L.length→x.1+x.2.size=b
 |[],a,b,i,x,_,hx,_=>by simp at hx
 |[(q,d)],a,b,i,x,h,hx,hi=>by
  obtain rfl:i=0:=by simpa using hi
  obtain rfl:(q,d)=x:=by simpa using hx
  obtain⟨h1,_,h3⟩:=h;show q+d.size=b;have h3:a+d.size=b:=h3;omega
 |(q,d)::y::t,a,b,0,x,h,hx,hi=>by simp at hi
 |(q,d)::y::t,a,b,i+1,x,h,hx,hi=>chain_last (L:=y::t) h.2.2 (by simpa using hx) (by simpa using hi)
theorem chain_cover: ∀{L:List (Nat×ByteArray)} {a b q:Nat},Chain a L b→a≤q→q<b→ ∃(i:Nat) (x:Nat×ByteArray),L[i]? =some x∧x.1≤q∧q<x.1+x.2.size
 |[],a,b,q,h,h1,h2=>by
  have:a=b:=h;omega
 |(p,d)::t,a,b,q,h,h1,h2=>by
  obtain⟨h3,_,h5⟩:=h;by_cases e:q<p+d.size
  ·exact⟨0,(p,d),rfl,by show p≤q;omega,e⟩
  ·obtain⟨i,x,h6,h7⟩:=chain_cover h5 (q:=q) (by omega) h2
   exact⟨i+1,x,by simpa using h6,h7⟩
def cvA (F:Fr) (i q:Nat):Prop:=
 (∃x,F.L[i]? =some x∧((x.1≤q∧q<x.1+x.2.size)∨(i+1=F.L.length∧F.used≤q∧q<191*256)))∨
 (∃j,i=F.L.length+j∧j<64-F.K∧(((191+j)*256≤q∧q<(191+j)*256+256)∨((191-padN F)*256≤q∧q<191*256)))
def cvB (F:Fr) (i q:Nat):Prop:= ∃x,F.L[i]? =some x∧(q=x.1∨(i+1=F.L.length∧q=F.used∧F.used<(191-padN F)*256))
theorem mk_m {i:Nat} {x:Nat×ByteArray} (hx:F.L[i]? =some x) (mac:Int):(mkL F mac)[i]? =some (gp F.L mac (decide (64-F.K=0)) i).enc:=by
 have hi:=(List.getElem?_eq_some_iff.1 hx).1;unfold mkL;rw[List.getElem?_append_left (by rw[gL_len];exact hi)];unfold gL;rw[List.getElem?_map,List.getElem?_range hi];rfl
theorem mk_f {j:Nat} (hj:j<64-F.K) (mac:Int):(mkL F mac)[F.L.length+j]? =some (cp (padN F:Nat) (parL F (64-F.K)) j).enc:=by
 unfold mkL;rw[List.getElem?_append_right (by rw[gL_len];omega),gL_len,Nat.add_sub_cancel_left];unfold cL;rw[List.getElem?_map,cps_get (by rw[parL_len];exact hj)];rfl
theorem par_get {j:Nat} (hj:j<64-F.K):(parL F (64-F.K))[j]? =some (str (FrC.colS (freshS F) (191+j))):=by
 unfold parL;rw[List.getElem?_map,List.getElem?_range hj];rfl
theorem zz_sb (k i:Nat):sb (zz k) i=0:=by
 unfold sb;by_cases h:i<k
 ·have h1:=LaQ.sb_str (List.replicate k 0) i (by simpa using h)
  unfold sb at h1;unfold zz;rw[h1];simp
 ·rw[Array.getElem?_eq_none (by have:=zz_size k;have h2:(zz k).size=(zz k).data.size:=rfl;omega)]
  rfl
theorem kn_zero (h:Kn F T A B) (hl:LayF F) (hR:F.R=256) (p k:Nat) (hp:F.used≤p) (hk:p+k≤191*256):Kn F (putS T (p:Int) (zz k)) (fun q=>A q∨(p≤q∧q<p+k)) (fun q=>B q∨(0<k∧q=p)):=by
 have hz:=zz_size k;by_cases h0:k=0
 ·have hS:putS T (p:Int) (zz k)=T:=by unfold putS;rw[if_pos (Or.inr (by omega))]
  rw[hS];exact h.congr (fun q=>⟨Or.inl,fun e=>e.elim id (fun e=>by omega)⟩) (fun q=>⟨Or.inl,fun e=>e.elim id (fun e=>by omega)⟩)
 ·have hpe:putE T.R (p:Int) (zz k)=0:=by unfold putE;rw[h.R,hz,if_neg (by omega)]
  have hS:putS T (p:Int) (zz k)={laid T p (zz k) k with st:=if p∈T.st then T.st else ins T.st (below T.st p) p}:=by
   unfold putS;rw[if_neg (by rw[hpe,hz];rintro(h|h);exact h rfl;omega),hz];rfl
  rw[hS];refine⟨h.R,fun q=>?_,fun q hq=>?_,fun q hq=>?_,fun q=>?_⟩
  ·rw[show({laid T p (zz k) k with st:=if p∈T.st then T.st else ins T.st (below T.st p) p}:Tb).is q=(laid T p (zz k) k).is q from rfl,laid_iff,h.is]
  ·show(if p≤q∧q<p+k then sb (zz k) (q-p)else T.b q)=_
   by_cases e:p≤q∧q<p+k
   ·rw[if_pos e,zz_sb,Dp_none hl hR q (by omega) (by omega)]
   ·rw[if_neg e]
    exact h.b q (hq.elim id (fun e2=>absurd e2 e))
  ·show(if p≤q∧q<p+k then sb (zz k) (q-p)else T.b q)=_
   rw[if_neg (fun e=>hq (Or.inr e))];exact h.z q (fun e=>hq (Or.inl e))
  ·show q∈(if p∈T.st then T.st else ins T.st (below T.st p) p)↔_
   rw[←h.st q];by_cases e:p∈T.st
   ·rw[if_pos e]
    exact⟨Or.inl,fun h=>h.elim id (fun e2=>e2.2▸e)⟩
   ·rw[if_neg e,ins_mem]
    exact⟨fun h=>h.elim (fun h=>Or.inr ⟨by omega,h⟩) Or.inl,fun h=>h.elim Or.inr (fun h=>Or.inl h.2)⟩
structure StepOk (F:Fr) (T:Tb) (A B:Nat→Prop) (s:ByteArray) (i:Nat):Prop where
 e:tkE 256 (-1) s=0
 f:tkF 256 (-1) s=decide (i+1=F.L.length+(64-F.K))
 k:Kn F (tkT T (-1) s) (fun q=>A q∨cvA F i q) (fun q=>B q∨cvB F i q)
theorem used_div (h:FrS F) (h0:0<F.used):padN F=191-(F.used+256-1)/256∧(F.used+256-1)/256≤191:=by
 have hu:=h.u;have h1:padN F=190-(F.used-1)/256:=by unfold padN;rw[if_neg (by omega),h.mks.R]
 rw[h1];clear h1;constructor<;>omega
theorem step_m (h:FrS F) (k:Kn F T A B) {i:Nat} {x:Nat×ByteArray} (hx:F.L[i]? =some x) {mc:Int} (hmc:0≤mc∧mc≤65535):StepOk F T A B (gp F.L mc (decide (64-F.K=0)) i).enc i:=by
 obtain⟨b,hb⟩: ∃b,decide (64-F.K=0)=b:=⟨_,rfl⟩;rw[hb];have hi:=(List.getElem?_eq_some_iff.1 hx).1;have hc:(gp F.L mc b i).chk=0:=by rw[gp_chk h.mks.good hx,if_pos hmc]
 have hM:=isM_enc hc;obtain⟨h1,h2⟩:=MpP.md_enc hc;have hg:=gp_get hx mc b;obtain⟨s,hs⟩: ∃s,(gp F.L mc b i).enc=s:=⟨_,rfl⟩;rw[hs]at hM h1 h2 ⊢;rw[hg]at h2;have hin:=chain_in h.ok.ch x (List.mem_of_getElem? hx);have hu:=h.u;have hd:=dg_size hin.2.2;have hpe:putE 256 (x.1:Int) x.2=0:=by unfold putE;rw[if_neg (by omega)]
 have hE:grmE 256 (-1) s=0:=by
  unfold grmE;rw[if_neg (by rw[h1];decide),if_neg (by rintro⟨h,_⟩;omega),h2];exact hpe
 refine⟨by unfold tkE;rw[hM];exact hE,?_,?_⟩
 ·unfold tkF grmF
  rw[hM,if_pos rfl,if_neg (by rw[hE];decide),h2];show(decide (i+1=F.L.length)&&b)=_;rw[←hb];by_cases e:64-F.K=0
  ·rw[decide_eq_true e,Bool.and_true,e];rfl
  ·rw[decide_eq_false e,Bool.and_false]
   exact(decide_eq_false (by omega)).symm
 ·have hT:tkT T (-1) s=grmT T (-1) s:=by unfold tkT;rw[hM];rfl
  rw[hT];have k1:=kn_put k h.lay h.mks.R h.ok x (List.mem_of_getElem? hx);by_cases e:i+1=F.L.length
  ·have hla:=chain_last h.ok.ch hx e
   have hen:endN s=F.used:=by unfold endN;rw[h2];show(x.1:Int).toNat+x.2.size=_;rw[Int.toNat_natCast];exact hla
   have hun:usedN 256 s=(F.used+256-1)/256:=by unfold usedN;rw[hen]
   obtain⟨p1,p2⟩:=used_div h (by omega)
   have hG:grmT T (-1) s=TbR.padS (putS (putS T (x.1:Int) x.2) (F.used:Int) (zz ((F.used+256-1)/256*256-F.used))) (padN F:Nat):=by
    unfold grmT;rw[k.R,if_neg (by rw[hE];decide),h2];dsimp only;rw[if_pos (by rw[decide_eq_true e]),hen,hun]
    congr 1
    omega
   rw[hG];have k2:=kn_zero k1 h.lay h.mks.R F.used ((F.used+256-1)/256*256-F.used) (Nat.le_refl _) (by omega);have k3:=kn_pad k2 h.lay h.mks.R h.ok;refine k3.congr (fun q=>?_) (fun q=>?_)
   ·unfold cvA
    rw[p1];have e2:191-(191-(F.used+256-1)/256)=(F.used+256-1)/256:=by omega
    rw[e2];constructor
    ·rintro(((a|a)|a)|a)
     ·exact Or.inl a
     ·exact Or.inr (Or.inl ⟨x,hx,Or.inl a⟩)
     ·exact Or.inr (Or.inl ⟨x,hx,Or.inr ⟨e,a.1,by omega⟩⟩)
     ·exact Or.inr (Or.inl ⟨x,hx,Or.inr ⟨e,by omega,a.2⟩⟩)
    ·rintro(a|⟨y,hy,a|a⟩|⟨j,a1,_⟩)
     ·exact Or.inl (Or.inl (Or.inl a))
     ·rw[hx]at hy;injection hy with hy;subst hy
      exact Or.inl (Or.inl (Or.inr a))
     ·by_cases e3:q<(F.used+256-1)/256*256
      ·exact Or.inl (Or.inr ⟨a.2.1,by omega⟩)
      ·exact Or.inr ⟨by omega,a.2.2⟩
     ·omega
   ·unfold cvB
    rw[p1];have e2:191-(191-(F.used+256-1)/256)=(F.used+256-1)/256:=by omega
    rw[e2];constructor
    ·rintro((a|a)|a)
     ·exact Or.inl a
     ·exact Or.inr ⟨x,hx,Or.inl a⟩
     ·exact Or.inr ⟨x,hx,Or.inr ⟨e,a.2,by omega⟩⟩
    ·rintro(a|⟨y,hy,a|a⟩)
     ·exact Or.inl (Or.inl a)
     ·rw[hx]at hy;injection hy with hy;subst hy
      exact Or.inl (Or.inr a)
     ·exact Or.inr ⟨by omega,a.2.1⟩
  ·have hG:grmT T (-1) s=putS T (x.1:Int) x.2:=by
    unfold grmT;rw[k.R,if_neg (by rw[hE];decide),h2];dsimp only;rw[if_neg (by rw[decide_eq_false e];decide)]
   rw[hG];refine k1.congr (fun q=>?_) (fun q=>?_)
   ·unfold cvA
    constructor
    ·rintro(a|a)
     ·exact Or.inl a
     ·exact Or.inr (Or.inl ⟨x,hx,Or.inl a⟩)
    ·rintro(a|⟨y,hy,a|a⟩|⟨j,a1,_⟩)
     ·exact Or.inl a
     ·rw[hx]at hy;injection hy with hy;subst hy
      exact Or.inr a
     ·exact absurd a.1 e
     ·omega
   ·unfold cvB
    constructor
    ·rintro(a|a)
     ·exact Or.inl a
     ·exact Or.inr ⟨x,hx,Or.inl a⟩
    ·rintro(a|⟨y,hy,a|a⟩)
     ·exact Or.inl a
     ·rw[hx]at hy;injection hy with hy;subst hy
      exact Or.inr a
     ·exact absurd a.1 e
theorem step_f (h:FrS F) (k:Kn F T A B) {j:Nat} (hj:j<64-F.K):StepOk F T A B (cp (padN F:Nat) (parL F (64-F.K)) j).enc (F.L.length+j):=by
 have hpg:=par_get hj;have hc:(cp (padN F:Nat) (parL F (64-F.K)) j).chk=0:=cp_chk h.mks.col hpg;have hF:=isF_enc hc;have hM:=isM_not hF;obtain⟨h1,h2⟩:=FcP.fd_enc hc;have hg:=cp_get hpg (padN F:Nat);obtain⟨s,hs⟩: ∃s,(cp (padN F:Nat) (parL F (64-F.K)) j).enc=s:=⟨_,rfl⟩;rw[hs]at hF hM h1 h2 ⊢;rw[hg]at h2;have hsz:(str (FrC.colS (freshS F) (191+j))).size=256:=by rw[←h.mks.R];exact par_size (List.mem_of_getElem? hpg)
 have hE:BuN.colE 256 s=0:=by
  unfold BuN.colE;rw[if_neg (by rw[h1];decide),h2];show TbR.parE 256 (j:Int) _=0;unfold TbR.parE;rw[if_neg (by omega),if_neg (by rw[hsz];decide)]
 refine⟨by unfold tkE;rw[hM,hF];exact hE,?_,?_⟩
 ·unfold tkF BuN.colF
  rw[hM,hF,if_neg (by decide),if_pos rfl,if_neg (by rw[hE];decide),h2];show decide (j+1=(parL F (64-F.K)).length)=_;rw[parL_len];by_cases e:j+1=64-F.K
  ·rw[decide_eq_true e,decide_eq_true (by omega)]
  ·rw[decide_eq_false e,decide_eq_false (by omega)]
 ·have hT:tkT T (-1) s=TbR.padS (TbR.parS T (j:Int) (str (FrC.colS (freshS F) (191+j)))) (padN F:Nat):=by
   unfold tkT BuN.colT;rw[hM,hF,if_neg (by decide),if_pos rfl,k.R,if_neg (by rw[hE];decide),h2]
  rw[hT];have k1:=kn_par k h.mks.R j (by omega);have k2:=kn_pad k1 h.lay h.mks.R h.ok;refine k2.congr (fun q=>?_) (fun q=>?_)
  ·unfold cvA
   constructor
   ·rintro((a|a)|a)
    ·exact Or.inl a
    ·exact Or.inr (Or.inr ⟨j,rfl,hj,Or.inl a⟩)
    ·exact Or.inr (Or.inr ⟨j,rfl,hj,Or.inr a⟩)
   ·rintro(a|⟨y,hy,_⟩|⟨j2,a1,_,a|a⟩)
    ·exact Or.inl (Or.inl a)
    ·have:=(List.getElem?_eq_some_iff.1 hy).1;omega
    ·obtain rfl:j=j2:=by omega
     exact Or.inl (Or.inr a)
    ·exact Or.inr a
  ·unfold cvB
   constructor
   ·intro a;exact Or.inl a
   ·rintro(a|⟨y,hy,_⟩)
    ·exact a
    ·have:=(List.getElem?_eq_some_iff.1 hy).1;omega
theorem step_any (h:FrS F) (k:Kn F T A B) {i:Nat} {s:ByteArray} {mc:Int} (hs:(mkL F mc)[i]? =some s) (hmc:0≤mc∧mc≤65535):StepOk F T A B s i:=by
 have hi:=(List.getElem?_eq_some_iff.1 hs).1;rw[mkL_len]at hi;by_cases e:i<F.L.length
 ·obtain⟨x,hx⟩: ∃x,F.L[i]? =some x:=⟨_,List.getElem?_eq_getElem e⟩
  rw[mk_m hx mc]at hs;injection hs with hs
  rw[←hs];exact step_m h k hx hmc
 ·obtain⟨j,rfl⟩: ∃j,i=F.L.length+j:=⟨i-F.L.length,by omega⟩
  rw[mk_f (by omega) mc]at hs;injection hs with hs
  rw[←hs];exact step_f h k (by omega)
end
def KnS (F:Fr) (T:Tb) (P:Nat→Prop):Prop:=Kn F T (fun q=> ∃i,i<F.L.length+(64-F.K)∧P i∧cvA F i q) (fun q=> ∃i,i<F.L.length+(64-F.K)∧P i∧cvB F i q)∧Ok T
theorem kns_empty (F:Fr):KnS F (emptyT 256) (fun _=>False):=
 ⟨(kn_empty F).congr (fun _=>⟨False.elim,fun⟨_,_,h,_⟩=>h.elim⟩) (fun _=>⟨False.elim,fun⟨_,_,h,_⟩=>h.elim⟩),LaB.empty_ok (by decide) (by decide)⟩
theorem KnS.congr {F:Fr} {T:Tb} {P Q:Nat→Prop} (h:KnS F T P) (hPQ: ∀i,P i↔Q i):KnS F T Q:=
 ⟨h.1.congr (fun _=>⟨fun⟨i,a,b,c⟩=>⟨i,a,(hPQ i).1 b,c⟩,fun⟨i,a,b,c⟩=>⟨i,a,(hPQ i).2 b,c⟩⟩) (fun _=>⟨fun⟨i,a,b,c⟩=>⟨i,a,(hPQ i).1 b,c⟩,fun⟨i,a,b,c⟩=>⟨i,a,(hPQ i).2 b,c⟩⟩),h.2⟩
theorem kns_step {F:Fr} {T:Tb} {P:Nat→Prop} (hF:FrS F) (h:KnS F T P) (hst:T.st.length≤90000) {i:Nat} {s:ByteArray} {mc:Int} (hs:(mkL F mc)[i]? =some s) (hmc:0≤mc∧mc≤65535:=by decide):
 tkE 256 (-1) s=0∧tkF 256 (-1) s=decide (i+1=F.L.length+(64-F.K))∧KnS F (tkT T (-1) s) (fun k=>P k∨k=i):=by
 have hi:=(List.getElem?_eq_some_iff.1 hs).1;rw[mkL_len]at hi;obtain⟨h1,h2,h3⟩:=step_any hF h.1 hs hmc;refine⟨h1,h2,h3.congr (fun q=>?_) (fun q=>?_),(tk_ok h.2 hst (-1) s).1⟩
 ·constructor
  ·rintro(⟨k,a,b,c⟩|a)
   ·exact⟨k,a,Or.inl b,c⟩
   ·exact⟨i,hi,Or.inr rfl,a⟩
  ·rintro⟨k,a,b|rfl,c⟩
   ·exact Or.inl ⟨k,a,b,c⟩
   ·exact Or.inr c
 ·constructor
  ·rintro(⟨k,a,b,c⟩|a)
   ·exact⟨k,a,Or.inl b,c⟩
   ·exact⟨i,hi,Or.inr rfl,a⟩
  ·rintro⟨k,a,b|rfl,c⟩
   ·exact Or.inl ⟨k,a,b,c⟩
   ·exact Or.inr c
theorem KnS.row {F:Fr} {T:Tb} {P:Nat→Prop} (hF:FrS F) (h:KnS F T P) (r:Nat) (hr:r<T.R):RowOf T r (rowC F r):=h.1.row hF.lay hF.mks.R r hr
end Go.Proofs.YtdbpkhnmhddmmaaGreatDoor.BoP
