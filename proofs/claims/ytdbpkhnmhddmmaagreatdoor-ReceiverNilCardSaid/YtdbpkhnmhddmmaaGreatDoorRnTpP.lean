import Derived.Test.YtdbpkhnmhddmmaaGreatDoorRnJnS
import Derived.Test.YtdbpkhnmhddmmaaGreatDoorRnPdP
import Derived.Test.YtdbpkhnmhddmmaaGreatDoorRnPkY
import Derived.Test.YtdbpkhnmhddmmaaGreatDoorRnPkCut
import Derived.Test.YtdbpkhnmhddmmaaGreatDoorRnBoQ
namespace Go.Proofs.YtdbpkhnmhddmmaaGreatDoor.TpP
open Go St BiH SeG SeC JnP JnR JnS RdP RdQ PdP PaA PaP PaR PaT PaN PaK PkP PkY TbM TbO TbQ TbW FrA FrB FrC LaH LaQ BuA BuC BuD BuE BuL BuN BuO BuP BuS BoP BoQ
theorem pa_m {p:MpA.Mp} (h:p.chk=0):paE p.enc=0:=by
 obtain⟨c,hc,_⟩:=MpP.enc_bl h;have h0:at0 p.enc 0=62:=by rw[SeP.at0_bl (c:=62) (by rw[hc];rfl)];rfl
 have he:p.enc=bytesS p.sec:=by unfold MpA.Mp.enc;rw[if_pos h]
 obtain⟨_,_,h1,h2⟩:=SeP.enc_dec (MpA.sec_ok h);rw[←he]at h1 h2;have hs:p.enc.size=p.sec.body.size+12:=by rw[he,SeP.bytes_size]
 unfold paE;rw[if_neg (by rw[h1];decide),h2,hs,if_neg (by omega),if_neg (by omega),if_neg (by rw[h0];decide)]
theorem pa_f {p:FcA.Fp} (h:p.chk=0):paE p.enc=0:=by
 obtain⟨c,hc,_⟩:=FcP.enc_bl h;have h0:at0 p.enc 0=120:=by rw[SeP.at0_bl (c:=120) (by rw[hc];rfl)];rfl
 have he:p.enc=bytesS p.sec:=by unfold FcA.Fp.enc;rw[if_pos h]
 obtain⟨_,_,h1,h2⟩:=SeP.enc_dec (FcA.sec_ok h);rw[←he]at h1 h2;have hs:p.enc.size=p.sec.body.size+12:=by rw[he,SeP.bytes_size]
 unfold paE;rw[if_neg (by rw[h1];decide),h2,hs,if_neg (by omega),if_neg (by omega),if_neg (by rw[h0];decide)]
theorem mk_pa {F:Fr} (h:FrS F) {i:Nat} {s:ByteArray} {mc:Int} (hs:(mkL F mc)[i]? =some s) (hmc:0≤mc∧mc≤65535:=by decide):paE s=0∧(isM s=true→(MpC.mdP s).mac=mc):=by
 have hi:=(List.getElem?_eq_some_iff.1 hs).1;rw[mkL_len]at hi;by_cases e:i<F.L.length
 ·obtain⟨x,hx⟩: ∃x,F.L[i]? =some x:=⟨_,List.getElem?_eq_getElem e⟩
  rw[mk_m hx mc]at hs;injection hs with hs
  have hc:(gp F.L mc (decide (64-F.K=0)) i).chk=0:=by rw[gp_chk h.mks.good hx,if_pos hmc]
  rw[←hs];exact⟨pa_m hc,fun _=>by rw[(MpP.md_enc hc).2,gp_get hx]⟩
 ·obtain⟨j,rfl⟩: ∃j,i=F.L.length+j:=⟨i-F.L.length,by omega⟩
  have hj:j<64-F.K:=by omega
  rw[mk_f hj mc]at hs;injection hs with hs
  have hc:(cp (padN F:Nat) (parL F (64-F.K)) j).chk=0:=cp_chk h.mks.col (par_get hj);rw[←hs];exact⟨pa_f hc,fun hm=>by rw[BuF.isM_not (BuF.isF_enc hc)]at hm;cases hm⟩
theorem first_all {L:List ByteArray} (h: ∀s∈L,paE s=0):firstE L=0:=by
 induction L with
 |nil=>rfl
 |cons x t ih=>
  rw[firstE,if_pos (h x (by simp))];exact ih (fun s hs=>h s (by simp[hs]))
theorem mk_all {F:Fr} (h:FrS F) {mc:Int} (hmc:0≤mc∧mc≤65535:=by decide): ∀s∈mkL F mc,paE s=0:=fun s hs=>by
 obtain⟨i,hi⟩:=List.mem_iff_getElem?.1 hs;exact(mk_pa h hi hmc).1
theorem sec_of {s:ByteArray} (h:paE s=0):Sec (bl s):=by
 obtain⟨h1,h2,h3,h4⟩:=paE_ok h;have e: ∀k,((bl s).getD k 0).toNat=at0 s k:=fun k=>by unfold at0 bl;simp[List.getD]
 refine⟨by rw[bl_len];exact h4,?_,fun t ht=>h3 ?_⟩
 ·unfold RdP.wh
  rw[bl_len,if_neg (by omega),e,e];unfold needN at h2;rw[if_pos h1]at h2;unfold nN at h2;omega
 ·rw[←e,ht];rfl
theorem gd_of {s:ByteArray} (h:paE s=0):Gd (bl s):=⟨sec_of h,fun hb=>by
 rw[str_bl]at hb;obtain⟨h1,_,_,h4⟩:=paE_ok h;unfold needE at h1;rw[if_neg (by omega),if_pos hb]at h1
 cases h1⟩
theorem bst_of {S:List ByteArray} (h: ∀s∈S,paE s=0):Bst (S.map bl) (nP (S.map ByteArray.size)):=by
 have hp:=size_pos h;have hs:=nP_steps (S.map ByteArray.size)
 have key: ∀k,(¬more (S.map bl) k)↔(S.map ByteArray.size).sum≤pos (S.map ByteArray.size) k:=fun k=>by
  rw[←stI_end hp k];have e:=st_q S k;have e1:bl (stI S k).1=(stQ (S.map bl) k).1:=congrArg Prod.fst e;have e2:(stI S k).2.map bl=(stQ (S.map bl) k).2:=congrArg Prod.snd e;unfold more;rw[←e1,←e2];have l1:(stI S k).1.size=0↔bl (stI S k).1=[]:=by rw[←bl_len];exact List.length_eq_zero_iff
  rw[l1];simp[not_or]
 refine⟨fun s hs'=>?_,fun j hj=>?_,?_⟩
 ·obtain⟨t,ht,rfl⟩:=List.mem_map.1 hs'
  exact sec_of (h t ht)
 ·exact Classical.byContradiction fun hc=>by have:=(key j).1 hc;have:=hs.2 j hj;omega
 ·exact(key _).2 hs.1
def byt (pid:Int) (c:Nat) (S:List ByteArray) (k:Nat):Bs:=pkBy (pkI pid c S k)
def nilB:Bs:=pkBy nilPk
theorem pkI_ok {pid:Int} (hp:0≤pid∧pid<8191) (c:Nat) (S:List ByteArray) (k:Nat) (hm:more (S.map bl) k):PkOk (pkI pid c S k):=
 ⟨⟨hp.1,by have:(pkI pid c S k).pid=pid:=rfl;omega⟩,by have:(pkI pid c S k).count=(((c+k)%16:Nat):Int):=rfl;omega,(pkO_ok hp c S k hm).2⟩
theorem byt_len {pid:Int} (hp:0≤pid∧pid<8191) (c:Nat) (S:List ByteArray) (k:Nat) (hm:more (S.map bl) k):(byt pid c S k).length=188:=pkBy_len (pkI_ok hp c S k hm)
theorem byt_dp {pid:Int} (hp:0≤pid∧pid<8191) (c:Nat) (S:List ByteArray) (k:Nat) (hm:more (S.map bl) k):dpE (str (byt pid c S k))=0∧dpP (str (byt pid c S k))=pkO pid c S k:=by
 obtain⟨h1,h2,h3⟩:=pkI_ok hp c S k hm;have h:=dp_pk (pid:=(pkI pid c S k).pid.toNat) (count:=(pkI pid c S k).count.toNat) (start:=(pkI pid c S k).start) (body:=bl (pkI pid c S k).body) (by omega) (by omega) (by rw[bl_len];exact h3);rw[show(((pkI pid c S k).pid.toNat:Nat):Int)=(pkI pid c S k).pid by omega,show(((pkI pid c S k).count.toNat:Nat):Int)=(pkI pid c S k).count by omega,str_bl]at h;exact h
def blk (pid:Int) (c:Nat) (S:List ByteArray) (tw:List Int) (k:Nat):List Bs:=byt pid c S k::(tw.filter (fun x=>x==(k:Int))).flatMap (fun _=>[byt pid c S k,nilB])
def outs (S:List ByteArray) (k:Nat):List ByteArray:=(rdI (S.map bl) k).1.map str
def newO (S:List ByteArray) (k:Nat):List ByteArray:=(rdPkt (rdI (S.map bl) k).2 (startQ (stQ (S.map bl) k).1 (stQ (S.map bl) k).2) (bodyQ (stQ (S.map bl) k).1 (stQ (S.map bl) k).2)).texts.map str
theorem outs_succ (S:List ByteArray) (k:Nat):outs S (k+1)=outs S k++newO S k:=by
 unfold outs newO;rw[rdI,List.map_append]
theorem map_sb (S:List ByteArray):(S.map bl).map str=S:=by
 rw[List.map_map]
 conv=>rhs;rw[←List.map_id S]
 exact List.map_congr_left (fun s _=>str_bl s)
theorem outs_end {S:List ByteArray} (h: ∀s∈S,paE s=0):outs S (nP (S.map ByteArray.size))=S:=by
 obtain⟨h1,h2,h3⟩:=bst_of h;unfold outs;rw[(read_end h1 _ h2 h3).1,map_sb]
theorem jn_new {pid:Int} (hp:0≤pid∧pid<8191) (c:Nat) {S:List ByteArray} (h: ∀s∈S,paE s=0) {k:Nat} (hk:k<nP (S.map ByteArray.size)):feed (jnK pid c S k) (dpP (str (byt pid c S k)))=⟨newO S k,0,jnK pid c S (k+1)⟩:=by
 have hb:=bst_of h;obtain⟨_,hf⟩:=jk_all hp c (fun s hs=>gd_of (h s hs)) (k+1) (fun j hj=>hb.more j (by omega));have hf:=hf k rfl;rw[(byt_dp hp c S k (hb.more k hk)).2];have e1:=hf.e;have e2:=hf.o;show feed (jnK pid c S k) (pkO pid c S k)=⟨newO S k,0,(feed (jnK pid c S k) (pkO pid c S k)).j⟩;unfold newO;rw[←e1,←e2]
theorem all_known {F:Fr} {T:Tb} {P:Nat→Prop} (hF:FrS F) (h:KnS F T P) (hall: ∀i,i<F.L.length+(64-F.K)→P i):cntF T 256=0:=by
 have hR:=h.1.R;have hu:=hF.u;have hK:=hF.mks.K;unfold cntF;rw[List.length_eq_zero_iff,List.filter_eq_nil_iff];intro r hr;have hr:=List.mem_range.1 hr
 have main:(lostL T r).length≤((List.range F.K).map (fun j=>191+(64-F.K)+j)).length:=by
  refine len_le (fun c y=>y=c) _ _ (List.nodup_range.filter _) (fun c hc=>?_) (fun c hc c' hc' y h1 h2=>h1.symm.trans h2);obtain⟨hc1,hc2⟩:=List.mem_filter.1 hc;have hc1:=List.mem_range.1 hc1;rw[hR]at hc2;have hc2:T.is (c*256+r)=false:=by simpa using hc2
  have hno: ∀i,i<F.L.length+(64-F.K)→ ¬cvA F i (c*256+r):=fun i hi ha=>by
   rw[(h.1.is _).2 ⟨i,hi,hall i hi,ha⟩]at hc2
   cases hc2
  have hge:191+(64-F.K)≤c:=by
   refine Classical.byContradiction fun hlt=>?_;by_cases e:191≤c
   ·exact hno (F.L.length+(c-191)) (by omega) (Or.inr ⟨c-191,rfl,by omega,Or.inl ⟨by omega,by omega⟩⟩)
   ·by_cases e2:c*256+r<F.used
    ·obtain⟨i,x,hx,h1,h2⟩:=chain_cover hF.ok.ch (Nat.zero_le _) e2
     have hi:=(List.getElem?_eq_some_iff.1 hx).1;exact hno i (by omega) (Or.inl ⟨x,hx,Or.inl ⟨h1,h2⟩⟩)
    ·have h0:=hF.n0
     obtain⟨x,hx⟩: ∃x,F.L[F.L.length-1]? =some x:=⟨_,List.getElem?_eq_getElem (by omega)⟩;exact hno (F.L.length-1) (by omega) (Or.inl ⟨x,hx,Or.inr ⟨by omega,by omega,by omega⟩⟩)
  exact⟨c,List.mem_map.2 ⟨c-(191+(64-F.K)),List.mem_range.2 (by omega),by omega⟩,rfl⟩
 rw[List.length_map,List.length_range]at main;unfold badR;rw[decide_eq_false (by omega)];decide
end Go.Proofs.YtdbpkhnmhddmmaaGreatDoor.TpP
