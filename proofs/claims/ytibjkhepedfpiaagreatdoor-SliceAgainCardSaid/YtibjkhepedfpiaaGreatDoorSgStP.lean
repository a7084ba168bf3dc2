import Derived.Test.YtibjkhepedfpiaaGreatDoorSgPkH
namespace Go.Proofs.YtibjkhepedfpiaaGreatDoor.StP
open RdP
def goS:Nat→Int→Nat→Int×Nat
 |0,s,_=>(s,0)
 |f+1,s,r=>if 183≤r then goS f (s+1) (r-184)else if 0<r then(s+1,183-r)else(s,0)
theorem goS_fuel: ∀(f g:Nat) (s:Int) (r:Nat),r<f→r<g→goS f s r=goS g s r
 |0,_,_,_,h,_=>by omega
 |_,0,_,_,_,h=>by omega
 |f+1,g+1,s,r,hf,hg=>by
  rw[goS,goS]
  split
  ·exact goS_fuel f g (s+1) (r-184) (by omega) (by omega)
  ·rfl
def gE (s:Int) (r:Nat):Int×Nat:=goS (r+1) s r
theorem gE_big {s:Int} {r:Nat} (h:183≤r):gE s r=gE (s+1) (r-184):=by
 unfold gE;rw[goS,if_pos h];exact goS_fuel _ _ _ _ (by omega) (by omega)
theorem gE_mid {s:Int} {r:Nat} (h:0<r) (h2:r<183):gE s r=(s+1,183-r):=by
 unfold gE;rw[goS,if_neg (by omega),if_pos h]
theorem gE_0 (s:Int):gE s 0=(s,0):=rfl
def stS:Int→Nat→List Nat→List (Int×Int)
 |_,_,[]=>[]
 |s,m,n::t=>
  if n≤(if m=0 then 183 else m)then((if m=0 then s+1 else s),(if m=0 then s+1 else s))::stS (if m=0 then s+1 else s) ((if m=0 then 183 else m)-n) t
  else((if m=0 then s+1 else s),(gE (if m=0 then s+1 else s) (n-(if m=0 then 183 else m))).1)::
   stS (gE (if m=0 then s+1 else s) (n-(if m=0 then 183 else m))).1 (gE (if m=0 then s+1 else s) (n-(if m=0 then 183 else m))).2 t
theorem stS_len: ∀(l:List Nat) (s:Int) (m:Nat),(stS s m l).length=l.length
 |[],_,_=>rfl
 |n::t,s,m=>by
  rw[stS]
  repeat' split
  all_goals rw[List.length_cons,stS_len t,List.length_cons]
theorem st_0 (s:Int) (l:List Nat):stS s 0 l=stS (s+1) 183 l:=by
 cases l with
 |nil=>rfl
 |cons n t=>rw[stS,stS];rfl
def lens (l:List Bs):List Nat:=l.map List.length
def remL (s fr:Int) (r:Bs) (l:List Bs):List (Int×Int):=
 if r=[]then stS s 0 (lens l)else(fr,(gE s r.length).1)::stS (gE s r.length).1 (gE s r.length).2 (lens l)
theorem st_rest: ∀(l:List Bs) (m:Nat) (s:Int),∃c,l.length=c+(if(dl m l).1=[]then 0 else 1)+(dl m l).2.length∧stS s m (lens l)=List.replicate c (s,s)++remL s s (dl m l).1 (dl m l).2
 |[],m,s=>⟨0,by simp[dl],by simp[dl,remL,lens,stS]⟩
 |x::t,m,s=>by
  rcases Nat.eq_zero_or_pos m with h0|h0
  ·subst h0
   exact⟨0,by simp[dl],by simp[dl,remL]⟩
  ·have hm:m≠0:=by omega
   rcases Nat.lt_or_ge m x.length with h1|h1
   ·have hd:dl m (x::t)=(x.drop m,t):=by rw[dl,if_neg hm,if_pos h1]
    have hne:x.drop m≠[]:=by intro h;have:=congrArg List.length h;simp at this;omega
    rw[hd];refine⟨0,by show t.length+1=0+(if x.drop m=[]then 0 else 1)+t.length;rw[if_neg hne];omega,?_⟩;show stS s m (x.length::lens t)=_;rw[stS,if_neg hm,if_neg hm,if_neg (by omega)];show _=remL s s (x.drop m) t;rw[remL,if_neg hne,List.length_drop]
   ·have hd:dl m (x::t)=dl (m-x.length) t:=by rw[dl,if_neg hm,if_neg (by omega)]
    rw[hd];obtain⟨c,h2,h3⟩:=st_rest t (m-x.length) s;refine⟨c+1,by rw[List.length_cons];omega,?_⟩;show stS s m (x.length::lens t)=_;rw[stS,if_neg hm,if_neg hm,if_pos h1,h3,List.replicate_succ,List.cons_append]
theorem rem_start {r:Bs} {l:List Bs} (s fr:Int) (hs:startQ r l=true): ∃c,l.length=c+(if(dl (183-r.length) l).1=[]then 0 else 1)+(dl (183-r.length) l).2.length∧
 remL s fr r l=(if r=[]then[]else[(fr,s+1)])++List.replicate c (s+1,s+1)++remL (s+1) (s+1) (dl (183-r.length) l).1 (dl (183-r.length) l).2:=by
 obtain⟨c,h1,h2⟩:=st_rest l (183-r.length) (s+1)
 have hr:r.length<183:=by
  unfold startQ at hs;simp at hs;omega
 refine⟨c,h1,?_⟩;rw[List.append_assoc,←h2];unfold remL;by_cases h0:r=[]
 ·subst h0
  rw[if_pos rfl,if_pos rfl,List.nil_append];exact st_0 s _
 ·rw[if_neg h0,if_neg h0]
  have hp:0<r.length:=List.length_pos_iff.2 h0;rw[gE_mid hp hr];rfl
theorem rem_cont {r:Bs} {l:List Bs} (s fr:Int) (hs:startQ r l=false):r≠[]∧remL s fr r l=(if r.drop 184=[]then[(fr,s+1)]else[])++remL (s+1) fr (r.drop 184) l:=by
 have hr:183≤r.length∨(0<r.length∧l=[]):=by
  unfold startQ at hs;simp at hs;rcases Nat.lt_or_ge r.length 183 with h|h
  ·right
   have:=hs h
   exact⟨by cases r with
    |nil=>simp at this
    |cons=>simp,this.2⟩
  ·exact Or.inl h
 have h0:r≠[]:=by rintro rfl;simp at hr
 refine⟨h0,?_⟩;have hd:r.drop 184=[]↔r.length≤184:=List.drop_eq_nil_iff;unfold remL;rw[if_neg h0];rcases Nat.lt_or_ge r.length 183 with h|h
 ·obtain⟨h1,h2⟩:0<r.length∧l=[]:=by rcases hr with hr|hr;(exact absurd hr (by omega));exact hr
  subst h2;rw[if_pos (hd.2 (by omega)),if_pos (hd.2 (by omega)),gE_mid h1 h];rfl
 ·rw[gE_big h]
  by_cases h1:r.length≤184
  ·rw[if_pos (hd.2 h1),if_pos (hd.2 h1),show r.length-184=0 by omega,gE_0]
   rfl
  ·rw[if_neg (fun e=>h1 (hd.1 e)),if_neg (fun e=>h1 (hd.1 e)),List.length_drop,List.nil_append]
structure Ss where
 sl:List Int
 en:List Int
 held:Bs
 fr:Int
def hdQ (h:Bs) (start:Bool) (b:Bs):Bs:=h++if start then(b.drop 1).take (b.getD 0 0).toNat else b
def rsQ (b:Bs):List Bs×Bs:=rdRest ((b.drop ((b.getD 0 0).toNat+1)).length+1) (b.drop ((b.getD 0 0).toNat+1))
def ssStep (s:Ss) (i:Int) (start:Bool) (b:Bs):Ss:=
 if start then
  ⟨(s.sl++if done (hdQ s.held start b)then[s.fr]else[])++(rsQ b).1.map (fun _=>i),(s.en++if done (hdQ s.held start b)then[i]else[])++(rsQ b).1.map (fun _=>i),(rsQ b).2,if(rsQ b).1=[]∧(rsQ b).2=[]then s.fr else i⟩
 else
  ⟨s.sl++if done (hdQ s.held start b)then[s.fr]else[],s.en++if done (hdQ s.held start b)then[i]else[],if done (hdQ s.held start b)then[]else hdQ s.held start b,s.fr⟩
def ssI (L:List Bs) (s0:Ss) (i0:Int):Nat→Ss
 |0=>s0
 |k+1=>ssStep (ssI L s0 i0 k) (i0+k) (startQ (stQ L k).1 (stQ L k).2) (bodyQ (stQ L k).1 (stQ L k).2)
theorem start_facts {r:Bs} {l:List Bs} (hs:startQ r l=true):((bodyQ r l).getD 0 0).toNat=r.length∧((bodyQ r l).drop 1).take r.length=r∧
 ∃q,(q=0∨l.flatten.length≤183-r.length)∧(bodyQ r l).drop (r.length+1)=l.flatten.take (183-r.length)++List.replicate q 255:=by
 have hr:r.length<183:=by
  unfold startQ at hs;simp at hs;omega
 have hb:bodyQ r l=(UInt8.ofNat r.length::(r++l.flatten).take 183)++List.replicate (184-(1+((r++l.flatten).take 183).length)) 255:=by unfold bodyQ;rw[hs,if_pos rfl]
 have hX:(r++l.flatten).take 183=r++l.flatten.take (183-r.length):=by rw[List.take_append,List.take_of_length_le (by omega)]
 obtain⟨q,hq⟩: ∃q,184-(1+((r++l.flatten).take 183).length)=q:=⟨_,rfl⟩
 have hq2:q=0∨l.flatten.length≤183-r.length:=by
  rw[←hq,List.length_take,List.length_append];omega
 rw[hq,hX]at hb;rw[hb];refine⟨?_,?_,q,hq2,?_⟩
 ·show(UInt8.ofNat r.length).toNat=_
  rw[UInt8.toNat_ofNat'];omega
 ·show((r++l.flatten.take (183-r.length))++List.replicate q 255).take r.length=r
  rw[List.append_assoc,List.take_left]
 ·show((r++l.flatten.take (183-r.length))++List.replicate q 255).drop r.length=_
  rw[List.append_assoc,List.drop_left]
theorem cont_done {h r:Bs} {l:List Bs} (hi:Inv h r l) (hs:startQ r l=false):done (h++bodyQ r l)=decide (r.drop 184=[]):=by
 have hr0:=(rem_cont 0 0 hs).1;obtain⟨y1,y2⟩:=hi.yes hr0;have hb:bodyQ r l=r.take 184++List.replicate (if r.length<183 then 184-r.length else 0) 255:=by unfold bodyQ;rw[hs,if_neg (by decide)]
 have hd:r.drop 184=[]↔r.length≤184:=List.drop_eq_nil_iff;rw[hb];rcases Nat.lt_or_ge 184 r.length with h1|h1
 ·rw[if_neg (by omega),decide_eq_false (fun e=>by have:=hd.1 e;omega)]
  have e:h++(r.take 184++List.replicate 0 (255:UInt8))=(h++r).take (h.length+184):=by
   rw[List.take_length_add_append];simp
  have hw:wh (h++(r.take 184++List.replicate 0 (255:UInt8)))=(h++r).length:=by
   rw[e,wh_take (by omega) (by simp;omega),y2.wh]
  unfold done;rw[hw];refine decide_eq_false (fun hc=>?_);have:=hc.2;rw[e,List.length_take]at this;simp at this;omega
 ·rw[decide_eq_true (hd.2 h1),List.take_of_length_le h1,←List.append_assoc]
  unfold done;rw[wh_pre y2.len rfl,y2.wh];have:=y2.len;exact decide_eq_true ⟨by omega,by simp only[List.length_append];omega⟩
theorem map_const {α:Type} (l:List α) (i:Int):l.map (fun _=>i)=List.replicate l.length i:=by
 induction l with
 |nil=>rfl
 |cons a t ih=>rw[List.map_cons,ih];rfl
theorem ss_read {L:List Bs} (hL: ∀s∈L,Sec s) (s0:Ss) (h0:s0.held=[]) (i0:Int): ∀k,(∀j,j<k→more L j)→
 (ssI L s0 i0 k).held=(rdI L k).2∧(ssI L s0 i0 k).sl++(remL (i0+k-1) (ssI L s0 i0 k).fr (stQ L k).1 (stQ L k).2).map Prod.fst=s0.sl++(stS (i0-1) 0 (lens L)).map Prod.fst∧
  (ssI L s0 i0 k).en++(remL (i0+k-1) (ssI L s0 i0 k).fr (stQ L k).1 (stQ L k).2).map Prod.snd=s0.en++(stS (i0-1) 0 (lens L)).map Prod.snd
 |0,_=>⟨h0,by simp[ssI,stQ,remL],by simp[ssI,stQ,remL]⟩
 |k+1,h=>by
  obtain⟨h1,h2,h3⟩:=ss_read hL s0 h0 i0 k (fun j hj=>h j (by omega));have hi:=(read_ok hL k (fun j hj=>h j (by omega))).1;rw[ssI,rdI,←h2,←h3];obtain⟨S,hS⟩: ∃S,ssI L s0 i0 k=S:=⟨_,rfl⟩;obtain⟨r,l,hrl⟩: ∃r l,stQ L k=(r,l):=⟨_,_,rfl⟩;have e9:stQ L (k+1)=stepQ r l:=by rw[stQ,hrl]
  rw[e9];rw[hS]at h1 ⊢;rw[hrl]at hi ⊢;dsimp only at hi ⊢;rw[←h1]at hi ⊢;obtain⟨s,hs9⟩: ∃s,i0+(k:Int)=s+1:=⟨i0+k-1,by omega⟩;rw[show i0+((k+1:Nat):Int)-1=s+1 by omega,hs9,show s+1-1=s by omega]
  cases hq:startQ r l with
  |true=>
   obtain⟨a1,a2,q,a3,a4⟩:=start_facts hq;have hro:=rest_ok l (183-r.length) q ((l.flatten.take (183-r.length)++List.replicate q (255:UInt8)).length+1) hi.l a3 (by omega);have hst:stepQ r l=dl (183-r.length) l:=by unfold stepQ;rw[hq,if_pos rfl]
   obtain⟨c,c1,c2⟩:=rem_start s S.fr hq;rw[hst,c2]
   have hrs:rsQ (bodyQ r l)=rdRest ((l.flatten.take (183-r.length)++List.replicate q (255:UInt8)).length+1) (l.flatten.take (183-r.length)++List.replicate q 255):=by
    unfold rsQ;rw[a1,a4]
   have hhd:hdQ S.held true (bodyQ r l)=S.held++r:=by unfold hdQ;rw[if_pos rfl,a1,a2]
   unfold ssStep rdPkt;rw[if_pos rfl,if_pos rfl];dsimp only;rw[hhd];rw[show rdRest _ _=rsQ (bodyQ r l)from rfl];rw[hrs];obtain⟨R,hR⟩: ∃R,rdRest ((l.flatten.take (183-r.length)++List.replicate q (255:UInt8)).length+1) (l.flatten.take (183-r.length)++List.replicate q 255)=R:=⟨_,rfl⟩;rw[hR]at hro ⊢
   have hdn:done (S.held++r)=decide (r≠[]):=by
    by_cases h0:r=[]
    ·subst h0
     have hh:=hi.no rfl;rw[hh];rfl
    ·rw[sec_done (hi.yes h0).2,decide_eq_true h0]
   obtain⟨D,hD⟩: ∃D,dl (183-r.length) l=D:=⟨_,rfl⟩;rw[hD]at hro c1 ⊢
   have hc:R.1.length=c:=by
    have h5:=congrArg List.length hro.1;rw[List.length_append,List.length_append,c1]at h5;unfold cur at h5;by_cases h6:D.1=[]
    ·rw[if_pos h6,if_pos h6]at h5;simp at h5;omega
    ·rw[if_neg h6,if_neg h6]at h5;simp at h5;omega
   have hrem: ∀fr:Int,remL (s+1) (if R.1=[]∧R.2=[]then fr else s+1) D.1 D.2=remL (s+1) (s+1) D.1 D.2:=fun fr=>by
    unfold remL;by_cases h6:D.1=[]
    ·rw[if_pos h6,if_pos h6]
    ·rw[if_neg h6,if_neg h6,if_neg (fun e=>h6 (hro.2.2 e.2))]
   rw[hrem,hdn,map_const,hc];refine⟨rfl,?_,?_⟩
   ·by_cases h0:r=[]<;>simp[h0,List.append_assoc]
   ·by_cases h0:r=[]<;>simp[h0,List.append_assoc]
  |false=>
   have hst:stepQ r l=(r.drop 184,l):=by unfold stepQ;rw[hq,if_neg (by decide)]
   obtain⟨_,c2⟩:=rem_cont s S.fr hq;have hdn:=cont_done hi hq;have hhd:hdQ S.held false (bodyQ r l)=S.held++bodyQ r l:=by unfold hdQ;rw[if_neg (by decide)]
   rw[hst,c2]
   have e1:ssStep S (s+1) false (bodyQ r l)=⟨S.sl++if done (S.held++bodyQ r l)then[S.fr]else[],S.en++if done (S.held++bodyQ r l)then[s+1]else[],if done (S.held++bodyQ r l)then[]else S.held++bodyQ r l,S.fr⟩:=by
    unfold ssStep;rw[if_neg Bool.false_ne_true,hhd]
   have e2:(rdPkt S.held false (bodyQ r l)).held=if done (S.held++bodyQ r l)then[]else S.held++bodyQ r l:=by
    unfold rdPkt;rw[if_neg Bool.false_ne_true]
   rw[e1,e2,hdn];dsimp only;refine⟨rfl,?_,?_⟩
   ·by_cases h0:r.drop 184=[]
    ·rw[if_pos (decide_eq_true h0),if_pos h0,h0];simp
    ·rw[if_neg (fun e=>h0 (of_decide_eq_true e)),if_neg h0,List.append_nil,List.nil_append]
   ·by_cases h0:r.drop 184=[]
    ·rw[if_pos (decide_eq_true h0),if_pos h0,h0];simp
    ·rw[if_neg (fun e=>h0 (of_decide_eq_true e)),if_neg h0,List.append_nil,List.nil_append]
theorem ss_end {L:List Bs} {K:Nat} (h:Bst L K) (s0:Ss) (h0:s0.held=[]) (i0:Int):
 (ssI L s0 i0 K).sl=s0.sl++(stS (i0-1) 0 (lens L)).map Prod.fst∧(ssI L s0 i0 K).en=s0.en++(stS (i0-1) 0 (lens L)).map Prod.snd∧(ssI L s0 i0 K).held=[]:=by
 obtain⟨h1,h2,h3⟩:=ss_read h.sec s0 h0 i0 K h.more;have e1:(stQ L K).1=[]:=Classical.byContradiction fun e=>h.last (Or.inl e);have e2:(stQ L K).2=[]:=Classical.byContradiction fun e=>h.last (Or.inr e);rw[e1,e2]at h2 h3;have e3: ∀a b:Int,remL a b [] []=[]:=fun a b=>rfl;rw[e3,List.map_nil,List.append_nil]at h2 h3;exact⟨h2,h3,by rw[h1,(read_end h.sec K h.more h.last).2]⟩
end Go.Proofs.YtibjkhepedfpiaaGreatDoor.StP
