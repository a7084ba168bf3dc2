import Derived.Test.YtdbpkhnmhddmmaaGreatDoorRnJnP
import Derived.Test.YtdbpkhnmhddmmaaGreatDoorRnPkH
namespace Go.Proofs.YtdbpkhnmhddmmaaGreatDoor.JnR
open Go St BiH SeG JnP RdP
theorem at0_l (l:Bs) (i:Nat):at0 (str l) i=(l.getD i 0).toNat:=by
 unfold at0 str;rw[List.getD_eq_getElem?_getD];simp
structure Gd (s:Bs):Prop extends Sec s where
 nb: ¬nBad (str s)
theorem nb_pre {s x y:Bs} (h:3≤s.length) (e:s++x=y):nBad (str y)↔nBad (str s):=by
 subst e;unfold nBad nN;rw[at0_l,at0_l,at0_l,at0_l];have h1:(s++x).getD 1 0=s.getD 1 0:=by rw[List.getD_eq_getElem?_getD,List.getD_eq_getElem?_getD,List.getElem?_append_left (by omega)]
 have h2:(s++x).getD 2 0=s.getD 2 0:=by rw[List.getD_eq_getElem?_getD,List.getD_eq_getElem?_getD,List.getElem?_append_left (by omega)]
 rw[h1,h2]
theorem need_of {s:Bs} (h:3≤s.length) (hn: ¬nBad (str s)):needE (str s)=0∧needN (str s)=wh s:=by
 have h1:needE (str s)=0:=by unfold needE;rw[if_neg (by rw[str_size];omega),if_neg hn]
 refine⟨h1,?_⟩;unfold needN nN wh;rw[if_pos h1,if_neg (by omega),at0_l,at0_l];omega
theorem str_ext (l:Bs) (a b:Nat):(str l).extract a b=str ((l.drop a).take (b-a)):=bl_inj (by rw[ext_bl,bl_str,bl_str])
theorem tk_nil (f:Nat) (fol:Bool):tkJ (f+1) (str []) fol=([],str [],fol,0):=by rw[tkJ,if_pos (by rw[str_size];rfl)]
theorem tk_ff (f:Nat) (t:Bs) (fol:Bool):tkJ (f+1) (str (255::t)) fol=([],nob,false,0):=by
 rw[tkJ,if_neg (by rw[str_size];simp),if_pos (by rw[at0_l];rfl)]
theorem tk_part {X:Bs} (f:Nat) (fol:Bool) {c:UInt8} {t:Bs} (hX:X=c::t) (hc:c≠255) (h:X.length<3∨(3≤X.length∧ ¬nBad (str X)∧X.length<wh X)):tkJ (f+1) (str X) fol=([],str X,fol,0):=by
 have h0: ¬(str X).size=0:=by rw[str_size,hX];simp
 have h1: ¬at0 (str X) 0=255:=by
  rw[at0_l,hX];intro e;exact hc (UInt8.toNat_inj.1 (show c.toNat=(255:UInt8).toNat from e))
 rw[tkJ,if_neg h0,if_neg h1];by_cases h3:(str X).size<3
 ·rw[if_pos h3]
 ·rw[if_neg h3]
  rw[str_size]at h3;obtain⟨_,h4,h5⟩:=h.resolve_left h3;obtain⟨e1,e2⟩:=need_of (by omega) h4;rw[if_neg (by rw[e1];decide),if_pos (by rw[e2,str_size];exact h5)]
theorem tk_one {s:Bs} (f:Nat) (fol:Bool) (y:Bs) (h:Gd s):tkJ (f+1) (str (s++y)) fol=(str s::(tkJ f (str y) fol).1,(tkJ f (str y) fol).2):=by
 have h3:=h.len;have h0: ¬(str (s++y)).size=0:=by rw[str_size,List.length_append];omega
 have h1: ¬at0 (str (s++y)) 0=255:=by
  rw[at0_l];intro e
  cases s with
  |nil=>simp at h3
  |cons c t=>exact h.no t (by rw[show c=255 from UInt8.toNat_inj.1 (show c.toNat=(255:UInt8).toNat from e)])
 obtain⟨e1,e2⟩:=need_of (s:=s++y) (by rw[List.length_append];omega) (fun e=>h.nb ((nb_pre h3 rfl).1 e));rw[wh_pre h3 rfl,h.wh]at e2;rw[tkJ,if_neg h0,if_neg h1,if_neg (by rw[str_size,List.length_append];omega),if_neg (by rw[e1];decide),if_neg (by rw[e2,str_size,List.length_append];omega),e2];have a1:(str (s++y)).extract 0 s.length=str s:=by rw[str_ext];simp
 have a2:(str (s++y)).extract s.length (str (s++y)).size=str y:=by rw[str_ext,str_size];simp
 rw[a1,a2]
theorem first_ne {s:Bs} (h:Sec s) {m:Nat} (hm:0<m) (hs:m≤s.length): ∃c x,s.take m=c::x∧c≠255:=by
 cases hq:s.take m with
 |nil=>have:=congrArg List.length hq;rw[List.length_take,List.length_nil]at this;omega
 |cons c x=>
  refine⟨c,x,rfl,fun e=>?_⟩;subst e;exact h.no (x++s.drop m) (by rw[←List.cons_append,←hq,List.take_append_drop])
theorem tk_rest: ∀(l:List Bs) (m q f:Nat) (fol:Bool),(∀s∈l,Gd s)→(q=0∨l.flatten.length≤m)→(l.flatten.take m++List.replicate q (255:UInt8)).length<f→
 ∃fo,tkJ f (str (l.flatten.take m++List.replicate q 255)) fol=((rdRest f (l.flatten.take m++List.replicate q 255)).1.map str,str (rdRest f (l.flatten.take m++List.replicate q 255)).2,fo,0)∧((rdRest f (l.flatten.take m++List.replicate q 255)).2≠[]→fo=fol)
 |[],m,q,f+1,fol,_,_,_=>by
  cases q with
  |zero=>exact⟨fol,by simp[rdRest,tk_nil],fun _=>rfl⟩
  |succ q=>exact⟨false,by simp[rdRest,List.replicate_succ,tk_ff];rfl,fun h=>absurd (by simp[rdRest,List.replicate_succ]) h⟩
 |s::t,m,q,f+1,fol,hs,hq,hf=>by
  have hsec:=hs s (by simp);have h3:=hsec.len;rcases Nat.eq_zero_or_pos m with h0|h0
  ·subst h0
   have hq0:q=0:=by
    rcases hq with h|h
    ·exact h
    ·rw[List.flatten_cons,List.length_append]at h;omega
   subst hq0;exact⟨fol,by simp[rdRest,tk_nil],fun _=>rfl⟩
  ·rcases Nat.lt_or_ge m s.length with hm|hm
   ·have hq0:q=0:=by
     rcases hq with h|h
     ·exact h
     ·rw[List.flatten_cons,List.length_append]at h;omega
    subst hq0
    have e:(s::t).flatten.take m++List.replicate 0 (255:UInt8)=s.take m:=by
     rw[List.flatten_cons,List.take_append_of_le_length (by omega)];simp
    rw[e];obtain⟨c,x,hcx,hc⟩:=first_ne hsec.toSec h0 (Nat.le_of_lt hm);have hl:(s.take m).length=m:=by rw[List.length_take];omega
    have hr:rdRest (f+1) (s.take m)=([],s.take m):=by
     rw[hcx,rdRest,if_neg hc,←hcx,if_pos];rcases Nat.lt_or_ge m 3 with h|h
     ·left;unfold wh;rw[if_pos (by rw[hl];omega)]
     ·right;rw[wh_take h (by omega),hsec.wh,hl];omega
    rw[hr];refine⟨fol,tk_part f fol hcx hc ?_,fun _=>rfl⟩;rw[hl];rcases Nat.lt_or_ge m 3 with h|h
    ·exact Or.inl h
    ·exact Or.inr ⟨h,fun e=>hsec.nb ((nb_pre (s:=s.take m) (by omega) (List.take_append_drop m s)).2 e),by rw[wh_take h (by omega),hsec.wh];omega⟩
   ·have e:(s::t).flatten.take m++List.replicate q (255:UInt8)=s++(t.flatten.take (m-s.length)++List.replicate q 255):=by
     rw[List.flatten_cons,List.take_append,List.take_of_length_le hm,List.append_assoc]
    rw[e]at hf ⊢;obtain⟨fo,ih1,ih2⟩:=tk_rest t (m-s.length) q f fol (fun z hz=>hs z (by simp[hz])) (hq.imp id (fun h=>by simp at h ⊢;omega)) (by rw[List.length_append]at hf;omega);obtain⟨y,hy⟩: ∃y,t.flatten.take (m-s.length)++List.replicate q (255:UInt8)=y:=⟨_,rfl⟩;rw[hy]at hf ih1 ih2 ⊢;obtain⟨c,x,hcx,hc⟩:=first_ne hsec.toSec (m:=s.length) (by omega) (Nat.le_refl _);rw[List.take_length]at hcx;have hw:wh (s++y)=s.length:=(wh_pre h3 rfl).trans hsec.wh
    have hr:rdRest (f+1) (s++y)=(s::(rdRest f y).1,(rdRest f y).2):=by
     have:s++y=c::(x++y):=by rw[hcx];rfl
     rw[this,rdRest,if_neg hc,←this,hw,if_neg (by rw[List.length_append];omega),List.take_left,List.drop_left]
    rw[hr];exact⟨fo,by rw[tk_one f fol y hsec,ih1];rfl,ih2⟩
 |_,_,_,0,_,_,_,h=>by omega
theorem mem_mid {l A B:List Bs} {y:Bs} (h:l=A++[y]++B):y∈l:=by rw[h];simp
structure Jv (j:Jn) (h r:Bs) (l:List Bs):Prop where
 i:Inv h r l
 g: ∀s∈l,Gd s
 y:r≠[]→Gd (h++r)
 hh:j.hold=str h
 ff:h≠[]→j.fol=true
theorem str_app' (a b:Bs):str a++str b=str (a++b):=str_app a b
theorem tkJ_eq {h:ByteArray} {f:Bool} {o:List ByteArray} {x:ByteArray} {fo:Bool} {e:Int} (k:tkJ (h.size+1) h f=(o,x,fo,e)):tkO h f=o∧tkH h f=x∧tkF h f=fo∧tkE h f=e:=by
 unfold tkO tkH tkF tkE;rw[k];exact⟨rfl,rfl,rfl,rfl⟩
theorem tk_whole {s:Bs} (hs:Gd s) (k:Nat) (fol:Bool): ∃fo,tkJ ((str (s++List.replicate k (255:UInt8))).size+1) (str (s++List.replicate k 255)) fol=([str s],nob,fo,0)∧(k=0→fo=fol):=by
 have h3:=hs.len;rw[tk_one _ _ _ hs,str_size,List.length_append];obtain⟨n,hn⟩: ∃n,s.length+(List.replicate k (255:UInt8)).length=n+1:=⟨s.length+(List.replicate k (255:UInt8)).length-1,by omega⟩;rw[hn]
 cases k with
 |zero=>exact⟨fol,by rw[List.replicate_zero,tk_nil];rfl,fun _=>rfl⟩
 |succ k=>exact⟨false,by rw[List.replicate_succ,tk_ff],fun h=>by omega⟩
structure Fed (j:Jn) (p:Pk) (h:Bs) (R:Rd) (r:Bs) (l:List Bs):Prop where
 e:(feed j p).e=0
 o:(feed j p).o=R.texts.map str
 v:Jv (feed j p).j R.held r l
 c:(feed j p).j.cnt=p.count
 s:(feed j p).j.seen=p.body
 lo:(feed j p).j.lost=j.lost
 p:(feed j p).j.pid=j.pid
set_option maxHeartbeats 1600000 in
theorem jn_pkt {j:Jn} {h r:Bs} {l:List Bs} (hv:Jv j h r l) (hne:r≠[]∨l≠[]) (p:Pk) (hp:p.pid=j.pid) (hpk:pkE p=0) (hb:p.bad=false) (hst:p.start=startQ r l) (hbo:p.body=str (bodyQ r l)) (hnew: ¬(p.count=j.cnt∧p.body=j.seen)) (hgap:gap j p=false):
 Fed j p h (rdPkt h (startQ r l) (bodyQ r l)) (stepQ r l).1 (stepQ r l).2:=by
 obtain⟨q1,q2,q3⟩:=pkt_ok hv.i hne
 have hsz: ¬p.body.size=0:=by
  rw[hbo,str_size];unfold bodyQ
  split
  ·simp
  ·rename_i hs
   rw[List.length_append,List.length_take,List.length_replicate];rcases hne with h1|h1
   ·have:=List.length_pos_iff.2 h1
    split<;>omega
   ·unfold startQ at hs
    simp at hs
    have:r.length≠0:=fun e=>by
     have e2:=hs (by omega);exact h1 e2.2
    split<;>omega
 have hfd:feed j p=fd2 j p 0 j.lost j.hold j.fol:=by
  unfold feed;rw[if_neg (by rw[hpk];decide),if_neg (by rw[hp];simp),if_neg (fun e=>e.elim hsz hnew),hb,if_neg (by decide),hgap,if_neg (by decide)]
 have hgd: ∀s∈(stepQ r l).2,Gd s:=by
  unfold stepQ
  split
  ·exact fun s hs=>hv.g s ((dl_sub l _).1 s hs)
  ·exact hv.g
 cases hs:startQ r l with
 |true=>
  have hr:r.length<183:=by unfold startQ at hs;simp at hs;omega
  have hbq:bodyQ r l=(UInt8.ofNat r.length::(r++l.flatten).take 183)++List.replicate (184-(1+((r++l.flatten).take 183).length)) 255:=by unfold bodyQ;rw[hs,if_pos rfl]
  have hstp:stepQ r l=dl (183-r.length) l:=by unfold stepQ;rw[hs,if_pos rfl]
  have hX:(r++l.flatten).take 183=r++l.flatten.take (183-r.length):=by rw[List.take_append,List.take_of_length_le (by omega)]
  obtain⟨q,hq⟩: ∃q,184-(1+((r++l.flatten).take 183).length)=q:=⟨_,rfl⟩;have hq2:q=0∨l.flatten.length≤183-r.length:=by rw[←hq,List.length_take,List.length_append];omega
  rw[hq,hX]at hbq;rw[hs]at hst q1 q2 q3;rw[hstp]at q2 q3 hgd ⊢;obtain⟨b,hbb⟩: ∃b,bodyQ r l=b:=⟨_,rfl⟩;rw[hbb]at hbq hbo q1 q2 q3 ⊢
  have hn:(b.getD 0 0).toNat=r.length:=by
   rw[hbq];show(UInt8.ofNat r.length).toNat=_;rw[UInt8.toNat_ofNat'];omega
  have hbody:(b.drop 1).take r.length=r:=by
   rw[hbq];show((r++l.flatten.take (183-r.length))++List.replicate q 255).take r.length=r;rw[List.append_assoc,List.take_left]
  have hrest:b.drop (r.length+1)=l.flatten.take (183-r.length)++List.replicate q 255:=by
   rw[hbq];show((r++l.flatten.take (183-r.length))++List.replicate q 255).drop r.length=_;rw[List.append_assoc,List.drop_left]
  have hlen:r.length+1≤b.length:=by rw[hbq];simp
  have ha0:at0 p.body 0=r.length:=by rw[hbo,at0_l,hn]
  have hA:p.body.extract 1 (r.length+1)=str r:=by rw[hbo,str_ext,Nat.add_sub_cancel,hbody]
  have hB:p.body.extract (r.length+1) p.body.size=str (l.flatten.take (183-r.length)++List.replicate q 255):=by
   rw[hbo,str_ext,str_size,hrest,List.take_of_length_le];rw[←hrest,List.length_drop];exact Nat.le_refl _
  obtain⟨fo,t1,t2⟩:=tk_rest l (183-r.length) q ((l.flatten.take (183-r.length)++List.replicate q (255:UInt8)).length+1) true hv.g hq2 (by omega);rw[←str_size]at t1;obtain⟨e1,e2,e3,e4⟩:=tkJ_eq (h:=str (l.flatten.take (183-r.length)++List.replicate q 255)) (f:=true) t1;rw[str_size]at e1 e2
  have hon:onO j.hold j.fol (str r)=(if r=[]then[]else[str (h++r)])∧onE j.hold j.fol (str r) 0=0:=by
   rw[hv.hh];by_cases hr0:r=[]
   ·subst hr0
    have hh:=hv.i.no rfl;subst hh;rw[if_pos rfl];unfold onO onE
    cases j.fol with
    |false=>exact⟨rfl,rfl⟩
    |true=>
     obtain⟨f1,_,_,f4⟩:=tkJ_eq (h:=str []++str []) (f:=true) (o:=[]) (x:=str []) (fo:=true) (e:=0) (by rw[str_app'];exact tk_nil _ _);rw[if_pos rfl,if_pos rfl,f1,f4];exact⟨rfl,rfl⟩
   ·have hg:=hv.y hr0
    have hf:=hv.ff (hv.i.yes hr0).1;obtain⟨fo2,w1,_⟩:=tk_whole hg 0 true;rw[List.replicate_zero,List.append_nil]at w1;obtain⟨f1,_,_,f4⟩:=tkJ_eq w1;unfold onO onE;rw[hf,if_pos rfl,if_pos rfl,str_app',f1,f4,if_neg hr0];exact⟨rfl,rfl⟩
  have hfd3:feed j p=⟨onO j.hold j.fol (str r)++tkO (str (l.flatten.take (183-r.length)++List.replicate q 255)) true,worse (tkE (str (l.flatten.take (183-r.length)++List.replicate q 255)) true) (onE j.hold j.fol (str r) 0),⟨j.pid,tkH (str (l.flatten.take (183-r.length)++List.replicate q 255)) true,tkF (str (l.flatten.take (183-r.length)++List.replicate q 255)) true,p.count,p.body,j.lost⟩⟩:=by
   rw[hfd];unfold fd2;rw[hst,if_pos rfl];dsimp only;rw[ha0,if_neg (by rw[hbo,str_size];omega),hA,hB]
  rw[e1,e2,e3,e4,hon.1,hon.2]at hfd3
  have hR:(rdPkt h true b).texts=(if done (h++r)then[h++r]else[])++(rdRest ((l.flatten.take (183-r.length)++List.replicate q (255:UInt8)).length+1) (l.flatten.take (183-r.length)++List.replicate q 255)).1∧(rdPkt h true b).held=(rdRest ((l.flatten.take (183-r.length)++List.replicate q (255:UInt8)).length+1) (l.flatten.take (183-r.length)++List.replicate q 255)).2:=by
   unfold rdPkt;rw[if_pos rfl];dsimp only;rw[hn,hbody,hrest];exact⟨rfl,rfl⟩
  refine⟨by rw[hfd3];rfl,?_,?_,by rw[hfd3],by rw[hfd3],by rw[hfd3],by rw[hfd3]⟩
  ·rw[hfd3,hR.1,List.map_append]
   dsimp only
   congr 1
   by_cases hr0:r=[]
   ·subst hr0
    have hh:=hv.i.no rfl;subst hh;rw[if_pos rfl,if_neg (by simp[done,wh])];rfl
   ·rw[if_neg hr0,sec_done (hv.y hr0).toSec,if_pos rfl]
    rfl
  ·rw[hR.2]at q2 q3 ⊢
   rw[hfd3];refine⟨q3,hgd,fun hne2=>?_,rfl,fun h2=>t2 h2⟩;have h1:=(q3.yes hne2)
   have hmem:(rdRest ((l.flatten.take (183-r.length)++List.replicate q (255:UInt8)).length+1) (l.flatten.take (183-r.length)++List.replicate q 255)).2++(dl (183-r.length) l).1∈l:=by
    have hro:=rest_ok l (183-r.length) q ((l.flatten.take (183-r.length)++List.replicate q (255:UInt8)).length+1) (fun s hs=>(hv.g s hs).toSec) hq2 (by omega);have h5:=hro.1;unfold cur at h5;rw[if_neg hne2]at h5;exact mem_mid h5
   exact hv.g _ hmem
 |false=>
  have hr:183≤r.length∨(0<r.length∧l=[]):=by
   unfold startQ at hs;simp at hs;rcases Nat.lt_or_ge r.length 183 with h|h
   ·right
    have:=hs h
    exact⟨by cases r with
     |nil=>simp at this
     |cons=>simp,this.2⟩
   ·exact Or.inl h
  have hr0:r≠[]:=by rintro rfl;simp at hr
  obtain⟨y1,y2⟩:=hv.i.yes hr0;have hg:=hv.y hr0;have hf:=hv.ff y1;have hbq:bodyQ r l=r.take 184++List.replicate (if r.length<183 then 184-r.length else 0) 255:=by unfold bodyQ;rw[hs,if_neg (by decide)]
  have hstp:stepQ r l=(r.drop 184,l):=by unfold stepQ;rw[hs,if_neg (by decide)]
  rw[hs]at hst q1 q2 q3;rw[hstp]at q2 q3 hgd ⊢;obtain⟨k,hk⟩: ∃k,(if r.length<183 then 184-r.length else 0)=k:=⟨_,rfl⟩;rw[hk]at hbq;rw[hbq]at hbo q1 q2 q3 ⊢
  have hfd3:feed j p=⟨tkO (str (h++(r.take 184++List.replicate k 255))) true,worse (tkE (str (h++(r.take 184++List.replicate k 255))) true) 0,⟨j.pid,tkH (str (h++(r.take 184++List.replicate k 255))) true,tkF (str (h++(r.take 184++List.replicate k 255))) true,p.count,p.body,j.lost⟩⟩:=by
   rw[hfd];unfold fd2 onO onH onF onE;rw[hst,if_neg (by decide),hv.hh,hf,if_pos rfl,if_pos rfl,if_pos rfl,if_pos rfl,hbo,str_app']
  rcases Nat.lt_or_ge 184 r.length with h1|h1
  ·have hk0:k=0:=by rw[←hk,if_neg (by omega)]
   subst hk0
   have e:h++(r.take 184++List.replicate 0 (255:UInt8))=(h++r).take (h.length+184):=by
    rw[List.take_length_add_append];simp
   have hl3:3≤(h++r).length:=hg.len;obtain⟨c,x,hcx,hc⟩:=first_ne hg.toSec (m:=h.length+184) (by omega) (by simp;omega);have hlen:((h++r).take (h.length+184)).length=h.length+184:=by rw[List.length_take,List.length_append];omega
   have htk:=tk_part (X:=(h++r).take (h.length+184)) ((h++r).take (h.length+184)).length true hcx hc (Or.inr ⟨by omega,fun e=>hg.nb ((nb_pre (s:=(h++r).take (h.length+184)) (by omega) (List.take_append_drop _ _)).2 e),by rw[wh_take (by omega) (by simp;omega),hg.wh,hlen,List.length_append];omega⟩);obtain⟨f1,f2,f3,f4⟩:=tkJ_eq (h:=str ((h++r).take (h.length+184))) (f:=true) ((congrArg (fun n=>tkJ (n+1) (str ((h++r).take (h.length+184))) true) (str_size _)).trans htk)
   have hd:done (h++(r.take 184++List.replicate 0 (255:UInt8)))=false:=by
    rw[e];unfold done;rw[wh_take (by omega) (by simp;omega),hg.wh,hlen];exact decide_eq_false (fun hc=>by have:=hc.2;rw[List.length_append]at this;omega)
   rw[e,f1,f2,f3,f4]at hfd3;have hne:r.drop 184≠[]:=by intro h;have:=congrArg List.length h;simp at this;omega
   have hR:(rdPkt h false (r.take 184++List.replicate 0 (255:UInt8))).texts=[]∧(rdPkt h false (r.take 184++List.replicate 0 (255:UInt8))).held=(h++r).take (h.length+184):=by
    unfold rdPkt;rw[if_neg (by decide)];dsimp only;rw[hd,if_neg (by decide),if_neg (by decide),e];exact⟨rfl,rfl⟩
   refine⟨by rw[hfd3];rfl,by rw[hfd3,hR.1];rfl,?_,by rw[hfd3],by rw[hfd3],by rw[hfd3],by rw[hfd3]⟩;rw[hR.2]at q3 ⊢;rw[hfd3];refine⟨q3,hgd,fun _=>?_,rfl,fun _=>rfl⟩
   have e2:(h++r).take (h.length+184)++r.drop 184=h++r:=by
    rw[List.take_length_add_append,List.append_assoc,List.take_append_drop]
   rw[e2];exact hg
  ·have e:r.take 184=r:=List.take_of_length_le h1
   rw[e,←List.append_assoc]at hfd3;obtain⟨fo,w1,_⟩:=tk_whole hg k true;obtain⟨f1,f2,f3,f4⟩:=tkJ_eq w1;rw[f1,f2,f3,f4]at hfd3;have hw:wh (h++(r++List.replicate k (255:UInt8)))=(h++r).length:=by rw[←List.append_assoc,wh_pre y2.len rfl,y2.wh]
   have hd:done (h++(r++List.replicate k (255:UInt8)))=true:=by
    unfold done;rw[hw];have:=y2.len;exact decide_eq_true ⟨by omega,by simp only[List.length_append];omega⟩
   have hR:(rdPkt h false (r++List.replicate k (255:UInt8))).texts=[h++r]∧(rdPkt h false (r++List.replicate k (255:UInt8))).held=[]:=by
    unfold rdPkt;rw[if_neg (by decide)];dsimp only;rw[hd,if_pos rfl,if_pos rfl,hw,←List.append_assoc,List.take_left];exact⟨rfl,rfl⟩
   rw[e]at q3 ⊢;have hdr:r.drop 184=[]:=List.drop_eq_nil_of_le h1;refine⟨by rw[hfd3];rfl,by rw[hfd3,hR.1];rfl,?_,by rw[hfd3],by rw[hfd3],by rw[hfd3],by rw[hfd3]⟩;rw[hR.2]at q3 ⊢;rw[hfd3];exact⟨q3,hgd,fun h=>absurd hdr h,rfl,fun h=>absurd rfl h⟩
end Go.Proofs.YtdbpkhnmhddmmaaGreatDoor.JnR
