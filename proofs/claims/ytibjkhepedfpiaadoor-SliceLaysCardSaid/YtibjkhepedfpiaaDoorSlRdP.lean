namespace Go.Proofs.YtibjkhepedfpiaaDoor.RdP
abbrev Bs:=List UInt8
def wh (s:Bs):Nat:=if s.length<3 then 0 else 3+(s.getD 1 0).toNat%16*256+(s.getD 2 0).toNat
structure Sec (s:Bs):Prop where
 len:3≤s.length
 wh:wh s=s.length
 no: ∀t,s≠255::t
theorem wh_pre {s x y:Bs} (h:3≤s.length) (e:s++x=y):wh y=wh s:=by
 subst e;unfold wh;rw[if_neg (by simp;omega),if_neg (by omega)];have h1:(s++x).getD 1 0=s.getD 1 0:=by rw[List.getD_eq_getElem?_getD,List.getD_eq_getElem?_getD,List.getElem?_append_left (by omega)]
 have h2:(s++x).getD 2 0=s.getD 2 0:=by rw[List.getD_eq_getElem?_getD,List.getD_eq_getElem?_getD,List.getElem?_append_left (by omega)]
 rw[h1,h2]
theorem wh_take {s:Bs} {m:Nat} (h:3≤m) (hm:m≤s.length):wh (s.take m)=wh s:=
 (wh_pre (s:=s.take m) (by rw[List.length_take];omega) (List.take_append_drop m s)).symm
def rdRest:Nat→Bs→List Bs×Bs
 |0,_=>([],[])
 |_+1,[]=>([],[])
 |f+1,c::t=>if c=255 then([],[])else if wh (c::t)=0∨(c::t).length<wh (c::t)then([],c::t)else
   ((c::t).take (wh (c::t))::(rdRest f ((c::t).drop (wh (c::t)))).1,(rdRest f ((c::t).drop (wh (c::t)))).2)
def dl:Nat→List Bs→Bs×List Bs
 |_,[]=>([],[])
 |m,s::t=>if m=0 then([],s::t)else if m<s.length then(s.drop m,t)else dl (m-s.length) t
def cur (h r:Bs):List Bs:=if r=[]then[]else[h++r]
theorem rest_ok: ∀(l:List Bs) (m q f:Nat),(∀s∈l,Sec s)→(q=0∨l.flatten.length≤m)→(l.flatten.take m++List.replicate q (255:UInt8)).length<f→
 l=(rdRest f (l.flatten.take m++List.replicate q 255)).1++cur (rdRest f (l.flatten.take m++List.replicate q 255)).2 (dl m l).1++(dl m l).2∧
 ((dl m l).1=[]↔(rdRest f (l.flatten.take m++List.replicate q 255)).2=[])
 |[],m,q,f+1,_,_,_=>by
  cases q with
  |zero=>simp[rdRest,dl,cur]
  |succ q=>simp[rdRest,dl,cur,List.replicate_succ]
 |s::t,m,q,f+1,hs,hq,hf=>by
  have hsec:=hs s (by simp);have h3:=hsec.len;rcases Nat.eq_zero_or_pos m with h0|h0
  ·subst h0
   have hq0:q=0:=by
    rcases hq with h|h
    ·exact h
    ·rw[List.flatten_cons,List.length_append]at h;omega
   subst hq0;simp[rdRest,dl,cur]
  ·rcases Nat.lt_or_ge m s.length with hm|hm
   ·have hq0:q=0:=by
     rcases hq with h|h
     ·exact h
     ·rw[List.flatten_cons,List.length_append]at h;omega
    subst hq0
    have e:(s::t).flatten.take m++List.replicate 0 (255:UInt8)=s.take m:=by
     rw[List.flatten_cons,List.take_append_of_le_length (by omega)];simp
    rw[e];have hd:dl m (s::t)=(s.drop m,t):=by rw[dl,if_neg (by omega),if_pos hm]
    rw[hd];have hne:s.drop m≠[]:=by intro h;have:=congrArg List.length h;simp at this;omega
    obtain⟨c,x,hcx⟩: ∃c x,s.take m=c::x:=by
     cases h:s.take m with
     |nil=>have:=congrArg List.length h;rw[List.length_take,List.length_nil]at this;omega
     |cons c x=>exact⟨c,x,rfl⟩
    have hc:c≠255:=by
     intro h;subst h;refine hsec.no (x++s.drop m) ?_;rw[←List.cons_append,←hcx,List.take_append_drop]
    have hr:rdRest (f+1) (s.take m)=([],s.take m):=by
     rw[hcx,rdRest,if_neg hc,←hcx,if_pos];rcases Nat.lt_or_ge m 3 with h|h
     ·left;unfold wh;rw[if_pos (by rw[List.length_take];omega)]
     ·right;rw[wh_take h (by omega),hsec.wh,List.length_take];omega
    rw[hr];refine⟨?_,?_⟩
    ·simp[cur,hne,List.take_append_drop]
    ·constructor
     ·intro h;exact absurd h hne
     ·intro h;rw[hcx]at h;cases h
   ·have e:(s::t).flatten.take m++List.replicate q (255:UInt8)=s++(t.flatten.take (m-s.length)++List.replicate q 255):=by
     rw[List.flatten_cons,List.take_append,List.take_of_length_le hm,List.append_assoc]
    rw[e]at hf ⊢;obtain⟨y,hy⟩: ∃y,t.flatten.take (m-s.length)++List.replicate q (255:UInt8)=y:=⟨_,rfl⟩;have ih:=rest_ok t (m-s.length) q f (fun z hz=>hs z (by simp[hz])) (hq.imp id (fun h=>by simp at h ⊢;omega)) (by rw[hy]at hf ⊢;simp at hf;omega);rw[hy]at hf ih ⊢;have hd:dl m (s::t)=dl (m-s.length) t:=by rw[dl,if_neg (by omega),if_neg (by omega)]
    rw[hd]
    obtain⟨c,x,hcx⟩: ∃c x,s=c::x:=by
     cases h:s with
     |nil=>rw[h]at h3;simp at h3
     |cons c x=>exact⟨c,x,rfl⟩
    have hc:c≠255:=fun h=>hsec.no x (by rw[hcx,h]);have hw:wh (s++y)=s.length:=(wh_pre h3 rfl).trans hsec.wh
    have hr:rdRest (f+1) (s++y)=(s::(rdRest f y).1,(rdRest f y).2):=by
     have:s++y=c::(x++y):=by rw[hcx];rfl
     rw[this,rdRest,if_neg hc,←this,hw,if_neg (by rw[List.length_append];omega),List.take_left,List.drop_left]
    rw[hr];refine⟨?_,ih.2⟩;have h1:=ih.1;rw[List.cons_append,List.cons_append,←h1]
 |_,_,_,0,_,_,h=>by omega
def startQ (r:Bs) (l:List Bs):Bool:= !(decide (183≤r.length)||(decide (0<r.length)&&decide (l.length=0)))
def bodyQ (r:Bs) (l:List Bs):Bs:=
 if startQ r l then(UInt8.ofNat r.length::(r++l.flatten).take 183)++List.replicate (184-(1+((r++l.flatten).take 183).length)) 255
 else r.take 184++List.replicate (if r.length<183 then 184-r.length else 0) 255
def stepQ (r:Bs) (l:List Bs):Bs×List Bs:=if startQ r l then dl (183-r.length) l else(r.drop 184,l)
structure Rd where
 ok:Prop
 texts:List Bs
 held:Bs
def done (h:Bs):Bool:=decide (0<wh h∧wh h≤h.length)
def rdPkt (h:Bs) (start:Bool) (b:Bs):Rd:=
 if start then
  {ok:=(b.getD 0 0).toNat+1≤b.length∧ ¬(h=[]∧(b.drop 1).take (b.getD 0 0).toNat≠[])∧(done (h++(b.drop 1).take (b.getD 0 0).toNat)=true→wh (h++(b.drop 1).take (b.getD 0 0).toNat)=(h++(b.drop 1).take (b.getD 0 0).toNat).length)∧(done (h++(b.drop 1).take (b.getD 0 0).toNat)=false→h++(b.drop 1).take (b.getD 0 0).toNat=[])
   texts:=(if done (h++(b.drop 1).take (b.getD 0 0).toNat)then[h++(b.drop 1).take (b.getD 0 0).toNat]else[])++(rdRest ((b.drop ((b.getD 0 0).toNat+1)).length+1) (b.drop ((b.getD 0 0).toNat+1))).1
   held:=(rdRest ((b.drop ((b.getD 0 0).toNat+1)).length+1) (b.drop ((b.getD 0 0).toNat+1))).2}
 else
  {ok:= ¬(h=[]∧b≠[])∧(done (h++b)=true→wh (h++b)<(h++b).length→(h++b)[wh (h++b)]? =some 255)
   texts:=if done (h++b)then[(h++b).take (wh (h++b))]else[]
   held:=if done (h++b)then[]else h++b}
structure Inv (h r:Bs) (l:List Bs):Prop where
 l: ∀s∈l,Sec s
 yes:r≠[]→h≠[]∧Sec (h++r)
 no:r=[]→h=[]
theorem dl_sub: ∀(l:List Bs) (m:Nat),(∀s∈(dl m l).2,s∈l)∧((dl m l).1=[]∨ ∃s∈l,∃k,k≤s.length∧(dl m l).1=s.drop k)
 |[],m=>⟨fun s hs=>by simp[dl]at hs,Or.inl rfl⟩
 |s::t,m=>by
  rw[dl]
  split
  ·exact⟨fun x hx=>hx,Or.inl rfl⟩
  ·split
   ·exact⟨fun x hx=>List.mem_cons_of_mem _ hx,Or.inr ⟨s,by simp,m,by omega,rfl⟩⟩
   ·obtain⟨h1,h2⟩:=dl_sub t (m-s.length)
    exact⟨fun x hx=>List.mem_cons_of_mem _ (h1 x hx),h2.imp id (fun⟨x,hx,k,hk⟩=>⟨x,List.mem_cons_of_mem _ hx,k,hk⟩)⟩
theorem sec_done {s:Bs} (h:Sec s):done s=true:=by
 unfold done;rw[h.wh];exact decide_eq_true ⟨by have:=h.len;omega,Nat.le_refl _⟩
theorem pkt_ok {h r:Bs} {l:List Bs} (hi:Inv h r l) (_hne:r≠[]∨l≠[]):
 (rdPkt h (startQ r l) (bodyQ r l)).ok∧cur h r++l=(rdPkt h (startQ r l) (bodyQ r l)).texts++cur (rdPkt h (startQ r l) (bodyQ r l)).held (stepQ r l).1++(stepQ r l).2∧Inv (rdPkt h (startQ r l) (bodyQ r l)).held (stepQ r l).1 (stepQ r l).2:=by
 cases hs:startQ r l with
 |true=>
  have hr:r.length<183:=by
   unfold startQ at hs;simp at hs;omega
  have hb:bodyQ r l=(UInt8.ofNat r.length::(r++l.flatten).take 183)++List.replicate (184-(1+((r++l.flatten).take 183).length)) 255:=by unfold bodyQ;rw[hs,if_pos rfl]
  have hst:stepQ r l=dl (183-r.length) l:=by unfold stepQ;rw[hs,if_pos rfl]
  have hX:(r++l.flatten).take 183=r++l.flatten.take (183-r.length):=by rw[List.take_append,List.take_of_length_le (by omega)]
  obtain⟨q,hq⟩: ∃q,184-(1+((r++l.flatten).take 183).length)=q:=⟨_,rfl⟩
  have hq2:q=0∨l.flatten.length≤183-r.length:=by
   rw[←hq,List.length_take,List.length_append];omega
  rw[hq,hX]at hb;rw[hst];obtain⟨b,hbb⟩: ∃b,bodyQ r l=b:=⟨_,rfl⟩;rw[hbb]at hb ⊢
  have hn:(b.getD 0 0).toNat=r.length:=by
   rw[hb];show(UInt8.ofNat r.length).toNat=_;rw[UInt8.toNat_ofNat'];omega
  have hbody:(b.drop 1).take r.length=r:=by
   rw[hb];show((r++l.flatten.take (183-r.length))++List.replicate q 255).take r.length=r;rw[List.append_assoc,List.take_left]
  have hrest:b.drop (r.length+1)=l.flatten.take (183-r.length)++List.replicate q 255:=by
   rw[hb];show((r++l.flatten.take (183-r.length))++List.replicate q 255).drop r.length=_;rw[List.append_assoc,List.drop_left]
  have hlen:r.length+1≤b.length:=by
   rw[hb];simp
  have hro:=rest_ok l (183-r.length) q ((l.flatten.take (183-r.length)++List.replicate q (255:UInt8)).length+1) hi.l hq2 (by omega);unfold rdPkt;rw[if_pos rfl];dsimp only;rw[hn,hbody,hrest];obtain⟨R,hR⟩: ∃R,rdRest ((l.flatten.take (183-r.length)++List.replicate q (255:UInt8)).length+1) (l.flatten.take (183-r.length)++List.replicate q 255)=R:=⟨_,rfl⟩;rw[hR]at hro ⊢
  have hinv:Inv R.2 (dl (183-r.length) l).1 (dl (183-r.length) l).2:=by
   obtain⟨d1,d2⟩:=dl_sub l (183-r.length);refine⟨fun s h=>hi.l s (d1 s h),fun hne=>⟨fun e=>hne (hro.2.2 e),?_⟩,fun e=>hro.2.1 e⟩;refine hi.l _ ?_;have h1:=hro.1;unfold cur at h1;rw[if_neg hne]at h1;obtain⟨D,hD⟩: ∃D,dl (183-r.length) l=D:=⟨_,rfl⟩;rw[hD]at h1 ⊢;rw[h1];simp
  by_cases hr0:r=[]
  ·subst hr0
   have hh:=hi.no rfl;subst hh;refine⟨⟨hlen,by simp,fun e=>by simp[done]at e ⊢;simp[wh],fun _=>rfl⟩,?_,hinv⟩;have hd:done (([]:Bs)++[])=false:=by simp[done,wh]
   rw[hd,if_neg (by decide),List.nil_append];show[]++l=_;rw[List.nil_append];exact hro.1
  ·obtain⟨y1,y2⟩:=hi.yes hr0
   have hd:=sec_done y2;refine⟨⟨hlen,fun e=>y1 e.1,fun _=>y2.wh,fun e=>by rw[hd]at e;cases e⟩,?_,hinv⟩;rw[hd,if_pos rfl];unfold cur;rw[if_neg hr0,List.singleton_append,List.singleton_append,List.cons_append,List.cons_append]
   congr 1
   exact hro.1
 |false=>
  have hr:183≤r.length∨(0<r.length∧l=[]):=by
   unfold startQ at hs;simp at hs;rcases Nat.lt_or_ge r.length 183 with h|h
   ·right
    have:=hs h
    exact⟨by cases r with
     |nil=>simp at this
     |cons=>simp,this.2⟩
   ·exact Or.inl h
  have hr0:r≠[]:=by rintro rfl;simp at hr
  obtain⟨y1,y2⟩:=hi.yes hr0;have hb:bodyQ r l=r.take 184++List.replicate (if r.length<183 then 184-r.length else 0) 255:=by unfold bodyQ;rw[hs,if_neg (by decide)]
  have hst:stepQ r l=(r.drop 184,l):=by unfold stepQ;rw[hs,if_neg (by decide)]
  rw[hst,hb];unfold rdPkt;rw[if_neg (by decide)];dsimp only;obtain⟨k,hk⟩: ∃k,(if r.length<183 then 184-r.length else 0)=k:=⟨_,rfl⟩;rw[hk];rcases Nat.lt_or_ge 184 r.length with h1|h1
  ·have hk0:k=0:=by rw[←hk,if_neg (by omega)]
   subst hk0
   have e:h++(r.take 184++List.replicate 0 (255:UInt8))=(h++r).take (h.length+184):=by
    rw[List.take_length_add_append];simp
   have hw:wh (h++(r.take 184++List.replicate 0 (255:UInt8)))=(h++r).length:=by
    rw[e,wh_take (by omega) (by simp;omega),y2.wh]
   have hd:done (h++(r.take 184++List.replicate 0 (255:UInt8)))=false:=by
    unfold done;rw[hw];refine decide_eq_false (fun hc=>?_);have:=hc.2;rw[e,List.length_take]at this;simp at this;omega
   rw[hd,if_neg (by decide),if_neg (by decide)];have hne:r.drop 184≠[]:=by intro h;have:=congrArg List.length h;simp at this;omega
   have e2:h++(r.take 184++List.replicate 0 (255:UInt8))++r.drop 184=h++r:=by simp[List.take_append_drop]
   refine⟨⟨fun hc=>y1 hc.1,fun e=>by cases e⟩,?_,⟨hi.l,fun _=>⟨fun e=>y1 (List.append_eq_nil_iff.1 e).1,by rw[e2];exact y2⟩,fun e=>absurd e hne⟩⟩;unfold cur;rw[if_neg hr0,if_neg hne,e2];simp
  ·have e:r.take 184=r:=List.take_of_length_le h1
   rw[e]
   have hw:wh (h++(r++List.replicate k (255:UInt8)))=(h++r).length:=by
    rw[←List.append_assoc,wh_pre y2.len rfl,y2.wh]
   have hd:done (h++(r++List.replicate k (255:UInt8)))=true:=by
    unfold done;rw[hw];have:=y2.len;exact decide_eq_true ⟨by omega,by simp only[List.length_append];omega⟩
   rw[hd,if_pos rfl,if_pos rfl,hw];have hdr:r.drop 184=[]:=List.drop_eq_nil_of_le h1;rw[hdr];refine⟨⟨fun hc=>y1 hc.1,fun _ hlt=>?_⟩,?_,⟨hi.l,fun e=>absurd rfl e,fun _=>rfl⟩⟩
   ·simp only[List.length_append,List.length_replicate]at hlt
    rw[←List.append_assoc,List.getElem?_append_right (Nat.le_refl _),Nat.sub_self,List.getElem?_replicate,if_pos (by omega)]
   ·unfold cur
    rw[if_neg hr0,if_pos rfl,←List.append_assoc,List.take_left];simp
def stQ (L:List Bs):Nat→Bs×List Bs
 |0=>([],L)
 |k+1=>stepQ (stQ L k).1 (stQ L k).2
def rdI (L:List Bs):Nat→List Bs×Bs
 |0=>([],[])
 |k+1=>((rdI L k).1++(rdPkt (rdI L k).2 (startQ (stQ L k).1 (stQ L k).2) (bodyQ (stQ L k).1 (stQ L k).2)).texts,(rdPkt (rdI L k).2 (startQ (stQ L k).1 (stQ L k).2) (bodyQ (stQ L k).1 (stQ L k).2)).held)
def more (L:List Bs) (k:Nat):Prop:=(stQ L k).1≠[]∨(stQ L k).2≠[]
theorem read_ok {L:List Bs} (hL: ∀s∈L,Sec s): ∀k,(∀j,j<k→more L j)→Inv (rdI L k).2 (stQ L k).1 (stQ L k).2∧L=(rdI L k).1++cur (rdI L k).2 (stQ L k).1++(stQ L k).2
 |0,_=>⟨⟨hL,fun h=>absurd rfl h,fun _=>rfl⟩,rfl⟩
 |k+1,h=>by
  obtain⟨h1,h2⟩:=read_ok hL k (fun j hj=>h j (by omega));obtain⟨_,p2,p3⟩:=pkt_ok h1 (h k (by omega));refine⟨p3,?_⟩;show L=_++_++_++_;rw[List.append_assoc,List.append_assoc,←List.append_assoc (rdPkt _ _ _).texts];show L=(rdI L k).1++((rdPkt (rdI L k).2 (startQ (stQ L k).1 (stQ L k).2) (bodyQ (stQ L k).1 (stQ L k).2)).texts++cur (rdPkt (rdI L k).2 (startQ (stQ L k).1 (stQ L k).2) (bodyQ (stQ L k).1 (stQ L k).2)).held (stepQ (stQ L k).1 (stQ L k).2).1++(stepQ (stQ L k).1 (stQ L k).2).2);rw[←p2,←List.append_assoc];exact h2
theorem each_ok {L:List Bs} (hL: ∀s∈L,Sec s) (k:Nat) (h: ∀j,j<k+1→more L j):(rdPkt (rdI L k).2 (startQ (stQ L k).1 (stQ L k).2) (bodyQ (stQ L k).1 (stQ L k).2)).ok:=
 (pkt_ok (read_ok hL k (fun j hj=>h j (by omega))).1 (h k (by omega))).1
theorem read_end {L:List Bs} (hL: ∀s∈L,Sec s) (k:Nat) (h: ∀j,j<k→more L j) (he: ¬more L k):(rdI L k).1=L∧(rdI L k).2=[]:=by
 obtain⟨h1,h2⟩:=read_ok hL k h;have e1:(stQ L k).1=[]:=Classical.byContradiction fun e=>he (Or.inl e);have e2:(stQ L k).2=[]:=Classical.byContradiction fun e=>he (Or.inr e);rw[e1,e2]at h2;exact⟨by rw[show cur (rdI L k).2 []=[]from if_pos rfl,List.append_nil,List.append_nil]at h2;exact h2.symm,h1.no e1⟩
def rdStep (s:List Bs×Bs) (p:Bool×Bs):List Bs×Bs:=(s.1++(rdPkt s.2 p.1 p.2).texts,(rdPkt s.2 p.1 p.2).held)
def AllOk:List Bs×Bs→List (Bool×Bs)→Prop
 |_,[]=>True
 |s,p::t=>(rdPkt s.2 p.1 p.2).ok∧AllOk (rdStep s p) t
theorem allok_append: ∀(a b:List (Bool×Bs)) (s:List Bs×Bs),AllOk s (a++b)↔AllOk s a∧AllOk (a.foldl rdStep s) b
 |[],b,s=>by simp[AllOk]
 |p::t,b,s=>by
  rw[List.cons_append,AllOk,AllOk,allok_append t b (rdStep s p),List.foldl_cons,and_assoc]
def pkL (L:List Bs) (K:Nat):List (Bool×Bs):=(List.range K).map fun k=>(startQ (stQ L k).1 (stQ L k).2,bodyQ (stQ L k).1 (stQ L k).2)
theorem pkL_succ (L:List Bs) (K:Nat):pkL L (K+1)=pkL L K++[(startQ (stQ L K).1 (stQ L K).2,bodyQ (stQ L K).1 (stQ L K).2)]:=by
 unfold pkL;rw[List.range_succ,List.map_append];rfl
theorem fold_pk (L T:List Bs): ∀K,(pkL L K).foldl rdStep (T,[])=(T++(rdI L K).1,(rdI L K).2)
 |0=>by simp[pkL,rdI]
 |K+1=>by
  rw[pkL_succ,List.foldl_append,fold_pk L T K];show rdStep _ _=_;unfold rdStep;rw[rdI];simp only[List.append_assoc]
theorem ok_pk {L:List Bs} (hL: ∀s∈L,Sec s) (T:List Bs): ∀K,(∀j,j<K→more L j)→AllOk (T,[]) (pkL L K)
 |0,_=>trivial
 |K+1,h=>by
  rw[pkL_succ,allok_append,fold_pk];exact⟨ok_pk hL T K (fun j hj=>h j (by omega)),each_ok hL K h,trivial⟩
structure Bst (L:List Bs) (K:Nat):Prop where
 sec: ∀s∈L,Sec s
 more: ∀j,j<K→more L j
 last: ¬RdP.more L K
theorem burst_fold {L:List Bs} {K:Nat} (h:Bst L K) (T:List Bs):(pkL L K).foldl rdStep (T,[])=(T++L,[])∧AllOk (T,[]) (pkL L K):=by
 obtain⟨e1,e2⟩:=read_end h.sec K h.more h.last;exact⟨by rw[fold_pk,e1,e2],ok_pk h.sec T K h.more⟩
theorem bursts_fold: ∀(B:List (List Bs×Nat)) (T:List Bs),(∀b∈B,Bst b.1 b.2)→
 ((B.map fun b=>pkL b.1 b.2).flatten).foldl rdStep (T,[])=(T++(B.map fun b=>b.1).flatten,[])∧AllOk (T,[]) (B.map fun b=>pkL b.1 b.2).flatten
 |[],T,_=>by simp[AllOk]
 |b::t,T,h=>by
  obtain⟨h1,h2⟩:=burst_fold (h b (by simp)) T;obtain⟨h3,h4⟩:=bursts_fold t (T++b.1) (fun x hx=>h x (by simp[hx]));rw[List.map_cons,List.flatten_cons,List.foldl_append,h1,h3,allok_append,h1];refine⟨by simp[List.append_assoc],h2,h4⟩
end Go.Proofs.YtibjkhepedfpiaaDoor.RdP
