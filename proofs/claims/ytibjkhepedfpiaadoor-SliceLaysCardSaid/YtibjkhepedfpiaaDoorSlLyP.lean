import Derived.Test.YtibjkhepedfpiaaDoorSlPkL
namespace Go.Proofs.YtibjkhepedfpiaaDoor.LyP
open Go St BiH SeG PaA PaR PaP PaN PaK SlM SlP SlR SlS SlW PkP PkY PkL RdP RdQ
def pkQ (p:Pkt):Bool×Bs:=(p.start,bl p.body)
def ofPid (x:Int) (P:List Pkt):List Pkt:=P.filter (fun p=>decide (p.pid=x))
theorem ofPid_app (x:Int) (a b:List Pkt):ofPid x (a++b)=ofPid x a++ofPid x b:=by simp[ofPid]
theorem ofPid_nil {x:Int} (h:x≠8191) (k:Nat):ofPid x (List.replicate k nilPk)=[]:=by
 unfold ofPid;rw[List.filter_eq_nil_iff];intro p hp;rw[List.eq_of_mem_replicate hp];intro hh;have h2:(8191:Int)=x:=of_decide_eq_true hh;exact h h2.symm
theorem ofPid_pks (x pid:Int) (c:Nat) (S:List ByteArray) (K:Nat):ofPid x (pks pid c S K)=if pid=x then pks pid c S K else[]:=by
 unfold ofPid
 split
 ·rename_i h
  rw[List.filter_eq_self];intro p hp;obtain⟨k,_,rfl⟩:=List.mem_map.1 hp;exact decide_eq_true h
 ·rename_i h
  rw[List.filter_eq_nil_iff];intro p hp;obtain⟨k,_,rfl⟩:=List.mem_map.1 hp;exact fun hh=>h (of_decide_eq_true hh)
theorem pks_q (pid:Int) (c:Nat) (S:List ByteArray) (K:Nat):(pks pid c S K).map pkQ=pkL (S.map bl) K:=by
 unfold pks pkL;rw[List.map_map];apply List.map_congr_left;intro k _;have h:=st_q S k;show(startB (stI S k).1 (stI S k).2,bl (str (bodyL (stI S k).1 (stI S k).2)))=_;rw[bl_str,start_q,body_q];rw[←h]
theorem sec_of {s:ByteArray} (h:paE s=0):Sec (bl s):=by
 obtain⟨h1,h2,h3,h4⟩:=paE_ok h;have e: ∀k,((bl s).getD k 0).toNat=at0 s k:=fun k=>by unfold at0 bl;simp[List.getD]
 refine⟨by rw[bl_len];exact h4,?_,fun t ht=>h3 ?_⟩
 ·unfold RdP.wh
  rw[bl_len,if_neg (by omega),e,e];unfold needN at h2;rw[if_pos h1]at h2;unfold nN at h2;omega
 ·rw[←e,ht];rfl
theorem bst_of {S:List ByteArray} (h:firstE S=0):Bst (S.map bl) (nS S):=by
 have hp:=size_pos (first_ok h);have hs:=nP_steps (S.map ByteArray.size)
 have key: ∀k,(¬more (S.map bl) k)↔(S.map ByteArray.size).sum≤pos (S.map ByteArray.size) k:=fun k=>by
  rw[←stI_end hp k];have e:=st_q S k;have e1:bl (stI S k).1=(stQ (S.map bl) k).1:=congrArg Prod.fst e;have e2:(stI S k).2.map bl=(stQ (S.map bl) k).2:=congrArg Prod.snd e;unfold more;rw[←e1,←e2];have l1:(stI S k).1.size=0↔bl (stI S k).1=[]:=by rw[←bl_len];exact List.length_eq_zero_iff
  rw[l1];simp[not_or]
 refine⟨fun s hs'=>?_,fun j hj=>?_,?_⟩
 ·obtain⟨t,ht,rfl⟩:=List.mem_map.1 hs'
  exact sec_of (first_ok h t ht)
 ·exact Classical.byContradiction fun hc=>by have:=(key j).1 hc;have:=hs.2 j hj;omega
 ·exact(key _).2 hs.1
def Cnt (P:List Pkt):Prop:= ∀i p,P[i]? =some p→p.count=((i%16:Nat):Int)
theorem cnt_pks {P:List Pkt} (h:Cnt P) {pid:Int} {c:Nat} {S:List ByteArray} {K:Nat} (hc:c=P.length%16):Cnt (P++pks pid c S K):=fun i p hi=>by
 rcases Nat.lt_or_ge i P.length with hl|hl
 ·rw[List.getElem?_append_left hl]at hi
  exact h i p hi
 ·rw[List.getElem?_append_right hl]at hi
  unfold pks at hi;rw[List.getElem?_map]at hi
  have hk:i-P.length<K:=by
   rcases Nat.lt_or_ge (i-P.length) K with h1|h1
   ·exact h1
   ·rw[List.getElem?_eq_none (by simpa using h1)]at hi;simp at hi
  rw[List.getElem?_range hk]at hi;simp at hi;rw[←hi];show(((c+(i-P.length))%16:Nat):Int)=_
  congr 1
  omega
theorem ofPid_step {x:Int} (hx:x≠8191) (s:Lst) (b:Br):ofPid x (layStep s b).out=ofPid x s.out++(if b.pid=x then pks b.pid (s.nx b.pid) b.S (nS b.S)else[]):=by
 unfold layStep;dsimp only;rw[ofPid_app,ofPid_app,ofPid_nil hx,List.append_nil,ofPid_pks]
def Cts (s:Lst):Prop:= ∀x:Int,x≠8191→Cnt (ofPid x s.out)∧s.nx x=(ofPid x s.out).length%16
theorem Cts.step {s:Lst} (h:Cts s) (b:Br):Cts (layStep s b):=fun x hx=>by
 obtain⟨h1,h2⟩:=h x hx;rw[ofPid_step hx];by_cases hb:b.pid=x
 ·rw[if_pos hb]
  subst hb;refine⟨cnt_pks h1 h2,?_⟩;show(if b.pid=b.pid then(s.nx b.pid+nS b.S)%16 else _)=_;rw[if_pos rfl,h2,List.length_append,pks_len];omega
 ·rw[if_neg hb,List.append_nil]
  refine⟨h1,?_⟩;show(if x=b.pid then _ else s.nx x)=_;rw[if_neg (fun e=>hb e.symm),h2]
theorem cts_all (L:List Br): ∀s:Lst,Cts s→Cts (L.foldl layStep s):=by
 induction L with
 |nil=>intro s h;exact h
 |cons b t ih=>intro s h;exact ih _ (h.step b)
theorem cts_lay (L:List Br):Cts (layF L):=cts_all L _ (fun x _=>⟨fun i p h=>by simp[ofPid]at h,by simp[ofPid]⟩)
def bsOf (x:Int) (L:List Br):List Br:=L.filter (fun b=>decide (b.pid=x))
theorem read_all (x:Int) (hx:x≠8191) (L:List Br): ∀s:Lst,(ofPid x (L.foldl layStep s).out).map pkQ=(ofPid x s.out).map pkQ++((bsOf x L).map fun b=>pkL (b.S.map bl) (nS b.S)).flatten∧(ofPid x (L.foldl layStep s).out).length=(ofPid x s.out).length+((bsOf x L).map fun b=>nS b.S).sum:=by
 induction L with
 |nil=>intro s;simp[bsOf]
 |cons b t ih=>
  intro s;rw[List.foldl_cons];obtain⟨h1,h2⟩:=ih (layStep s b);rw[h1,h2,ofPid_step hx];unfold bsOf;by_cases hb:b.pid=x
  ·rw[if_pos hb,List.filter_cons_of_pos (by simpa using hb),List.map_append,pks_q,List.length_append,pks_len]
   refine⟨by simp[List.append_assoc],by simp;omega⟩
  ·rw[if_neg hb,List.append_nil,List.filter_cons_of_neg (by simpa using hb)]
   exact⟨rfl,rfl⟩
theorem firsts_ok: ∀(L:List Br) (e:Int),checkE e L=0→ ∀b∈L,rightP b.pid b.at_∧firstE b.S=0∧manyE b.S=0:=by
 intro L
 induction L with
 |nil=>intro e _ b hb;cases hb
 |cons a t ih=>
  intro e h b hb;obtain⟨h1,h2,_,h4⟩:=checkE_cons h;rcases List.mem_cons.1 hb with rfl|hb
  ·exact⟨h1,(many_first h2).2,h2⟩
  ·exact ih _ h4 b hb
theorem lay_read {L:List Br} (h:checkE 0 L=0) (x:Int) (hx:x≠8191):
 ((ofPid x (layF L).out).map pkQ).foldl rdStep ([],[])=(((bsOf x L).map fun b=>b.S.map bl).flatten,[])∧AllOk ([],[]) ((ofPid x (layF L).out).map pkQ)∧Cnt (ofPid x (layF L).out)∧(ofPid x (layF L).out).length=((bsOf x L).map fun b=>nS b.S).sum:=by
 obtain⟨h1,h2⟩:=read_all x hx L ⟨[],fun _=>0⟩
 have hb:=bursts_fold ((bsOf x L).map fun b=>(b.S.map bl,nS b.S)) [] (fun p hp=>by
  obtain⟨b,hb,rfl⟩:=List.mem_map.1 hp;exact bst_of ((firsts_ok L 0 h b ((List.mem_filter.1 hb).1)).2.1))
 simp only[List.map_map,Function.comp_def,List.nil_append]at hb
 have e:(ofPid x (layF L).out).map pkQ=((bsOf x L).map fun b=>pkL (b.S.map bl) (nS b.S)).flatten:=by
  show(ofPid x (L.foldl layStep _).out).map pkQ=_;rw[h1];simp[ofPid]
 rw[e];refine⟨hb.1,hb.2,((cts_lay L) x hx).1,?_⟩;show(ofPid x (L.foldl layStep _).out).length=_;rw[h2];simp[ofPid]
theorem nil_count (L:List Br): ∀(s:Lst),(∀b∈L,b.pid≠8191)→(ofPid 8191 (L.foldl layStep s).out).length+(L.map fun b=>nS b.S).sum+s.out.length=(L.foldl layStep s).out.length+(ofPid 8191 s.out).length:=by
 induction L with
 |nil=>intro s _;simp;omega
 |cons b t ih=>
  intro s h;rw[List.foldl_cons];have h1:=ih (layStep s b) (fun x hx=>h x (by simp[hx]));have hb:=h b (by simp)
  have h2:(ofPid 8191 (layStep s b).out).length=(ofPid 8191 s.out).length+(b.at_.toNat-s.out.length):=by
   unfold layStep;dsimp only;rw[ofPid_app,ofPid_app,ofPid_pks,if_neg hb,List.append_nil,List.length_append]
   congr 1
   unfold ofPid;rw[List.filter_eq_self.2 (fun p hp=>by rw[List.eq_of_mem_replicate hp];rfl),List.length_replicate]
  have h3:(layStep s b).out.length=s.out.length+(b.at_.toNat-s.out.length)+nS b.S:=by
   unfold layStep;simp only[List.length_append,List.length_replicate,pks_len]
  rw[List.map_cons,List.sum_cons];omega
theorem nil_bytes {p:Pkt} (h:PkOk p) (e:pkBy p=pkBy nilPk):p.pid=8191:=by
 obtain⟨h1,h2,h3⟩:=h;have a:=(pkB_front (pid:=p.pid.toNat) (count:=p.count.toNat) (start:=p.start) (body:=bl p.body) (by omega) (by omega) (by rw[bl_len];exact h3)).1;have b:=(pkB_front (pid:=nilPk.pid.toNat) (count:=nilPk.count.toNat) (start:=nilPk.start) (body:=bl nilPk.body) (by decide) (by decide) (by rw[bl_len];exact nil_ok.body)).1;unfold pkBy at e;rw[e,b]at a;show p.pid=8191;have:nilPk.pid.toNat=8191:=rfl;omega
end Go.Proofs.YtibjkhepedfpiaaDoor.LyP
