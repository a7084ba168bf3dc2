import Derived.Test.YtibjkhepedfpiaaGreatDoorSgPkL
namespace Go.Proofs.YtibjkhepedfpiaaGreatDoor.LyP
open Go St BiH SeG PaA PaR PaP PaN PaK SlM SlP SlR SlS SlW PkP PkY PkL RdP RdQ
def ofPid (x:Int) (P:List Pkt):List Pkt:=P.filter (fun p=>decide (p.pid=x))
theorem ofPid_app (x:Int) (a b:List Pkt):ofPid x (a++b)=ofPid x a++ofPid x b:=by simp[ofPid]
theorem ofPid_nil {x:Int} (h:x≠8191) (k:Nat):ofPid x (List.replicate k nilPk)=[]:=by
 unfold ofPid;rw[List.filter_eq_nil_iff];intro p hp;rw[List.eq_of_mem_replicate hp];intro hh;have h2:(8191:Int)=x:=of_decide_eq_true hh;exact h h2.symm
theorem ofPid_pks (x pid:Int) (c:Nat) (S:List ByteArray) (K:Nat):ofPid x (pks pid c S K)=if pid=x then pks pid c S K else[]:=by
 unfold ofPid
 split
 ·rename_i h
  rw[List.filter_eq_self];intro p hp;obtain⟨k,_,rfl⟩:=List.mem_map.1 hp;exact decide_eq_true h
 ·rename_i h
  rw[List.filter_eq_nil_iff];intro p hp;obtain⟨k,_,rfl⟩:=List.mem_map.1 hp;exact fun hh=>h (of_decide_eq_true hh)
theorem sec_of {s:ByteArray} (h:paE s=0):Sec (bl s):=by
 obtain⟨h1,h2,h3,h4⟩:=paE_ok h;have e: ∀k,((bl s).getD k 0).toNat=at0 s k:=fun k=>by unfold at0 bl;simp[List.getD]
 refine⟨by rw[bl_len];exact h4,?_,fun t ht=>h3 ?_⟩
 ·unfold RdP.wh
  rw[bl_len,if_neg (by omega),e,e];unfold needN at h2;rw[if_pos h1]at h2;unfold nN at h2;omega
 ·rw[←e,ht];rfl
theorem bst_of {S:List ByteArray} (h:firstE S=0):Bst (S.map bl) (nS S):=by
 have hp:=size_pos (first_ok h);have hs:=nP_steps (S.map ByteArray.size)
 have key: ∀k,(¬more (S.map bl) k)↔(S.map ByteArray.size).sum≤pos (S.map ByteArray.size) k:=fun k=>by
  rw[←stI_end hp k];have e:=st_q S k;have e1:bl (stI S k).1=(stQ (S.map bl) k).1:=congrArg Prod.fst e;have e2:(stI S k).2.map bl=(stQ (S.map bl) k).2:=congrArg Prod.snd e;unfold more;rw[←e1,←e2];have l1:(stI S k).1.size=0↔bl (stI S k).1=[]:=by rw[←bl_len];exact List.length_eq_zero_iff
  rw[l1];simp[not_or]
 refine⟨fun s hs'=>?_,fun j hj=>?_,?_⟩
 ·obtain⟨t,ht,rfl⟩:=List.mem_map.1 hs'
  exact sec_of (first_ok h t ht)
 ·exact Classical.byContradiction fun hc=>by have:=(key j).1 hc;have:=hs.2 j hj;omega
 ·exact(key _).2 hs.1
def Cnt (P:List Pkt):Prop:= ∀i p,P[i]? =some p→p.count=((i%16:Nat):Int)
theorem cnt_pks {P:List Pkt} (h:Cnt P) {pid:Int} {c:Nat} {S:List ByteArray} {K:Nat} (hc:c=P.length%16):Cnt (P++pks pid c S K):=fun i p hi=>by
 rcases Nat.lt_or_ge i P.length with hl|hl
 ·rw[List.getElem?_append_left hl]at hi
  exact h i p hi
 ·rw[List.getElem?_append_right hl]at hi
  unfold pks at hi;rw[List.getElem?_map]at hi
  have hk:i-P.length<K:=by
   rcases Nat.lt_or_ge (i-P.length) K with h1|h1
   ·exact h1
   ·rw[List.getElem?_eq_none (by simpa using h1)]at hi;simp at hi
  rw[List.getElem?_range hk]at hi;simp at hi;rw[←hi];show(((c+(i-P.length))%16:Nat):Int)=_
  congr 1
  omega
theorem ofPid_step {x:Int} (hx:x≠8191) (s:Lst) (b:Br):ofPid x (layStep s b).out=ofPid x s.out++(if b.pid=x then pks b.pid (s.nx b.pid) b.S (nS b.S)else[]):=by
 unfold layStep;dsimp only;rw[ofPid_app,ofPid_app,ofPid_nil hx,List.append_nil,ofPid_pks]
def Cts (s:Lst):Prop:= ∀x:Int,x≠8191→Cnt (ofPid x s.out)∧s.nx x=(ofPid x s.out).length%16
theorem Cts.step {s:Lst} (h:Cts s) (b:Br):Cts (layStep s b):=fun x hx=>by
 obtain⟨h1,h2⟩:=h x hx;rw[ofPid_step hx];by_cases hb:b.pid=x
 ·rw[if_pos hb]
  subst hb;refine⟨cnt_pks h1 h2,?_⟩;show(if b.pid=b.pid then(s.nx b.pid+nS b.S)%16 else _)=_;rw[if_pos rfl,h2,List.length_append,pks_len];omega
 ·rw[if_neg hb,List.append_nil]
  refine⟨h1,?_⟩;show(if x=b.pid then _ else s.nx x)=_;rw[if_neg (fun e=>hb e.symm),h2]
end Go.Proofs.YtibjkhepedfpiaaGreatDoor.LyP
