import Derived.Test.YtdbpkhnmhddmmaaGreatDoorRnJnR
namespace Go.Proofs.YtdbpkhnmhddmmaaGreatDoor.JnS
open Go St BiH SeG JnP JnR RdP PaT PaN PaK RdQ
def pkO (pid:Int) (count:Nat) (L:List ByteArray) (k:Nat):Pk:=⟨pid,startB (stI L k).1 (stI L k).2,((count+k)%16:Nat),false,str (bodyL (stI L k).1 (stI L k).2)⟩
def jn0 (pid:Int):Jn:=⟨pid,nob,false,0,nob,0⟩
def jnK (pid:Int) (count:Nat) (L:List ByteArray):Nat→Jn
 |0=>jn0 pid
 |k+1=>(feed (jnK pid count L k) (pkO pid count L k)).j
structure Jk (pid:Int) (count:Nat) (L:List ByteArray) (k:Nat):Prop where
 v:Jv (jnK pid count L k) (rdI (L.map bl) k).2 (stQ (L.map bl) k).1 (stQ (L.map bl) k).2
 p:(jnK pid count L k).pid=pid
 lo:(jnK pid count L k).lost=0
 c:(k=0∧(jnK pid count L k).cnt=0∧(jnK pid count L k).seen=nob)∨(∃i,k=i+1∧(jnK pid count L k).cnt=(pkO pid count L i).count∧(jnK pid count L k).seen=(pkO pid count L i).body)
theorem body_len {r:Bs} {l:List Bs} (_hne:r≠[]∨l≠[]):(bodyQ r l).length=184∨(bodyQ r l).length=183:=by
 unfold bodyQ
 split
 ·rename_i hs
  left;have hr:r.length<183:=by unfold startQ at hs;simp at hs;omega
  simp only[List.cons_append,List.length_cons,List.length_append,List.length_replicate,List.length_take];omega
 ·rename_i hs
  rw[List.length_append,List.length_take,List.length_replicate];by_cases h3:r.length<183
  ·left
   rw[if_pos h3];omega
  ·rw[if_neg h3]
   omega
theorem pkO_body (pid:Int) (count:Nat) (L:List ByteArray) (k:Nat):(pkO pid count L k).body=str (bodyQ (stQ (L.map bl) k).1 (stQ (L.map bl) k).2)∧(pkO pid count L k).start=startQ (stQ (L.map bl) k).1 (stQ (L.map bl) k).2:=by
 have h:=st_q L k;unfold pkO;dsimp only;rw[body_q,start_q,←h];exact⟨rfl,rfl⟩
theorem pkO_ok {pid:Int} (hp:0≤pid∧pid<8191) (count:Nat) (L:List ByteArray) (k:Nat) (hm:more (L.map bl) k):pkE (pkO pid count L k)=0∧((pkO pid count L k).body.size=184∨(pkO pid count L k).body.size=183):=by
 have hb:(pkO pid count L k).body.size=184∨(pkO pid count L k).body.size=183:=by
  rw[(pkO_body pid count L k).1,str_size];exact body_len hm
 refine⟨?_,hb⟩;unfold pkE;have h1:(pkO pid count L k).pid=pid:=rfl;have h2:(pkO pid count L k).count=(((count+k)%16:Nat):Int):=rfl;rw[h1,h2,if_neg (by omega),if_neg (by omega)]
theorem jk_all {pid:Int} (hp:0≤pid∧pid<8191) (count:Nat) {L:List ByteArray} (hL: ∀s∈L,Gd (bl s)): ∀k,(∀j,j<k→more (L.map bl) j)→
 Jk pid count L k∧(∀i,k=i+1→Fed (jnK pid count L i) (pkO pid count L i) (rdI (L.map bl) i).2 (rdPkt (rdI (L.map bl) i).2 (startQ (stQ (L.map bl) i).1 (stQ (L.map bl) i).2) (bodyQ (stQ (L.map bl) i).1 (stQ (L.map bl) i).2)) (stQ (L.map bl) k).1 (stQ (L.map bl) k).2)
 |0,_=>by
  have hg: ∀s∈L.map bl,Gd s:=fun s hs=>by
   obtain⟨x,hx,rfl⟩:=List.mem_map.1 hs;exact hL x hx
  exact⟨⟨⟨⟨fun s hs=>(hg s hs).toSec,fun h=>absurd rfl h,fun _=>rfl⟩,hg,fun h=>absurd rfl h,rfl,fun h=>absurd rfl h⟩,rfl,rfl,Or.inl ⟨rfl,rfl,rfl⟩⟩,fun i h=>by omega⟩
 |k+1,hm=>by
  obtain⟨hk,_⟩:=jk_all hp count hL k (fun j hj=>hm j (by omega));have hmk:=hm k (by omega);obtain⟨hpo,hbs⟩:=pkO_ok hp count L k hmk;obtain⟨b1,b2⟩:=pkO_body pid count L k;have hc0:(pkO pid count L k).count=(((count+k)%16:Nat):Int):=rfl
  have hnew: ¬((pkO pid count L k).count=(jnK pid count L k).cnt∧(pkO pid count L k).body=(jnK pid count L k).seen):=by
   rintro⟨e1,e2⟩;rcases hk.c with⟨_,_,h3⟩|⟨i,rfl,h2,_⟩
   ·rw[h3]at e2
    have:(pkO pid count L k).body.size=0:=by rw[e2];rfl
    omega
   ·rw[h2,hc0]at e1
    have h4:(pkO pid count L i).count=(((count+i)%16:Nat):Int):=rfl;rw[h4]at e1;omega
  have hgap:gap (jnK pid count L k) (pkO pid count L k)=false:=by
   unfold gap;rcases hk.c with⟨_,h2,h3⟩|⟨i,rfl,h2,_⟩
   ·rw[decide_eq_true ⟨h2,h3⟩];rfl
   ·have h4:(pkO pid count L i).count=(((count+i)%16:Nat):Int):=rfl
    rw[decide_eq_false (p:=(pkO pid count L (i+1)).count≠_) (fun h=>h (by rw[h2,h4,hc0,Int.tmod_eq_emod_of_nonneg (by omega)];omega)),Bool.and_false]
  have hf:=jn_pkt hk.v hmk (pkO pid count L k) hk.p.symm hpo rfl b2 b1 hnew hgap;refine⟨⟨hf.v,hf.p.trans hk.p,hf.lo.trans hk.lo,Or.inr ⟨k,rfl,hf.c,hf.s⟩⟩,fun i hi=>?_⟩;obtain rfl:k=i:=by omega
  exact hf
end Go.Proofs.YtdbpkhnmhddmmaaGreatDoor.JnS
