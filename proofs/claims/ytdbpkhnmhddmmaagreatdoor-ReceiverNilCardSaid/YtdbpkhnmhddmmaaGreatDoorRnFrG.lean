import Derived.Test.YtdbpkhnmhddmmaaGreatDoorRnBoP
namespace Go.Proofs.YtdbpkhnmhddmmaaGreatDoor.FrG
open Go St DgC TbM FrA FrB FrC FcA LaA LaH LaQ BuC BuD BuE BuL BoP
def frD (R C K:Nat) (D:List ByteArray):Fr:=D.foldl addS (emptyF R C K)
theorem frD_snoc (R C K:Nat) (D:List ByteArray) (d:ByteArray):frD R C K (D++[d])=addS (frD R C K D) d:=by unfold frD;rw[List.foldl_append];rfl
theorem fold_ind {P:Fr→Prop} (D:List ByteArray): ∀S,P S→(∀S d,P S→P (addS S d))→P (D.foldl addS S):=by
 induction D with
 |nil=>intro S h _;exact h
 |cons d t ih=>intro S h k;exact ih _ (k S d h) k
theorem frD_R (R C K:Nat) (D:List ByteArray):(frD R C K D).R=R∧(frD R C K D).C=C∧(frD R C K D).K=K:=
 fold_ind (P:=fun S=>S.R=R∧S.C=C∧S.K=K) D _ ⟨rfl,rfl,rfl⟩ (fun S d h=>by have:=add_R S d;rw[this.1,this.2.1,this.2.2];exact h)
theorem frD_ok {R C K:Nat} (hR:R≤1024) (hR0:0<R) (hC:C≤191) (D:List ByteArray):OkL (frD R C K D):=fold_ind (P:=OkL) D _ (empty_okL hR hR0 hC) (fun _ d h=>add_okL h d)
theorem frD_lay {R C K:Nat} (hR:R≤1024) (hR0:0<R) (hC:C≤191) (D:List ByteArray):LayF (frD R C K D):=
 (fold_ind (P:=fun S=>OkL S∧LayF S) D _ ⟨empty_okL hR hR0 hC,lay_empty R C K⟩ (fun _ d h=>⟨add_okL h.1 d,lay_add h.2 h.1 d⟩)).2
theorem frD_len (R C K:Nat) (D:List ByteArray):(frD R C K D).L.length≤D.length:=by
 unfold frD
 suffices h: ∀S:Fr,(D.foldl addS S).L.length≤S.L.length+D.length by have:=h (emptyF R C K);simpa [emptyF]using this
 induction D with
 |nil=>intro S;simp
 |cons d t ih=>intro S;have h1:=ih (addS S d);have h2:=add_len S d;simp only[List.foldl_cons,List.length_cons];omega
theorem mks_of {S:Fr} (ho:OkL S) (hR:S.R=256) (hC:S.C≤191) (hK:S.K≤64) (hn:S.L.length≤20):MkS S:=by
 have hz:=chain_zero ho.ch;have hu:=ho.ok.u;have h3:S.R*S.C≤256*191:=by rw[hR];exact Nat.mul_le_mul_left _ hC
 refine⟨ho.ok,hK,hR,fun x hx=>?_,hn,hz.1,hz.2,⟨?_,?_,?_⟩⟩
 ·have:=chain_in ho.ch x hx
  exact⟨this.2.2,by omega⟩
 ·unfold padN
  rw[hR]
  split<;>omega
 ·rw[parL_len];omega
 ·intro s hs
  unfold parL at hs;rw[List.mem_map]at hs;obtain⟨i,_,rfl⟩:=hs;rw[←bl_len,bl_str];unfold FrC.colS;rw[List.length_map,List.length_range,fresh_R,hR];rfl
theorem frs_D {C K:Nat} (hC:C≤191) (hK:K≤64) (D:List ByteArray) (hl:D.length≤20) (h0:(frD 256 C K D).L.length≠0):FrS (frD 256 C K D):=by
 obtain⟨r1,r2,r3⟩:=frD_R 256 C K D;have ho:=frD_ok (R:=256) (C:=C) (K:=K) (by decide) (by decide) hC D;have hn:=frD_len 256 C K D;exact⟨mks_of ho r1 (by omega) (by omega) (by omega),ho,frD_lay (by decide) (by decide) hC D,h0⟩
structure AllIn (S:Fr) (D:List ByteArray):Prop where
 t:S.L.map (·.2)=D
 u:S.used=(D.map ByteArray.size).sum
theorem all_in {R C K:Nat} {D:List ByteArray} (hD: ∀d∈D,dgE d=0) (hs:(D.map ByteArray.size).sum≤R*C): ∀k,k≤D.length→AllIn (frD R C K (D.take k)) (D.take k)∧ ∀d,D[k]? =some d→addE (frD R C K (D.take k)) d=0
 |0,_=>by
  refine⟨⟨rfl,rfl⟩,fun d hd=>?_⟩;unfold addE;have h1:=hD d (List.mem_of_getElem? hd);rw[if_neg (by rw[h1];decide),if_neg ?_];show ¬R*C<0+d.size
  cases D with
  |nil=>simp at hd
  |cons x t=>
   simp at hd;subst hd;simp at hs;omega
 |k+1,hk=>by
  obtain⟨⟨i1,i2⟩,i3⟩:=all_in hD hs k (by omega);obtain⟨x,hx⟩: ∃x,D[k]? =some x:=⟨_,List.getElem?_eq_getElem (by omega)⟩;have e0:=i3 x hx;have et:D.take (k+1)=D.take k++[x]:=by rw[List.take_add_one,hx];rfl
  have hS:frD R C K (D.take (k+1))=addS (frD R C K (D.take k)) x:=by rw[et,frD_snoc]
  have hL:(addS (frD R C K (D.take k)) x).L=(frD R C K (D.take k)).L++[((frD R C K (D.take k)).used,x)]∧(addS (frD R C K (D.take k)) x).used=(frD R C K (D.take k)).used+x.size:=by
   unfold addS;rw[if_neg (by rw[e0];decide)];exact⟨rfl,rfl⟩
  have hu:(frD R C K (D.take (k+1))).used=((D.take (k+1)).map ByteArray.size).sum:=by
   rw[hS,hL.2,et,List.map_append,List.sum_append,i2];simp
  refine⟨⟨by rw[hS,hL.1,et,List.map_append,i1];rfl,hu⟩,fun d hd=>?_⟩;unfold addE;rw[if_neg (by rw[hD d (List.mem_of_getElem? hd)];decide),hu,(frD_R R C K (D.take (k+1))).1,(frD_R R C K (D.take (k+1))).2.1,if_neg ?_]
  have h9:((D.take (k+1)).map ByteArray.size).sum+d.size≤(D.map ByteArray.size).sum:=by
   have e:D=D.take (k+1)++d::D.drop (k+2):=by
    have hlt:=(List.getElem?_eq_some_iff.1 hd).1;have h7:D.drop (k+1)=d::D.drop (k+2):=by rw[←(List.getElem?_eq_some_iff.1 hd).2];exact List.drop_eq_getElem_cons hlt
    rw[←h7,List.take_append_drop]
   conv=>rhs;rw[e]
   rw[List.map_append,List.sum_append];simp
  omega
def gramL (n:Nat) (l:List Int):List ByteArray:=(List.range l.length).map fun i=>madeD (l.getD i 0) (n+i)
theorem gramL_len (n:Nat) (l:List Int):(gramL n l).length=l.length:=by simp[gramL]
theorem gramL_get {n:Nat} {l:List Int} {k:Nat} {z:Int} (h:l[k]? =some z):(gramL n l)[k]? =some (madeD z (n+k)):=by
 unfold gramL;rw[List.getElem?_map,List.getElem?_range (List.getElem?_eq_some_iff.1 h).1];simp[h]
theorem gramL_ok {n:Nat} {l:List Int}: ∀d∈gramL n l,dgE d=0:=fun d hd=>by
 obtain⟨i,_,rfl⟩:=List.mem_map.1 hd;exact(made_ok _ _).1
theorem sum_le' {l:List Nat} {m:Nat} (h: ∀x∈l,x≤m):l.sum≤l.length*m:=by
 induction l with
 |nil=>simp
 |cons a t ih=>
  have h1:=h a (by simp);have h2:=ih (fun x hx=>h x (by simp[hx]));rw[List.sum_cons,List.length_cons,Nat.add_mul];omega
theorem gramL_sum {n:Nat} {l:List Int} (h: ∀x∈l,x≤1000):((gramL n l).map ByteArray.size).sum≤l.length*1020:=by
 have:=sum_le' (l:=(gramL n l).map ByteArray.size) (m:=1020) (fun x hx=>by
  obtain⟨d,hd,rfl⟩:=List.mem_map.1 hx;obtain⟨i,hi,rfl⟩:=List.mem_map.1 hd;have hi:=List.mem_range.1 hi;rw[(made_ok _ _).2];unfold madeK
  have h2:l.getD i 0≤1000:=by
   rw[List.getD_eq_getElem?_getD,List.getElem?_eq_getElem hi];exact h _ (List.getElem_mem hi)
  omega)
 rw[List.length_map,gramL_len]at this;exact this
end Go.Proofs.YtdbpkhnmhddmmaaGreatDoor.FrG
