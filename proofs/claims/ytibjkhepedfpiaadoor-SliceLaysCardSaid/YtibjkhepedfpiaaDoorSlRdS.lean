import Derived.Test.YtibjkhepedfpiaaDoorSlRdW
import Derived.Test.YtibjkhepedfpiaaDoorSlLyP
import Derived.Test.YtibjkhepedfpiaaDoorSlStP
namespace Go.Proofs.YtibjkhepedfpiaaDoor.RdS
open Go St PaN PaP RdQ BiH PaK PkP PkY PkL RdP RdW LyP StP
def ssOf (s:Rs):Ss:=⟨s.sl,s.en,bl s.held,s.fr⟩
theorem map_str (l:List Bs):(l.map str).map bl=l:=by
 induction l with
 |nil=>rfl
 |cons a t ih=>rw[List.map_cons,List.map_cons,ih,bl_str]
theorem bl_tail (b:ByteArray) (r:Nat):bl (b.extract r b.size)=(bl b).drop r:=by
 unfold bl;simp[ByteArray.data_extract];exact List.take_of_length_le (by simp)
theorem rs_q (b:ByteArray):rs b=rsQ (bl b):=by
 unfold rs rsQ;rw[b0_get,bl_tail]
theorem hd_q (s:Rs) (start:Bool) (b:ByteArray):bl (hd s start b)=hdQ (bl s.held) start (bl b):=by
 unfold hd hdQ;rw[St.bl_app,b0_get]
 cases start with
 |true=>rw[if_pos rfl,if_pos rfl,bl_mid]
 |false=>rw[if_neg (by decide),if_neg (by decide)]
theorem bl_take (b:ByteArray) (k:Nat):bl (b.extract 0 k)=(bl b).take k:=by
 unfold bl;simp[ByteArray.data_extract]
theorem one_q (s:Rs) (i:Nat) (start:Bool) (b:ByteArray):
 ((rdOne s i start b).T.map bl,bl (rdOne s i start b).held)=rdStep (s.T.map bl,bl s.held) (start,bl b)∧ssOf (rdOne s i start b)=ssStep (ssOf s) i start (bl b)∧(rdOne s i start b).n=s.n+1:=by
 have e1:=hd_q s start b
 cases start with
 |true=>
  have e2:hdQ (bl s.held) true (bl b)=bl s.held++((bl b).drop 1).take ((bl b).getD 0 0).toNat:=by unfold hdQ;rw[if_pos rfl]
  unfold rdOne rdStep ssStep rdPkt ssOf;simp only[if_true];refine⟨?_,?_,by first|rfl|trivial⟩
  ·rw[←e2,←e1,List.map_append,map_str,List.map_append,rs_q,bl_str]
   refine Prod.ext ?_ rfl;show _=_++((if _ then _ else _)++(rsQ (bl b)).1);rw[List.append_assoc]
   congr 2
   split<;>rfl
  ·rw[←e1,rs_q,bl_str]
 |false=>
  have e2:hdQ (bl s.held) false (bl b)=bl s.held++bl b:=by unfold hdQ;rw[if_neg (by decide)]
  unfold rdOne rdStep ssStep rdPkt ssOf;simp only[Bool.false_eq_true,if_false];refine⟨?_,?_,by first|rfl|trivial⟩
  ·rw[←e2,←e1,List.map_append]
   refine Prod.ext ?_ ?_
   ·show _++_=_++_
    congr 1
    split
    ·rw[List.map_cons,bl_take];rfl
    ·rfl
   ·show bl (if _ then _ else _)=if _ then _ else _
    split<;>rfl
  ·rw[←e1]
   congr 1
   split<;>rfl
theorem up_fold (x:Int) (P:List Pkt): ∀i,i≤P.length→((rdUp x P i).T.map bl,bl (rdUp x P i).held)=((ofPid x (P.take i)).map pkQ).foldl rdStep ([],[])∧(rdUp x P i).n=(ofPid x (P.take i)).length
 |0,_=>⟨rfl,rfl⟩
 |i+1,h=>by
  obtain⟨h1,h2⟩:=up_fold x P i (by omega);have hp:P[i]? =some (P[i]'(by omega)):=List.getElem?_eq_getElem (by omega);rw[List.take_add_one,hp,Option.toList,ofPid_app];obtain⟨p,hpp⟩: ∃p,(P[i]'(by omega))=p:=⟨_,rfl⟩;rw[hpp]at hp ⊢;rw[rdUp,hp];dsimp only;by_cases hx:p.pid=x
  ·have e:ofPid x [p]=[p]:=by unfold ofPid;rw[List.filter_cons_of_pos (by simpa using hx)];rfl
   obtain⟨o1,_,o3⟩:=one_q (rdUp x P i) i p.start p.body;rw[if_pos hx,e,List.map_append,List.foldl_append,←h1,o1,o3,h2];exact⟨rfl,by simp⟩
  ·have e:ofPid x [p]=[]:=by unfold ofPid;rw[List.filter_cons_of_neg (by simpa using hx)];rfl
   rw[if_neg hx,e,List.append_nil];exact⟨h1,h2⟩
theorem good_all {x:Int} {P:List Pkt} (hok:AllOk ([],[]) ((ofPid x P).map pkQ)) (hc:Cnt (ofPid x P)): ∀i p,P[i]? =some p→p.pid=x→RdW.Good (rdUp x P i) p:=fun i p hp hx=>by
 have hlt:=(List.getElem?_eq_some_iff.1 hp).1;obtain⟨h1,h2⟩:=up_fold x P i (Nat.le_of_lt hlt)
 have hs:ofPid x P=ofPid x (P.take i)++p::ofPid x (P.drop (i+1)):=by
  have e:P=P.take i++(p::P.drop (i+1)):=by
   rw[←(List.getElem?_eq_some_iff.1 hp).2,←List.drop_eq_getElem_cons hlt,List.take_append_drop]
  conv=>lhs;rw[e]
  rw[ofPid_app]
  congr 1
  unfold ofPid;rw[List.filter_cons_of_pos (by simpa using hx)]
 rw[hs]at hok hc;refine⟨?_,?_⟩
 ·rw[h2]
  exact hc _ p (by rw[List.getElem?_append_right (Nat.le_refl _),Nat.sub_self];rfl)
 ·rw[List.map_append,allok_append,←h1]at hok
  exact hok.2.1
theorem up_burst (x:Int) (k0:Nat) (hx:x≠8191) (c:Nat) (S:List ByteArray) (K:Nat): ∀k,k≤K→ssOf (rdUp x (List.replicate k0 nilPk++pks x c S K) (k0+k))=ssI (S.map bl) ⟨[],[],[],0⟩ k0 k
 |0,_=>by
  have h0: ∀j,j≤k0→rdUp x (List.replicate k0 nilPk++pks x c S K) j=⟨[],[],[],nob,0,0⟩:=by
   intro j
   induction j with
   |zero=>intro _;rfl
   |succ j ih=>
    intro hj;rw[rdUp,List.getElem?_append_left (by simp;omega),List.getElem?_replicate,if_pos (by omega)];dsimp only;rw[if_neg (fun e=>hx (show x=8191 from e.symm)),ih (by omega)]
  rw[Nat.add_zero,h0 k0 (Nat.le_refl _)];rfl
 |k+1,h=>by
  have ih:=up_burst x k0 hx c S K k (by omega);rw[←Nat.add_assoc,rdUp,List.getElem?_append_right (by simp)];rw[show k0+k-(List.replicate k0 nilPk).length=k by simp];unfold pks;rw[List.getElem?_map,List.getElem?_range (by omega)];show ssOf (if(pkI x c S k).pid=x then _ else _)=_;rw[if_pos (show(pkI x c S k).pid=x from rfl)];show ssOf (rdOne (rdUp x (List.replicate k0 nilPk++pks x c S K) (k0+k)) (k0+k) (startB (stI S k).1 (stI S k).2) (str (bodyL (stI S k).1 (stI S k).2)))=_;rw[(one_q _ _ _ _).2.1,ih,bl_str,ssI,start_q,body_q,←st_q];rfl
theorem burst_slots {x:Int} {k0:Nat} (hx:x≠8191) (c:Nat) {S:List ByteArray} (h:firstE S=0):
 (rdUp x (List.replicate k0 nilPk++pks x c S (nS S)) (k0+nS S)).sl=(stS ((k0:Int)-1) 0 (S.map ByteArray.size)).map Prod.fst∧
  (rdUp x (List.replicate k0 nilPk++pks x c S (nS S)) (k0+nS S)).en=(stS ((k0:Int)-1) 0 (S.map ByteArray.size)).map Prod.snd:=by
 have h1:=up_burst x k0 hx c S (nS S) (nS S) (Nat.le_refl _);obtain⟨h2,h3,_⟩:=ss_end (bst_of h) ⟨[],[],[],0⟩ rfl (k0:Int);rw[←h1]at h2 h3
 have e:lens (S.map bl)=S.map ByteArray.size:=by
  unfold lens;rw[List.map_map];exact List.map_congr_left (fun s _=>bl_len s)
 rw[e]at h2 h3;exact⟨h2,h3⟩
end Go.Proofs.YtibjkhepedfpiaaDoor.RdS
