import Derived.Test.YtibjkhepedfpiaaGreatDoorSgRdW
import Derived.Test.YtibjkhepedfpiaaGreatDoorSgLyP
import Derived.Test.YtibjkhepedfpiaaGreatDoorSgStP
namespace Go.Proofs.YtibjkhepedfpiaaGreatDoor.RdS
open Go St PaN PaP RdQ BiH PaK PkP PkY PkL RdP RdW LyP StP
def ssOf (s:Rs):Ss:=⟨s.sl,s.en,bl s.held,s.fr⟩
theorem map_str (l:List Bs):(l.map str).map bl=l:=by
 induction l with
 |nil=>rfl
 |cons a t ih=>rw[List.map_cons,List.map_cons,ih,bl_str]
theorem bl_tail (b:ByteArray) (r:Nat):bl (b.extract r b.size)=(bl b).drop r:=by
 unfold bl;simp[ByteArray.data_extract];exact List.take_of_length_le (by simp)
theorem rs_q (b:ByteArray):rs b=rsQ (bl b):=by
 unfold rs rsQ;rw[b0_get,bl_tail]
theorem hd_q (s:Rs) (start:Bool) (b:ByteArray):bl (hd s start b)=hdQ (bl s.held) start (bl b):=by
 unfold hd hdQ;rw[St.bl_app,b0_get]
 cases start with
 |true=>rw[if_pos rfl,if_pos rfl,bl_mid]
 |false=>rw[if_neg (by decide),if_neg (by decide)]
theorem bl_take (b:ByteArray) (k:Nat):bl (b.extract 0 k)=(bl b).take k:=by
 unfold bl;simp[ByteArray.data_extract]
theorem one_q (s:Rs) (i:Nat) (start:Bool) (b:ByteArray):
 ((rdOne s i start b).T.map bl,bl (rdOne s i start b).held)=rdStep (s.T.map bl,bl s.held) (start,bl b)∧ssOf (rdOne s i start b)=ssStep (ssOf s) i start (bl b)∧(rdOne s i start b).n=s.n+1:=by
 have e1:=hd_q s start b
 cases start with
 |true=>
  have e2:hdQ (bl s.held) true (bl b)=bl s.held++((bl b).drop 1).take ((bl b).getD 0 0).toNat:=by unfold hdQ;rw[if_pos rfl]
  unfold rdOne rdStep ssStep rdPkt ssOf;simp only[if_true];refine⟨?_,?_,by first|rfl|trivial⟩
  ·rw[←e2,←e1,List.map_append,map_str,List.map_append,rs_q,bl_str]
   refine Prod.ext ?_ rfl;show _=_++((if _ then _ else _)++(rsQ (bl b)).1);rw[List.append_assoc]
   congr 2
   split<;>rfl
  ·rw[←e1,rs_q,bl_str]
 |false=>
  have e2:hdQ (bl s.held) false (bl b)=bl s.held++bl b:=by unfold hdQ;rw[if_neg (by decide)]
  unfold rdOne rdStep ssStep rdPkt ssOf;simp only[Bool.false_eq_true,if_false];refine⟨?_,?_,by first|rfl|trivial⟩
  ·rw[←e2,←e1,List.map_append]
   refine Prod.ext ?_ ?_
   ·show _++_=_++_
    congr 1
    split
    ·rw[List.map_cons,bl_take];rfl
    ·rfl
   ·show bl (if _ then _ else _)=if _ then _ else _
    split<;>rfl
  ·rw[←e1]
   congr 1
   split<;>rfl
theorem up_burst (x:Int) (k0:Nat) (hx:x≠8191) (c:Nat) (S:List ByteArray) (K:Nat): ∀k,k≤K→ssOf (rdUp x (List.replicate k0 nilPk++pks x c S K) (k0+k))=ssI (S.map bl) ⟨[],[],[],0⟩ k0 k
 |0,_=>by
  have h0: ∀j,j≤k0→rdUp x (List.replicate k0 nilPk++pks x c S K) j=⟨[],[],[],nob,0,0⟩:=by
   intro j
   induction j with
   |zero=>intro _;rfl
   |succ j ih=>
    intro hj;rw[rdUp,List.getElem?_append_left (by simp;omega),List.getElem?_replicate,if_pos (by omega)];dsimp only;rw[if_neg (fun e=>hx (show x=8191 from e.symm)),ih (by omega)]
  rw[Nat.add_zero,h0 k0 (Nat.le_refl _)];rfl
 |k+1,h=>by
  have ih:=up_burst x k0 hx c S K k (by omega);rw[←Nat.add_assoc,rdUp,List.getElem?_append_right (by simp)];rw[show k0+k-(List.replicate k0 nilPk).length=k by simp];unfold pks;rw[List.getElem?_map,List.getElem?_range (by omega)];show ssOf (if(pkI x c S k).pid=x then _ else _)=_;rw[if_pos (show(pkI x c S k).pid=x from rfl)];show ssOf (rdOne (rdUp x (List.replicate k0 nilPk++pks x c S K) (k0+k)) (k0+k) (startB (stI S k).1 (stI S k).2) (str (bodyL (stI S k).1 (stI S k).2)))=_;rw[(one_q _ _ _ _).2.1,ih,bl_str,ssI,start_q,body_q,←st_q];rfl
theorem burst_slots {x:Int} {k0:Nat} (hx:x≠8191) (c:Nat) {S:List ByteArray} (h:firstE S=0):
 (rdUp x (List.replicate k0 nilPk++pks x c S (nS S)) (k0+nS S)).sl=(stS ((k0:Int)-1) 0 (S.map ByteArray.size)).map Prod.fst∧
  (rdUp x (List.replicate k0 nilPk++pks x c S (nS S)) (k0+nS S)).en=(stS ((k0:Int)-1) 0 (S.map ByteArray.size)).map Prod.snd:=by
 have h1:=up_burst x k0 hx c S (nS S) (nS S) (Nat.le_refl _);obtain⟨h2,h3,_⟩:=ss_end (bst_of h) ⟨[],[],[],0⟩ rfl (k0:Int);rw[←h1]at h2 h3
 have e:lens (S.map bl)=S.map ByteArray.size:=by
  unfold lens;rw[List.map_map];exact List.map_congr_left (fun s _=>bl_len s)
 rw[e]at h2 h3;exact⟨h2,h3⟩
end Go.Proofs.YtibjkhepedfpiaaGreatDoor.RdS
