import Derived.Test.YtibjkhepedfpiaaDoorSlSlB
namespace Go.Proofs.YtibjkhepedfpiaaDoor.SlC
open Go Go.RowKit Q Mem Rg Ap St CrB SlA SlB
structure Rn where
 pid:Int
 at_:Int
 la:Option Addr
 lc:Nat
 l:List Pc
def enRn (r:Rn):List Value:=[.int .i64 r.pid,.int .i64 r.at_,.slice r.la r.l.length r.lc]
def fewR (r:Rn):Prop:=r.l.length≤8∧ ¬(300<r.at_∧r.at_<1048570)∧ ∀p∈r.l,p.text.size≤5000
instance (r:Rn):Decidable (fewR r):=by unfold fewR;infer_instance
def fewB (L:List Rn):Bool:=L.all (fun r=>decide (fewR r))&&decide (L.length≤8)
theorem few_no {L:List Rn} {k:Nat} {r:Rn} (h:L[k]? =some r) (hf: ¬fewR r):fewB L=false:=by
 unfold fewB
 have:L.all (fun r=>decide (fewR r))=false:=by
  rw[List.all_eq_false];exact⟨r,List.mem_of_getElem? h,by simpa using hf⟩
 rw[this,Bool.false_and]
theorem few_yes {L:List Rn} (h: ∀(j:Nat) (r:Rn),L[j]? =some r→fewR r):fewB L=decide (L.length≤8):=by
 unfold fewB
 have:L.all (fun r=>decide (fewR r))=true:=by
  rw[List.all_eq_true];intro r hr;obtain⟨j,hj,hj2⟩:=List.getElem_of_mem hr;exact decide_eq_true (h j r (by rw[List.getElem?_eq_getElem hj,hj2]))
 rw[this,Bool.true_and]
set_option maxRecDepth 100000
set_option maxHeartbeats 3200000 in
theorem few_any (a:Option Addr) (n c:Nat) (L:List Rn) (w:World) (hn:L.length=n) (hl:n≤9223372036854775807) (hL:Seq enRn 3 w a L) (hP: ∀r∈L,Seq enPc 5 w r.la r.l∧r.l.length≤9223372036854775807):
 Calls Tryd.prog 5 #[.slice a n c] w fun e w'=>e= .returned (.bool (fewB L))∧w=w':=by
 have HL:=Lib.hid hL;have HN:=Lib.hid hn;have HP:=Lib.hid hP;obtain⟨F,hF⟩: ∃F,fewB L=F:=⟨_,rfl⟩;have HF:=Lib.hid hF;rw[hF];clear hL hn hP hF
 go_enter Tryd.func5,Tryd.ntmps5
 go_wp2_with fail
 go_loopw [3] (fun i wr=> ∃k:Nat,k≤n∧i= .int .i64 k∧w=wr∧Hid (∀(j:Nat) (r:Rn),j<k→L[j]? =some r→fewR r)) (fun i _=>n-(intOf i).toNat)
 case atStart=>exact⟨0,by omega,rfl,rfl,Lib.hid (fun j r h=>by omega)⟩
 case round=>
  obtain⟨k,hk,rfl,rfl,hK⟩:=hrel;by_cases hkn:k<n
  ·have t0:decide (k<n)=true:=decide_eq_true hkn
   obtain⟨r,hr⟩: ∃r,L[k]? =some r:=⟨_,List.getElem?_eq_getElem (by rw[HN.out];exact hkn)⟩;obtain⟨b0,o0,rfl,hlt,hc⟩:=HL.out k r hr;have HR:=Lib.hid hr;have HQ:=Lib.hid (HP.out r (List.mem_of_getElem? hr));have k0:(0:Int)≤(k:Int):=Int.natCast_nonneg _;have k1:(k:Int)<(n:Int):=by omega
   have c1:=hc 1 _ rfl;have c2:=hc 2 _ rfl;rw[off_eq]at c1 c2;obtain⟨pid,at_,la,lc,l⟩:=r;dsimp only at c1 c2;obtain⟨M,hM⟩: ∃M,l.length=M:=⟨_,rfl⟩;rw[hM]at c2;have HM:=Lib.hid hM;clear hc hr hM hlt;by_cases h8:M≤8
   ·have t1:decide (8<M)=false:=decide_eq_false (by omega)
    have t2:decide ((8:Int)<(M:Int))=false:=decide_eq_false (by omega);by_cases ha:300<at_∧at_<1048570
    ·have t3:decide (300<at_)=true:=decide_eq_true ha.1
     have t4:decide (at_<1048570)=true:=decide_eq_true ha.2;have HE:=Lib.hid (few_no HR.out (fun h=>h.2.1 ha));clear ha
     go_wp2_with fail
     go_ret;exact⟨by rw[←HF.out,HE.out];rfl,rfl⟩
    ·have HA:=Lib.hid ha
     by_cases h3:300<at_
     ·have t3:decide (300<at_)=true:=decide_eq_true h3
      have t4:decide (at_<1048570)=false:=decide_eq_false (fun h=>ha ⟨h3,h⟩);clear ha h3
      go_wp2_with fail
      go_loopw [4] (fun i wr=> ∃q:Nat,q≤M∧i= .int .i64 q∧w=wr∧Hid (∀(j:Nat) (p:Pc),j<q→l[j]? =some p→p.text.size≤5000)) (fun i _=>M-(intOf i).toNat)
      case atStart=>exact⟨0,by omega,rfl,rfl,Lib.hid (fun j p h=>by omega)⟩
      case round=>
       obtain⟨q,hq,rfl,rfl,hQ⟩:=hrel;by_cases hqm:q<M
       ·have t5:decide (q<M)=true:=decide_eq_true hqm
        obtain⟨p,hp⟩: ∃p,l[q]? =some p:=⟨_,List.getElem?_eq_getElem (by rw[HM.out];exact hqm)⟩;obtain⟨b9,o9,hla,hlt,hc⟩:=HQ.out.1 q p hp;subst hla;have q0:(0:Int)≤(q:Int):=Int.natCast_nonneg _;have q1:(q:Int)<(M:Int):=by omega
        have d4:=hc 4 _ rfl;rw[off_eq]at d4;have HPP:=Lib.hid hp;clear hc hlt hp;by_cases h5:p.text.size≤5000
        ·have t6:decide (5000<p.text.size)=false:=decide_eq_false (by omega)
         have t7:decide ((5000:Int)<(p.text.size:Int))=false:=decide_eq_false (by omega)
         have HX:=Lib.hid (show ∀(j:Nat) (p:Pc),j<q+1→l[j]? =some p→p.text.size≤5000 from fun j p' hj hp'=>by
          rcases Nat.lt_or_ge j q with h|h
          ·exact hQ.out j p' h hp'
          ·obtain rfl:j=q:=by omega
           rw[HPP.out]at hp';injection hp' with e
           rw[←e];exact h5)
         clear h5
         go_wp2_with fail
         go_roundw
         case rel=>exact⟨q+1,by omega,by go_num,by trivial,HX⟩
         case measure=>simp[intOf];omega
        ·have t6:decide (5000<p.text.size)=true:=decide_eq_true (by omega)
         have t7:decide ((5000:Int)<(p.text.size:Int))=true:=decide_eq_true (by omega);have HE:=Lib.hid (few_no HR.out (fun h=>h5 (h.2.2 p (List.mem_of_getElem? HPP.out))));clear h5
         go_wp2_with fail
         go_ret;exact⟨by rw[←HF.out,HE.out];rfl,rfl⟩
       ·obtain rfl:q=M:=by omega
        have t5:decide (q<q)=false:=by simp
        have HX:=Lib.hid (show ∀(j:Nat) (r:Rn),j<k+1→L[j]? =some r→fewR r from fun j r' hj hr'=>by
         rcases Nat.lt_or_ge j k with h|h
         ·exact hK.out j r' h hr'
         ·obtain rfl:j=k:=by omega
          rw[HR.out]at hr';injection hr' with e
          rw[←e];refine⟨by show l.length≤8;rw[HM.out];exact h8,HA.out,fun p hp=>?_⟩;obtain⟨i,hi,hi2⟩:=List.getElem_of_mem hp;exact hQ.out i p (by rw[←HM.out];exact hi) (by rw[List.getElem?_eq_getElem hi,hi2]))
        clear hQ h8
        go_wp2_with fail
        go_roundw
        case rel=>exact⟨k+1,by omega,by go_num,by trivial,HX⟩
        case measure=>simp[intOf];omega
     ·have t3:decide (300<at_)=false:=decide_eq_false h3
      clear ha h3
      go_wp2_with fail
      go_loopw [4] (fun i wr=> ∃q:Nat,q≤M∧i= .int .i64 q∧w=wr∧Hid (∀(j:Nat) (p:Pc),j<q→l[j]? =some p→p.text.size≤5000)) (fun i _=>M-(intOf i).toNat)
      case atStart=>exact⟨0,by omega,rfl,rfl,Lib.hid (fun j p h=>by omega)⟩
      case round=>
       obtain⟨q,hq,rfl,rfl,hQ⟩:=hrel;by_cases hqm:q<M
       ·have t5:decide (q<M)=true:=decide_eq_true hqm
        obtain⟨p,hp⟩: ∃p,l[q]? =some p:=⟨_,List.getElem?_eq_getElem (by rw[HM.out];exact hqm)⟩;obtain⟨b9,o9,hla,hlt,hc⟩:=HQ.out.1 q p hp;subst hla;have q0:(0:Int)≤(q:Int):=Int.natCast_nonneg _;have q1:(q:Int)<(M:Int):=by omega
        have d4:=hc 4 _ rfl;rw[off_eq]at d4;have HPP:=Lib.hid hp;clear hc hlt hp;by_cases h5:p.text.size≤5000
        ·have t6:decide (5000<p.text.size)=false:=decide_eq_false (by omega)
         have t7:decide ((5000:Int)<(p.text.size:Int))=false:=decide_eq_false (by omega)
         have HX:=Lib.hid (show ∀(j:Nat) (p:Pc),j<q+1→l[j]? =some p→p.text.size≤5000 from fun j p' hj hp'=>by
          rcases Nat.lt_or_ge j q with h|h
          ·exact hQ.out j p' h hp'
          ·obtain rfl:j=q:=by omega
           rw[HPP.out]at hp';injection hp' with e
           rw[←e];exact h5)
         clear h5
         go_wp2_with fail
         go_roundw
         case rel=>exact⟨q+1,by omega,by go_num,by trivial,HX⟩
         case measure=>simp[intOf];omega
        ·have t6:decide (5000<p.text.size)=true:=decide_eq_true (by omega)
         have t7:decide ((5000:Int)<(p.text.size:Int))=true:=decide_eq_true (by omega);have HE:=Lib.hid (few_no HR.out (fun h=>h5 (h.2.2 p (List.mem_of_getElem? HPP.out))));clear h5
         go_wp2_with fail
         go_ret;exact⟨by rw[←HF.out,HE.out];rfl,rfl⟩
       ·obtain rfl:q=M:=by omega
        have t5:decide (q<q)=false:=by simp
        have HX:=Lib.hid (show ∀(j:Nat) (r:Rn),j<k+1→L[j]? =some r→fewR r from fun j r' hj hr'=>by
         rcases Nat.lt_or_ge j k with h|h
         ·exact hK.out j r' h hr'
         ·obtain rfl:j=k:=by omega
          rw[HR.out]at hr';injection hr' with e
          rw[←e];refine⟨by show l.length≤8;rw[HM.out];exact h8,HA.out,fun p hp=>?_⟩;obtain⟨i,hi,hi2⟩:=List.getElem_of_mem hp;exact hQ.out i p (by rw[←HM.out];exact hi) (by rw[List.getElem?_eq_getElem hi,hi2]))
        clear hQ h8
        go_wp2_with fail
        go_roundw
        case rel=>exact⟨k+1,by omega,by go_num,by trivial,HX⟩
        case measure=>simp[intOf];omega
   ·have t1:decide (8<M)=true:=decide_eq_true (by omega)
    have t2:decide ((8:Int)<(M:Int))=true:=decide_eq_true (by omega);have HE:=Lib.hid (few_no HR.out (fun h=>h8 (by have:=h.1;rw[←HM.out];exact this)));clear h8
    go_wp2_with fail
    go_ret;exact⟨by rw[←HF.out,HE.out];rfl,rfl⟩
  ·obtain rfl:k=n:=by omega
   have t0:decide (k<k)=false:=by simp
   have HE:=Lib.hid (show F=decide (k≤8)from by
    rw[←HF.out,few_yes (fun j r hj=>hK.out j r (by have:=(List.getElem?_eq_some_iff.1 hj).1;have:=HN.out;omega) hj),HN.out])
   go_wp2_with fail
   go_ret;exact⟨by rw[HE.out];simp;omega,rfl⟩
end Go.Proofs.YtibjkhepedfpiaaDoor.SlC
