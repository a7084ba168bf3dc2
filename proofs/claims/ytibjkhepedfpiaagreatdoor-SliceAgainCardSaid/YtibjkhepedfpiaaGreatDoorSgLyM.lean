import Derived.Test.YtibjkhepedfpiaaGreatDoorSgLyB
namespace Go.Proofs.YtibjkhepedfpiaaGreatDoor.LyM
open Go St BiH SeG PaA PaR PaP PaN PaK SlM SlP SlR SlS SlW PkP PkY PkL LyP LyA LyB
theorem out_len: ∀(L:List Br) (s:Lst),checkE (s.out.length:Int) L=0→((L.foldl layStep s).out.length:Int)=endE (s.out.length:Int) L
 |[],_,_=>rfl
 |b::t,s,h=>by
  obtain⟨h1,h2,h3,h4⟩:=checkE_cons h
  have hl:(layStep s b).out.length=b.at_.toNat+nS b.S:=by
   unfold layStep;simp only[List.length_append,List.length_replicate,pks_len];omega
  have h5:=h1.2.2.1;have e:((layStep s b).out.length:Int)=b.at_+nS b.S:=by omega
  have em:(manyN b.S:Int)=nS b.S:=by unfold manyN nS;rw[if_pos h2]
  rw[List.foldl_cons,endE,em,←e];exact out_len t _ (by rw[e];exact h4)
theorem lay_len {L:List Br} (h:checkE 0 L=0):((layF L).out.length:Int)=endE 0 L:=out_len L ⟨[],fun _=>0⟩ h
end Go.Proofs.YtibjkhepedfpiaaGreatDoor.LyM
