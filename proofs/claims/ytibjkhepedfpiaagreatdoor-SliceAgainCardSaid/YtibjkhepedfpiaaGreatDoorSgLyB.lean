import Derived.Test.YtibjkhepedfpiaaGreatDoorSgRdV
import Derived.Test.YtibjkhepedfpiaaGreatDoorSgRdS
import Derived.Test.YtibjkhepedfpiaaGreatDoorSgLyA
namespace Go.Proofs.YtibjkhepedfpiaaGreatDoor.LyB
open Go Go.RowKit Mem St BiH SeG PaA PaR PaP PaN PaK SlM SlP SlR SlS SlW PkP PkY PkL RdP RdQ RdW RdV RdS LyP LyA StP
noncomputable def got (x:Int) (L:List Br):Rs:=rdUp x (layF L).out (layF L).out.length
theorem got_slots {b:Br} (h:checkE 0 [b]=0):(got b.pid [b]).sl=(stS (b.at_-1) 0 (b.S.map ByteArray.size)).map Prod.fst∧(got b.pid [b]).en=(stS (b.at_-1) 0 (b.S.map ByteArray.size)).map Prod.snd:=by
 obtain⟨h1,h2,_,_⟩:=checkE_cons h;have hx:b.pid≠8191:=by have:=h1.2.1;omega
 have e:(layF [b]).out=List.replicate b.at_.toNat nilPk++pks b.pid 0 b.S (nS b.S):=by
  show([]++List.replicate (b.at_.toNat-0) nilPk++pks b.pid 0 b.S (nS b.S))=_;simp
 have hl:(layF [b]).out.length=b.at_.toNat+nS b.S:=by rw[e,List.length_append,List.length_replicate,pks_len]
 have:=burst_slots (k0:=b.at_.toNat) hx 0 (many_first h2).2;unfold got;rw[hl,e];rw[show((b.at_.toNat:Nat):Int)=b.at_ by have:=h1.2.2.1;omega]at this;exact this
end Go.Proofs.YtibjkhepedfpiaaGreatDoor.LyB
