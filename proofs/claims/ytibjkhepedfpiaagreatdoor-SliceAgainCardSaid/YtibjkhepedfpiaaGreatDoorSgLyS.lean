import Derived.Test.YtibjkhepedfpiaaGreatDoorSgLyB
import Derived.Test.YtibjkhepedfpiaaGreatDoorSgStA
namespace Go.Proofs.YtibjkhepedfpiaaGreatDoor.LyS
open Go Go.RowKit Q Mem Rg Ap ApG St CrB PaA PaK PaP SlM SlA SlB SlC SlP SlR SlS SlW SlX SlT SlOpn PkE PkL StP StA LyA LyB
set_option maxRecDepth 100000
theorem near_any (e:Int) (w:World):Calls Tryz.prog 10 #[.int .i64 e] w fun E w'=>E= .returned (.bool (decide (e<1000)))∧w=w':=by
 go_enter Tryz.func10,Tryz.ntmps10
 go_wp2_with fail
 go_ret;exact⟨rfl,rfl⟩
theorem rb_small {r:Rn} (h:fewR r) (hi: ∀p∈r.l,PcOk p):Small (rb r):=by
 obtain⟨h1,h2,h3⟩:=h;refine⟨by show(r.l.map Pc.bytes).length≤1000;rw[List.length_map];omega,fun s hs=>?_⟩;obtain⟨p,hp,rfl⟩:=List.mem_map.1 hs;exact SlQ.bytes_size p (h3 p hp) (hi p hp).2
end Go.Proofs.YtibjkhepedfpiaaGreatDoor.LyS
