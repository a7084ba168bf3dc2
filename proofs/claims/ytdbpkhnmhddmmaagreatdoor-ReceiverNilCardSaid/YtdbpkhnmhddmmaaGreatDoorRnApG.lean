import Derived.Test.YtdbpkhnmhddmmaaGreatDoorRnPkA
namespace Go.Proofs.YtdbpkhnmhddmmaaGreatDoor.ApG
open Go Go.RowKit Mem Q Rg Ap
section
variable {P:Program} {ops:Array Oper} {rest:List Oper} {o:Oper} {a:Act} {w:World} {Q:Exit→Act→World→Prop}
theorem wpList_appG {t e:TypeId} {sz bytes base:Nat} (hgd:o.guard=none) (s x:Operand) (ho:o.op= .call {callee:= .builtin .append,args:= #[s,x],argTypes:= #[t,t]}) (hE:Elem P t e sz bytes)
 {v:Value} {n m c:Nat} {xs news:List Value} {ad:Addr} (hs:a.eval s=v) (hown:w.ownsRow base e sz v n xs) (hx:a.eval x= .slice (some ad) m c) (hl:news.length=m*sz) (hnews: ∀j u,news[j]? =some u→w.cell? (ad.add j)=some u) (h1: ∀u∈news,u.oneCell'=true)
 (hn:(n+m)*bytes≤140737488355328) (hn2:n+m≤maxLen) (hbase:base≤w.heap.size)
 (h: ∀v' w',w'.ownsRow base e sz v' (n+m) (xs++news)→w.grownBy w' v.ownBlock→(v'.ownBlock=v.ownBlock∨v'.ownBlock=some w.heap.size)→wpList P ops Q rest (a.put o.dst v') w'):wpList P ops Q (o::rest) a w:=by
 obtain⟨i,z,hi,hz,hsz,hby,hzs⟩:=hE.i;obtain⟨v',w',hr,h2,h3,_,h4⟩:=run_append_own_at (P:=P) w base t o.type e i z sz bytes hE.t hi hz hsz hby hzs hE.pos v n xs hown ad m c news hl hnews h1 hn2 hn hbase;refine wpList_plain hgd fun _ hK=>?_;unfold Oper.wp execOp;simp only[ho,resolve,invoke,builtin,Sem.run_bind,Sem.run_pure,Result.andThen_ok,List.map_toArray,List.map_cons,List.map_nil,hs,hx,hr];exact hK _ _ (h v' w' h2 h3 h4)
end
theorem own_base {w:World} {B B' n sz:Nat} {e:TypeId} {v:Value} {xs:List Value} (h:w.ownsRow B e sz v n xs) (hb:B'≤B):w.ownsRow B' e sz v n xs:=by
 refine⟨h.1,?_⟩;rcases h.2 with h1|⟨g,cap,cur,h1,h2,h3⟩
 ·exact Or.inl h1
 ·exact Or.inr ⟨g,cap,cur,h1,Nat.le_trans hb h2,h3⟩
theorem own_cap {w:World} {B n sz:Nat} {e:TypeId} {v:Value} {xs:List Value} (h:w.ownsRow B e sz v n xs): ∃a c,v= .slice a n c∧n≤c:=by
 rcases h.2 with⟨e1,e0⟩|⟨g,cap,cur,e1,_,_,hc,_⟩
 ·exact⟨none,0,by rw[e1,e0],by omega⟩
 ·exact⟨some ⟨g,0,none⟩,cap,e1,hc⟩
section
variable {e T:TypeId} {sz n B:Nat} {xs:List Value} {f:Value→Array Value}
end
section
variable {P:Program} {W:World} {sp:List (Nat×Sp)} {σ:Nat→Value} {o:Oper} {a:Act}
end
end Go.Proofs.YtdbpkhnmhddmmaaGreatDoor.ApG
