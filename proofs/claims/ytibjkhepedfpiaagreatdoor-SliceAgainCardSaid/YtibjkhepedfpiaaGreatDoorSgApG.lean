import Derived.Test.YtibjkhepedfpiaaGreatDoorSgPkA
namespace Go.Proofs.YtibjkhepedfpiaaGreatDoor.ApG
open Go Go.RowKit Mem Q Rg Ap
section
variable {P:Program} {ops:Array Oper} {rest:List Oper} {o:Oper} {a:Act} {w:World} {Q:Exit→Act→World→Prop}
theorem wpList_appG {t e:TypeId} {sz bytes base:Nat} (hgd:o.guard=none) (s x:Operand) (ho:o.op= .call {callee:= .builtin .append,args:= #[s,x],argTypes:= #[t,t]}) (hE:Elem P t e sz bytes)
 {v:Value} {n m c:Nat} {xs news:List Value} {ad:Addr} (hs:a.eval s=v) (hown:w.ownsRow base e sz v n xs) (hx:a.eval x= .slice (some ad) m c) (hl:news.length=m*sz) (hnews: ∀j u,news[j]? =some u→w.cell? (ad.add j)=some u) (h1: ∀u∈news,u.oneCell'=true)
 (hn:(n+m)*bytes≤140737488355328) (hn2:n+m≤maxLen) (hbase:base≤w.heap.size)
 (h: ∀v' w',w'.ownsRow base e sz v' (n+m) (xs++news)→w.grownBy w' v.ownBlock→(v'.ownBlock=v.ownBlock∨v'.ownBlock=some w.heap.size)→wpList P ops Q rest (a.put o.dst v') w'):wpList P ops Q (o::rest) a w:=by
 obtain⟨i,z,hi,hz,hsz,hby,hzs⟩:=hE.i;obtain⟨v',w',hr,h2,h3,_,h4⟩:=run_append_own_at (P:=P) w base t o.type e i z sz bytes hE.t hi hz hsz hby hzs hE.pos v n xs hown ad m c news hl hnews h1 hn2 hn hbase;refine wpList_plain hgd fun _ hK=>?_;unfold Oper.wp execOp;simp only[ho,resolve,invoke,builtin,Sem.run_bind,Sem.run_pure,Result.andThen_ok,List.map_toArray,List.map_cons,List.map_nil,hs,hx,hr];exact hK _ _ (h v' w' h2 h3 h4)
end
theorem own_other {w w':World} {B n sz:Nat} {e:TypeId} {v v1:Value} {xs:List Value} (h:w.ownsRow B e sz v n xs) (hg:w.grownBy w' v1.ownBlock) (hne: ∀r,v1.ownBlock=some r→v.ownBlock≠some r):w'.ownsRow B e sz v n xs:=
 h.kept hg (by
  cases hv:v.ownBlock with
  |none=>exact Or.inl rfl
  |some r=>exact Or.inr (fun e=>hne r e.symm hv))
theorem apart_step {v v1 v2:Value} {S:Nat} (hat:v2.ownBlock=v1.ownBlock∨v2.ownBlock=some S) (hlt: ∀r,v.ownBlock=some r→r<S) (hne: ∀r,v1.ownBlock=some r→v.ownBlock≠some r): ∀r,v.ownBlock=some r→v2.ownBlock≠some r:=fun r hr h2=>by
 rcases hat with e|e
 ·exact hne r (e▸h2) hr
 ·rw[e]at h2;injection h2 with h2;have:=hlt r hr;omega
theorem apart_symm {v v1:Value} (h: ∀r,v1.ownBlock=some r→v.ownBlock≠some r): ∀r,v.ownBlock=some r→v1.ownBlock≠some r:=fun r h1 h2=>h r h2 h1
theorem seq_only {α:Type} {en:α→List Value} {sz:Nat} {w w':World} {a:Option Addr} {L:List α} {row:Option Nat} (h:Seq en sz w a L) (hg:w.grownBy w' row) (hne: ∀b o,a=some ⟨b,o,none⟩→row≠some b):Seq en sz w' a L:=fun i x hi=>by
 obtain⟨b,o,e,hlt,hc⟩:=h i x hi;exact⟨b,o,e,Nat.lt_of_lt_of_le hlt hg.size,fun j u hj=>(hg.cell_far ⟨b,o+off sz i+j,none⟩ hlt (fun h=>hne b o e h.symm)).trans (hc j u hj)⟩
theorem own_base {w:World} {B B' n sz:Nat} {e:TypeId} {v:Value} {xs:List Value} (h:w.ownsRow B e sz v n xs) (hb:B'≤B):w.ownsRow B' e sz v n xs:=by
 refine⟨h.1,?_⟩;rcases h.2 with h1|⟨g,cap,cur,h1,h2,h3⟩
 ·exact Or.inl h1
 ·exact Or.inr ⟨g,cap,cur,h1,Nat.le_trans hb h2,h3⟩
theorem own_cap {w:World} {B n sz:Nat} {e:TypeId} {v:Value} {xs:List Value} (h:w.ownsRow B e sz v n xs): ∃a c,v= .slice a n c∧n≤c:=by
 rcases h.2 with⟨e1,e0⟩|⟨g,cap,cur,e1,_,_,hc,_⟩
 ·exact⟨none,0,by rw[e1,e0],by omega⟩
 ·exact⟨some ⟨g,0,none⟩,cap,e1,hc⟩
def newR (e:TypeId) (sz n B:Nat) (xs:List Value):Sp:=⟨fun _=>True,fun v W=>W.ownsRow B e sz v n xs⟩
def newA (f:Value→Array Value) (e:TypeId) (sz n B:Nat) (xs:List Value):Sp:=⟨fun _=>True,fun v W=> ∃u,v= .agg (f u)∧W.ownsRow B e sz u n xs⟩
def newSA (T:TypeId) (f:Value→Array Value) (e:TypeId) (sz n B:Nat) (xs:List Value):Sp:=⟨fun _=>True,fun v W=> ∃g u,v= .slice (some ⟨g,0,none⟩) 1 1∧B≤g∧Blk W g T (f u)∧W.ownsRow B e sz u n xs⟩
section
variable {e T:TypeId} {sz n B:Nat} {xs:List Value} {f:Value→Array Value}
theorem newR_inh: ∃v,(newR e sz n B xs).is v:=⟨undef,trivial⟩
theorem newA_inh: ∃v,(newA f e sz n B xs).is v:=⟨undef,trivial⟩
theorem newSA_inh: ∃v,(newSA T f e sz n B xs).is v:=⟨undef,trivial⟩
theorem newR_mono: ∀v w w',(newR e sz n B xs).post v w→Le w w'→(newR e sz n B xs).post v w':=fun _ _ _ h hle=>own_below h (le_below hle)
theorem newA_mono: ∀v w w',(newA f e sz n B xs).post v w→Le w w'→(newA f e sz n B xs).post v w':=fun _ _ _ ⟨u,h1,h⟩ hle=>⟨u,h1,own_below h (le_below hle)⟩
theorem newSA_mono: ∀v w w',(newSA T f e sz n B xs).post v w→Le w w'→(newSA T f e sz n B xs).post v w':=fun _ _ _ ⟨g,u,h1,h2,h3,h⟩ hle=>⟨g,u,h1,h2,Blk.below h3 (le_below hle) (Blk.lt h3),own_below h (le_below hle)⟩
end
section
variable {P:Program} {W:World} {sp:List (Nat×Sp)} {σ:Nat→Value} {o:Oper} {a:Act}
theorem spAt_app0 {t e:TypeId} {sz bytes B:Nat} (s x:Operand) (ho:o.op= .call {callee:= .builtin .append,args:= #[s,x],argTypes:= #[t,t]}) (hE:Elem P t e sz bytes)
 {m c:Nat} {news:List Value} {ad:Addr} (hs:a.eval s= .slice none 0 0) (hx:a.eval x= .slice (some ad) m c) (hl:news.length=m*sz) (hnews: ∀p:Ext,∀j u,news[j]? =some u→(ext W p).cell? (ad.add j)=some u) (h1: ∀u∈news,u.oneCell'=true)
 (hn:m*bytes≤140737488355328) (hn2:m≤maxLen) (hB:B≤W.heap.size):spAt P (fun w'=> ∃p:Ext,w'=ext W p) sp σ (newR e sz m B news) o a:=by
 rintro w ⟨p,rfl⟩ hd;obtain⟨i,z,hi,hz,hsz,hby,hzs⟩:=hE.i;have hsz2:=(below_ext W p).size;obtain⟨v',w',hr,h2,h3,_,h4⟩:=run_append_own_at (P:=P) (ext W p) B t o.type e i z sz bytes hE.t hi hz hsz hby hzs hE.pos (.slice none 0 0) 0 [] (World.ownsRow_nil _ _ _ _) ad m c news hl (hnews p) h1 (by rw[Nat.zero_add];exact hn2) (by rw[Nat.zero_add];exact hn) (Nat.le_trans hB hsz2);rw[Nat.zero_add,List.nil_append]at h2
 have hrun:(execOp a.eval o).run P (ext W p)= .ok (.value v') w':=by
  unfold execOp;simp only[ho,resolve,invoke,builtin,Sem.run_bind,Sem.run_pure,Result.andThen_ok,List.map_toArray,List.map_cons,List.map_nil,hs,hx,hr]
 rw[hrun];exact⟨le_of ((Below.refl _ _).grown h3 (Nat.le_refl _) (fun r er=>by cases er)),trivial,h2⟩
theorem spAt_agg {f:Value→Array Value} {e:TypeId} {sz n B:Nat} {xs:List Value} (k:Nat) (hk:sp.lookup k=some (newR e sz n B xs)) (he:o.after.any (fun e=>(e.on==k)&&Region.binds .any e)=true)
 (hrun: ∀(w:World) (ao:Option Addr) (c:Nat),σ k= .slice ao n c→(execOp a.eval o).run P w= .ok (.value (.agg (f (.slice ao n c)))) w):spAt P (fun w'=> ∃p:Ext,w'=ext W p) sp σ (newA f e sz n B xs) o a:=by
 rintro w ⟨p,rfl⟩ hd;have hown:=dep_at hd k hk he;obtain⟨ao,c,hv⟩:=own_form (show World.ownsRow _ _ _ _ (σ k) _ _ from hown);rw[hrun _ ao c hv];exact⟨le_refl _,trivial,_,rfl,hv▸hown⟩
theorem spAt_newSA {f:Value→Array Value} {T e:TypeId} {sz n B:Nat} {xs:List Value} (k:Nat) (hk:sp.lookup k=some (newA f e sz n B xs)) (he:o.after.any (fun e=>(e.on==k)&&Region.binds .any e)=true) (hB:B≤W.heap.size)
 (hrun: ∀(w:World) (u:Value),σ k= .agg (f u)→(execOp a.eval o).run P w= .ok (.value (.slice (some ⟨w.heap.size,0,none⟩) 1 1)) (w.alloc (.cells (f u) T))):spAt P (fun w'=> ∃p:Ext,w'=ext W p) sp σ (newSA T f e sz n B xs) o a:=by
 rintro w ⟨p,rfl⟩ hd;obtain⟨u,hu,hown⟩:=dep_at hd k hk he;rw[hrun _ u hu];exact⟨le_alloc _ _,trivial,_,u,rfl,Nat.le_trans hB (below_ext W p).size,Blk.new _ _ _,own_below hown ((Below.refl _ _).alloc (Nat.le_refl _) _)⟩
end
end Go.Proofs.YtibjkhepedfpiaaGreatDoor.ApG
