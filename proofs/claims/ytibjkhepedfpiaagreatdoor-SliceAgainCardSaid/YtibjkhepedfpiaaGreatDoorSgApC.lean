import Derived.Test.YtibjkhepedfpiaaGreatDoorSgApG
import Derived.Test.YtibjkhepedfpiaaGreatDoorSgPkB
import Derived.ArgAppend
namespace Go.Proofs.YtibjkhepedfpiaaGreatDoor.ApC
open Go Go.RowKit Mem Q Rg Ap ApG St BiW CrB
def Cells (w:World) (B:Nat) (v:Value) (n:Nat) (xs:List Value):Prop:=
 ∃g cap,v= .slice (some ⟨g,0,none⟩) n cap∧B≤g∧g<w.heap.size∧n≤cap∧xs.length=n∧(∀j,j<cap→(w.cell? ⟨g,j,none⟩).isSome=true∧w.frozen? ⟨g,j,none⟩=false)∧ ∀j u,xs[j]? =some u→w.cell? ⟨g,j,none⟩=some u
theorem cells_own {w:World} {B n:Nat} {e:TypeId} {v:Value} {xs:List Value} (h:w.ownsRow B e 1 v n xs) (hn:0<n):Cells w B v n xs:=by
 rcases h.2 with⟨_,e0⟩|⟨g,cap,cur,e1,hb,hg,hc,hcm,hcs,htk⟩
 ·omega
 ·refine⟨g,cap,e1,hb,(Array.getElem?_eq_some_iff.1 hg).1,hc,by rw[h.1,Nat.mul_one],fun j hj=>?_,fun j u hu=>?_⟩
  ·refine⟨?_,by simp[World.frozen?,hg]⟩
   have:j<cur.size:=by rw[hcs];omega
   simp[World.cell?,hg,this]
  ·subst e1
   have hj:j<n*1:=by have:=(List.getElem?_eq_some_iff.1 hu).1;rw[h.1]at this;exact this
   rw[h.cellAt j hj];exact hu
theorem Cells.below {w w':World} {B n:Nat} {v:Value} {xs:List Value} (h:Cells w B v n xs) (hb:Below w.heap.size w w'):Cells w' B v n xs:=by
 obtain⟨g,cap,e,h1,h2,h3,h4,h5,h6⟩:=h;refine⟨g,cap,e,h1,Nat.lt_of_lt_of_le h2 hb.size,h3,h4,fun j hj=>?_,fun j u hu=>?_⟩
 ·rw[hb.cell (p:=⟨g,j,none⟩) h2,World.frozen?_of_block (w:=w) (hb.block g h2)]
  exact h5 j hj
 ·rw[hb.cell (p:=⟨g,j,none⟩) h2];exact h6 j u hu
section
variable {P:Program} {ops:Array Oper} {rest:List Oper} {o:Oper} {a:Act} {w:World} {Q:Exit→Act→World→Prop}
theorem wpList_appC {t e:TypeId} {bytes B:Nat} (hgd:o.guard=none) (s x:Operand) (ho:o.op= .call {callee:= .builtin .append,args:= #[s,x],argTypes:= #[t,t]}) (hE:Elem P t e 1 bytes)
 {v:Value} {n c:Nat} {xs:List Value} {u:Value} {ad:Addr} (hs:a.eval s=v) (hown:Cells w B v n xs) (hx:a.eval x= .slice (some ad) 1 c) (hnews:w.cell? ad=some u) (h1:u.oneCell'=true)
 (hn:(n+1)*bytes≤140737488355328) (hn2:n+1≤maxLen) (hbase:B≤w.heap.size)
 (h: ∀v' w',Cells w' B v' (n+1) (xs++[u])→Below B w w'→wpList P ops Q rest (a.put o.dst v') w'):wpList P ops Q (o::rest) a w:=by
 obtain⟨i,z,hi,hz,hsz,hby,hzs⟩:=hE.i;obtain⟨g,cap,rfl,hB,hlt,hnc,hl,hc,hcx⟩:=hown
 have hnw: ∀j v,[u][j]? =some v→w.cell? (ad.add j)=some v:=fun j v hj=>by
  cases j with
  |zero=>
   simp at hj;subst hj;rw[show ad.add 0=ad by unfold Addr.add;simp];exact hnews
  |succ j=>simp at hj
 have go: ∀v' w',(Builtin.append_ #[t,t] o.type #[.slice (some ⟨g,0,none⟩) n cap,.slice (some ad) 1 c]).run P w= .ok v' w'→Cells w' B v' (n+1) (xs++[u])→Below B w w'→wpList P ops Q (o::rest) a w:=fun v' w' hr h2 h3=>by
  refine wpList_plain hgd fun _ hK=>?_;unfold Oper.wp execOp;simp only[ho,resolve,invoke,builtin,Sem.run_bind,Sem.run_pure,Result.andThen_ok,List.map_toArray,List.map_cons,List.map_nil,hs,hx,hr];exact hK _ _ (h v' w' h2 h3)
 by_cases hroom:n+1≤cap
 ·have hn0:n<cap:=by omega
  have hr:=run_append_room_cells (P:=P) w t o.type e i hE.t hi g 0 n cap ad 1 c [u] (by rw[hsz];rfl) hnw (by simp[h1]) hroom
   (fun j hj=>by simp at hj;subst hj;rw[hsz];simpa using(hc n hn0).1) (fun j hj=>by simp at hj;subst hj;rw[hsz];simpa using(hc n hn0).2)
  rw[hsz,show 0+n*1=n by omega]at hr;refine go _ _ hr ?_ ?_
  ·show Cells (w.setCell ⟨g,n,none⟩ u) B _ _ _
   refine⟨g,cap,rfl,hB,by simpa [World.setCell]using hlt,hroom,by simp[hl],fun j hj=>⟨?_,?_⟩,fun j v hj=>?_⟩
   ·by_cases e:n=j
    ·subst e
     rw[World.cell?_setCell_same' _ _ _ (hc n hn0).1];rfl
    ·rw[World.cell?_setCell_other _ _ _ _ (fun h:(⟨g,n,none⟩:Addr)=⟨g,j,none⟩=>e (congrArg Addr.off h))]
     exact(hc j hj).1
   ·rw[World.frozen?_setCell];exact(hc j hj).2
   ·by_cases e:n=j
    ·subst e
     rw[List.getElem?_append_right (by omega),hl,Nat.sub_self]at hj;simp at hj;subst hj;exact World.cell?_setCell_same' _ _ _ (hc n hn0).1
    ·rw[World.cell?_setCell_other _ _ _ _ (fun h:(⟨g,n,none⟩:Addr)=⟨g,j,none⟩=>e (congrArg Addr.off h))]
     have hjl:=(List.getElem?_eq_some_iff.1 hj).1;simp[hl]at hjl;rw[List.getElem?_append_left (by omega)]at hj;exact hcx j v hj
  ·show Below B w (w.setCell ⟨g,n,none⟩ u)
   exact(Below.refl B w).setCell hB u
 ·obtain⟨v',w',hr,h2,h3⟩:=run_append_arg_grows (P:=P) w t o.type e i z 1 bytes hE.t hi hz hsz hby hzs (by decide) ⟨g,0,none⟩ n cap xs (by rw[hl,Nat.mul_one])
   (fun j v hj=>by rw[show(⟨g,0,none⟩:Addr).add j=⟨g,j,none⟩ by unfold Addr.add;split<;>simp_all];exact hcx j v hj) ad 1 c [u] rfl hnw (by omega) hn2 hn
  have hb:Below w.heap.size w w':=(Below.refl _ _).grown h3 (Nat.le_refl _) (fun r er=>by cases er);refine go _ _ hr ?_ (hb.mono hbase);exact cells_own (own_base h2 hbase) (by omega)
end
theorem cells_conv (s:ByteArray) (w:World) (e:TypeId) (cap:Nat) (hcap:s.size≤cap):Cells (w.drew.alloc (.cells (bytesRow s cap) e ((bytesRow s cap).size,(bytesRow s cap).size+1))) w.heap.size (.slice (some ⟨w.heap.size,0,none⟩) s.size cap) s.size (u8s (bl s)):=by
 have hsz:(bytesRow s cap).size=cap:=by
  simp only[bytesRow,Array.size_append,Array.size_map,Array.size_replicate];show s.size+(cap-s.size)=cap;omega
 have hg:(w.drew.alloc (.cells (bytesRow s cap) e ((bytesRow s cap).size,(bytesRow s cap).size+1))).heap[w.heap.size]? =some (.cells (bytesRow s cap) e ((bytesRow s cap).size,(bytesRow s cap).size+1)):=heap_alloc_new w.drew _;refine⟨w.heap.size,cap,rfl,Nat.le_refl _,by simp,hcap,by simp[u8s,bl_len],fun j hj=>⟨?_,?_⟩,fun j u hu=>?_⟩
 ·rw[cell_of_row _ _ j _ _ _ hg,Array.getElem?_eq_getElem (by omega)];rfl
 ·unfold World.frozen?
  simp only[hg];rw[Bool.and_eq_false_iff];left;rw[decide_eq_false_iff_not];omega
 ·have hjl:=(List.getElem?_eq_some_iff.1 hu).1
  simp[u8s]at hjl;have hjs:j<s.data.size:=by simpa [bl]using hjl
  rw[cell_of_row _ _ j _ _ _ hg,bytesRow_at s cap j hjs,←hu];simp only[u8s,bl,List.getElem?_map,Array.getElem?_toList,Array.getElem?_eq_getElem hjs,Option.map_some,u8v]
theorem cells_str {w:World} {B n:Nat} {v:Value} {l:List UInt8} (h:Cells w B v n (u8s l)):(convert 90 9 v).run Tryz.prog w= .ok (.string (str l)) w:=by
 obtain⟨g,cap,rfl,hB,hlt,hnc,hl,hc,hcx⟩:=h;have hll:l.length=n:=by simpa [u8s]using hl
 subst hll
 exact run_convert_bytes_back (P:=Tryz.prog) w 90 9 5 ⟨g,0,none⟩ cap l Tryz.underlying90 Tryz.underlying5 Tryz.underlying9 (fun j hj=>by
  rw[show(⟨g,0,none⟩:Addr).add j=⟨g,j,none⟩ by unfold Addr.add;split<;>simp_all];exact hcx j _ (by simp[u8s,u8v,hj]))
end Go.Proofs.YtibjkhepedfpiaaGreatDoor.ApC
