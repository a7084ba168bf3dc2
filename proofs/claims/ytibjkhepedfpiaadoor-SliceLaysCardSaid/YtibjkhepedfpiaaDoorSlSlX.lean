import Derived.Test.YtibjkhepedfpiaaDoorSlSlW
namespace Go.Proofs.YtibjkhepedfpiaaDoor.SlX
open Go Go.RowKit Q Mem Rg Ap ApG CrB PaA PaK SlM SlS SlW
def Off (wr:World) (v1 v2:Value) (d:Bu):Prop:=BuOk wr d∧ ∀b o,d.a=some ⟨b,o,none⟩→v1.ownBlock≠some b∧v2.ownBlock≠some b∧b<wr.heap.size
structure Rws (w wr:World) (t1 t2:TypeId) (v1 v2:Value) (D W:List Bu):Prop where
 o1:wr.ownsRow w.heap.size t1 3 v1 D.length (flat enBu D)
 o2:wr.ownsRow w.heap.size t2 3 v2 W.length (flat enBu W)
 ap: ∀r,v1.ownBlock=some r→v2.ownBlock≠some r
 d1: ∀d∈D,Off wr v1 v2 d
 d2: ∀d∈W,Off wr v1 v2 d
 be:Below w.heap.size w wr
variable {w wr wr':World} {t1 t2:TypeId} {v1 v2 v':Value} {D W:List Bu} {d:Bu}
theorem Off.swap (h:Off wr v1 v2 d):Off wr v2 v1 d:=⟨h.1,fun b o e=>⟨(h.2 b o e).2.1,(h.2 b o e).1,(h.2 b o e).2.2⟩⟩
theorem Rws.swap (h:Rws w wr t1 t2 v1 v2 D W):Rws w wr t2 t1 v2 v1 W D:=⟨h.o2,h.o1,apart_symm h.ap,fun d hd=>(h.d2 d hd).swap,fun d hd=>(h.d1 d hd).swap,h.be⟩
theorem Off.below (h:Off wr v1 v2 d) (hb:Below wr.heap.size wr wr'):Off wr' v1 v2 d:=
 ⟨h.1.below (Nat.le_refl _) hb,fun b o e=>⟨(h.2 b o e).1,(h.2 b o e).2.1,Nat.lt_of_lt_of_le (h.2 b o e).2.2 hb.size⟩⟩
theorem Rws.below (h:Rws w wr t1 t2 v1 v2 D W) (hb:Below wr.heap.size wr wr'):Rws w wr' t1 t2 v1 v2 D W:=
 ⟨own_below h.o1 hb,own_below h.o2 hb,h.ap,fun d hd=>(h.d1 d hd).below hb,fun d hd=>(h.d2 d hd).below hb,h.be.trans (hb.mono h.be.size)⟩
theorem rows_nil (w:World) (t1 t2:TypeId):Rws w w t1 t2 (.slice none 0 0) (.slice none 0 0) [] []:=
 ⟨World.ownsRow_nil _ _ _ _,World.ownsRow_nil _ _ _ _,fun r h=>(by cases h),fun d h=>(by cases h),fun d h=>(by cases h),Below.refl _ _⟩
theorem Off.grown (h:Off wr v1 v2 d) (hg:wr.grownBy wr' v1.ownBlock) (hat:v'.ownBlock=v1.ownBlock∨v'.ownBlock=some wr.heap.size):Off wr' v' v2 d:=by
 refine⟨⟨seq_only h.1.s hg (fun b o e=>(h.2 b o e).1),h.1.c⟩,fun b o e=>?_⟩;obtain⟨h1,h2,h3⟩:=h.2 b o e;refine⟨fun e2=>?_,h2,Nat.lt_of_lt_of_le h3 hg.size⟩;rcases hat with e1|e1
 ·exact h1 (e1▸e2)
 ·rw[e1]at e2;injection e2 with e2;omega
theorem Rws.add1 (h:Rws w wr t1 t2 v1 v2 D W) (hd:Off wr v1 v2 d) (ho:wr'.ownsRow w.heap.size t1 3 v' (D.length+1) (flat enBu D++enBu d)) (hg:wr.grownBy wr' v1.ownBlock)
 (hat:v'.ownBlock=v1.ownBlock∨v'.ownBlock=some wr.heap.size):Rws w wr' t1 t2 v' v2 (D++[d]) W:=by
 have hbe:=h.be.grown hg h.be.size (fun r er=>(h.o1.lt r er).1);refine⟨?_,own_other h.o2 hg h.ap,?_,fun x hx=>?_,fun x hx=>(h.d2 x hx).grown hg hat,hbe⟩
 ·rw[List.length_append,flat_app,show flat enBu [d]=enBu d by simp[flat]]
  exact ho
 ·exact apart_symm (apart_step hat (fun r hr=>(h.o2.lt r hr).2) h.ap)
 ·rcases List.mem_append.1 hx with hx|hx
  ·exact(h.d1 x hx).grown hg hat
  ·simp only[List.mem_singleton]at hx
   subst hx;exact hd.grown hg hat
theorem Rws.add2 (h:Rws w wr t1 t2 v1 v2 D W) (hd:Off wr v1 v2 d) (ho:wr'.ownsRow w.heap.size t2 3 v' (W.length+1) (flat enBu W++enBu d)) (hg:wr.grownBy wr' v2.ownBlock)
 (hat:v'.ownBlock=v2.ownBlock∨v'.ownBlock=some wr.heap.size):Rws w wr' t1 t2 v1 v' D (W++[d]):=(h.swap.add1 hd.swap ho hg hat).swap
theorem off_new {n c:Nat} {b:Br} {a:Option Addr} {w0:World} {e:TypeId} (h:Rws w wr t1 t2 v1 v2 D W) (ho:w0.ownsRow wr.heap.size e 1 (.slice a n c) n (flat enS b.S)) (hn:b.S.length=n):Off w0 v1 v2 ⟨b,a,c⟩:=by
 obtain⟨a',c',e1,hc⟩:=own_cap ho;injection e1 with e1 e2 e3
 subst e1 e3;refine⟨⟨own_seq enS_len ho hn,by show b.S.length≤c;omega⟩,fun b' o e=>?_⟩;obtain⟨h1,h2⟩:=ho.lt b' (by rw[show a=some ⟨b',o,none⟩from e];rfl);refine⟨fun h'=>?_,fun h'=>?_,h2⟩
 ·have:=(h.o1.lt _ h').2;omega
 ·have:=(h.o2.lt _ h').2;omega
end Go.Proofs.YtibjkhepedfpiaaDoor.SlX
