import Derived.Test.YtibjkhepedfpiaaGreatDoorSgPyD
import Derived.Test.YtibjkhepedfpiaaGreatDoorSgPkY
import Derived.Test.YtibjkhepedfpiaaGreatDoorSgApG
namespace Go.Proofs.YtibjkhepedfpiaaGreatDoor.RdW
open Go Go.RowKit Q Mem Rg Ap ApG St CrB PaK PkP PkY PyD RdP
structure Rs where
 T:List ByteArray
 sl:List Int
 en:List Int
 held:ByteArray
 fr:Int
 n:Nat
def b0 (b:ByteArray):Nat:=BiH.at0 b 0
def hd (s:Rs) (start:Bool) (b:ByteArray):ByteArray:=s.held++(if start then b.extract 1 (b0 b+1)else b)
def rs (b:ByteArray):List Bs×Bs:=rdRest ((bl (b.extract (b0 b+1) b.size)).length+1) (bl (b.extract (b0 b+1) b.size))
def rdOne (s:Rs) (i:Nat) (start:Bool) (b:ByteArray):Rs:=
 if start then
  ⟨(s.T++if done (bl (hd s start b))then[hd s start b]else[])++(rs b).1.map str,(s.sl++if done (bl (hd s start b))then[s.fr]else[])++(rs b).1.map (fun _=>(i:Int)),
   (s.en++if done (bl (hd s start b))then[(i:Int)]else[])++(rs b).1.map (fun _=>(i:Int)),str (rs b).2,if(rs b).1=[]∧(rs b).2=[]then s.fr else(i:Int),s.n+1⟩
 else
  ⟨s.T++if done (bl (hd s start b))then[(hd s start b).extract 0 (wh (bl (hd s start b)))]else[],s.sl++if done (bl (hd s start b))then[s.fr]else[],
   s.en++if done (bl (hd s start b))then[(i:Int)]else[],if done (bl (hd s start b))then nob else hd s start b,s.fr,s.n+1⟩
def rdUp (x:Int) (P:List Pkt):Nat→Rs
 |0=>⟨[],[],[],nob,0,0⟩
 |i+1=>match P[i]? with
  |some p=>if p.pid=x then rdOne (rdUp x P i) i p.start p.body else rdUp x P i
  |none=>rdUp x P i
structure Good (s:Rs) (p:Pkt):Prop where
 cnt:p.count=((s.n%16:Nat):Int)
 ok:(rdPkt (bl s.held) p.start (bl p.body)).ok
theorem own_ne {w:World} {base n sz g:Nat} {e t:TypeId} {v:Value} {xs:List Value} {cs:Array Value} (h:w.ownsRow base e sz v n xs) (hg:Blk w g t cs) (ht:t≠e):v.ownBlock≠some g:=fun e1=>by
 rcases h.2 with⟨h1,_⟩|⟨r,cap,cur,e2,_,hr,_⟩
 ·rw[h1]at e1;simp[Value.ownBlock]at e1
 ·rw[e2]at e1
  simp[Value.ownBlock]at e1;subst e1;unfold Blk at hg;rw[hg]at hr;injection hr with hr
  injection hr with h2 h3 h4
  exact ht h3
def enI (x:Int):List Value:=[.int .i64 x]
theorem elemI:Elem Tryz.prog 41 3 1 8:=elem_of Tryz.underlying41 (z:= .int .i64 0) (by kernel_rfl) rfl (by decide)
theorem elemS:Elem Tryz.prog 34 9 1 16:=elem_of Tryz.underlying34 (z:= .string ByteArray.empty) (by kernel_rfl) rfl (by decide)
structure RdM (w wr:World) (v0 v1 v2:Value) (T:List ByteArray) (S E:List Int) (n:Nat):Prop where
 out:Blk wr (w.heap.size+1) 43 #[v0,v1,v2,.int .i64 (n:Int),.bool true]
 res:Blk wr w.heap.size 43 #[.slice none 0 0,.slice none 0 0,.slice none 0 0,.int .i64 0,.bool false]
 o0:wr.ownsRow w.heap.size 9 1 v0 T.length (flat enS T)
 o1:wr.ownsRow w.heap.size 3 1 v1 S.length (flat enI S)
 o2:wr.ownsRow w.heap.size 3 1 v2 E.length (flat enI E)
 ap: ∀r,v1.ownBlock=some r→v2.ownBlock≠some r
 be:Below w.heap.size w wr
theorem RdM.grown {w wr wr':World} {v0 v1 v2:Value} {T:List ByteArray} {S E:List Int} {n:Nat} (h:RdM w wr v0 v1 v2 T S E n) (hb:Below wr.heap.size wr wr'):RdM w wr' v0 v1 v2 T S E n:=
 ⟨Blk.below h.out hb h.out.lt,Blk.below h.res hb h.res.lt,own_below h.o0 hb,own_below h.o1 hb,own_below h.o2 hb,h.ap,h.be.trans (hb.mono h.be.size)⟩
theorem own_own {w:World} {B1 B2 n1 n2 z1 z2:Nat} {e1 e2:TypeId} {v1 v2:Value} {x1 x2:List Value} (h1:w.ownsRow B1 e1 z1 v1 n1 x1) (h2:w.ownsRow B2 e2 z2 v2 n2 x2) (hne:e1≠e2): ∀r,v1.ownBlock=some r→v2.ownBlock≠some r:=fun r hr hr2=>by
 rcases h1.2 with⟨h,_⟩|⟨g,cap,cur,e,_,hg,_⟩
 ·rw[h]at hr;simp[Value.ownBlock]at hr
 ·rcases h2.2 with⟨h,_⟩|⟨g',cap',cur',e',_,hg',_⟩
  ·rw[h]at hr2;simp[Value.ownBlock]at hr2
  ·rw[e]at hr;rw[e']at hr2
   simp[Value.ownBlock]at hr hr2;subst hr;subst hr2;rw[hg]at hg';injection hg' with hg'
   injection hg' with _ h3 _
   exact hne h3
structure RdX (w wr:World) (v0 v1 v2:Value) (T:List ByteArray) (S E:List Int) (n:Nat) (bx:Nat) (cs:Array Value):Prop where
 m:RdM w wr v0 v1 v2 T S E n
 b:Blk wr bx 104 cs
theorem RdX.grown {w wr wr':World} {v0 v1 v2:Value} {T:List ByteArray} {S E:List Int} {n bx:Nat} {cs:Array Value} (h:RdX w wr v0 v1 v2 T S E n bx cs) (hb:Below wr.heap.size wr wr'):RdX w wr' v0 v1 v2 T S E n bx cs:=⟨h.m.grown hb,Blk.below h.b hb h.b.lt⟩
section
variable {w wr w8:World} {v0 v1 v2 u:Value} {T:List ByteArray} {S E:List Int} {n bx:Nat} {cs:Array Value}
theorem set_kept {W:World} {g j n sz B:Nat} {e:TypeId} {v x:Value} {xs:List Value} (h:W.ownsRow B e sz v n xs) (hv:v.ownBlock≠some g):(W.setCell ⟨g,j,none⟩ x).ownsRow B e sz v n xs:=
 h.kept (only_set (only_refl W (some g)) j x) (by cases ho:v.ownBlock with|none=>exact Or.inl rfl|some r=>exact Or.inr (fun e=>hv (ho.trans e)))
theorem RdX.push0 {s:ByteArray} (h:RdX w wr v0 v1 v2 T S E n bx cs) (hg:wr.grownBy w8 v0.ownBlock) (hown:w8.ownsRow w.heap.size 9 1 u (T.length+1) (flat enS T++[.string s])) (_hl:u.ownBlock=v0.ownBlock∨u.ownBlock=some wr.heap.size):
 RdX w (w8.setCell ⟨w.heap.size+1,0,none⟩ u) u v1 v2 (T++[s]) S E n bx cs∧Blk w8 (w.heap.size+1) 43 #[v0,v1,v2,.int .i64 (n:Int),.bool true]:=by
 have n0:=own_ne h.m.o0 h.m.out (by decide);have h0:=own_ne h.m.o0 h.m.res (by decide);have nb:=own_ne h.m.o0 h.b (by decide);have a1:=own_own h.m.o0 h.m.o1 (by decide);have a2:=own_own h.m.o0 h.m.o2 (by decide);have hG:=Blk.grown h.m.out hg (fun e=>n0 e.symm);have hR:=Blk.grown h.m.res hg (fun e=>h0 e.symm);have hB:=Blk.grown h.b hg (fun e=>nb e.symm);have k1:=own_other h.m.o1 hg a1;have k2:=own_other h.m.o2 hg a2;have hsz:w.heap.size≤w8.heap.size:=Nat.le_trans h.m.be.size hg.size;refine⟨⟨⟨Blk.set_ hG 0 u,Blk.far hR (by simp) u,?_,set_kept k1 (own_ne k1 hG (by decide)),set_kept k2 (own_ne k2 hG (by decide)),h.m.ap,?_⟩,Blk.far hB (Blk.ne_ hB hG (by decide)) u⟩,hG⟩
 ·have:=set_kept (j:=0) (x:=u) hown (own_ne hown hG (by decide))
  simpa [flat,enS]using this
 ·exact(h.m.be.trans (below_of_only hg h.m.be.size (fun k hk=>(h.m.o0.lt k hk).1))).setCell (p:=⟨w.heap.size+1,0,none⟩) (by simp) u
theorem RdX.push1 {x:Int} (h:RdX w wr v0 v1 v2 T S E n bx cs) (hg:wr.grownBy w8 v1.ownBlock) (hown:w8.ownsRow w.heap.size 3 1 u (S.length+1) (flat enI S++[.int .i64 x])) (hl:u.ownBlock=v1.ownBlock∨u.ownBlock=some wr.heap.size):
 RdX w (w8.setCell ⟨w.heap.size+1,1,none⟩ u) v0 u v2 T (S++[x]) E n bx cs∧Blk w8 (w.heap.size+1) 43 #[v0,v1,v2,.int .i64 (n:Int),.bool true]:=by
 have n0:=own_ne h.m.o1 h.m.out (by decide);have h0:=own_ne h.m.o1 h.m.res (by decide);have nb:=own_ne h.m.o1 h.b (by decide);have a1:=own_own h.m.o1 h.m.o0 (by decide);have a2:=h.m.ap;have hG:=Blk.grown h.m.out hg (fun e=>n0 e.symm);have hR:=Blk.grown h.m.res hg (fun e=>h0 e.symm);have hB:=Blk.grown h.b hg (fun e=>nb e.symm);have k1:=own_other h.m.o0 hg a1;have k2:=own_other h.m.o2 hg a2;have hsz:w.heap.size≤w8.heap.size:=Nat.le_trans h.m.be.size hg.size;refine⟨⟨⟨Blk.set_ hG 1 u,Blk.far hR (by simp) u,set_kept k1 (own_ne k1 hG (by decide)),?_,set_kept k2 (own_ne k2 hG (by decide)),?_,?_⟩,Blk.far hB (Blk.ne_ hB hG (by decide)) u⟩,hG⟩
 ·have:=set_kept (j:=1) (x:=u) hown (own_ne hown hG (by decide))
  simpa [flat,enI]using this
 ·exact apart_symm (apart_step hl (fun r hr=>(h.m.o2.lt r hr).2) h.m.ap)
 ·exact(h.m.be.trans (below_of_only hg h.m.be.size (fun k hk=>(h.m.o1.lt k hk).1))).setCell (p:=⟨w.heap.size+1,1,none⟩) (by simp) u
theorem RdX.push2 {x:Int} (h:RdX w wr v0 v1 v2 T S E n bx cs) (hg:wr.grownBy w8 v2.ownBlock) (hown:w8.ownsRow w.heap.size 3 1 u (E.length+1) (flat enI E++[.int .i64 x])) (hl:u.ownBlock=v2.ownBlock∨u.ownBlock=some wr.heap.size):
 RdX w (w8.setCell ⟨w.heap.size+1,2,none⟩ u) v0 v1 u T S (E++[x]) n bx cs∧Blk w8 (w.heap.size+1) 43 #[v0,v1,v2,.int .i64 (n:Int),.bool true]:=by
 have n0:=own_ne h.m.o2 h.m.out (by decide);have h0:=own_ne h.m.o2 h.m.res (by decide);have nb:=own_ne h.m.o2 h.b (by decide);have a1:=own_own h.m.o2 h.m.o0 (by decide);have a2:=apart_symm h.m.ap;have hG:=Blk.grown h.m.out hg (fun e=>n0 e.symm);have hR:=Blk.grown h.m.res hg (fun e=>h0 e.symm);have hB:=Blk.grown h.b hg (fun e=>nb e.symm);have k1:=own_other h.m.o0 hg a1;have k2:=own_other h.m.o1 hg a2;have hsz:w.heap.size≤w8.heap.size:=Nat.le_trans h.m.be.size hg.size;refine⟨⟨⟨Blk.set_ hG 2 u,Blk.far hR (by simp) u,set_kept k1 (own_ne k1 hG (by decide)),set_kept k2 (own_ne k2 hG (by decide)),?_,?_,?_⟩,Blk.far hB (Blk.ne_ hB hG (by decide)) u⟩,hG⟩
 ·have:=set_kept (j:=2) (x:=u) hown (own_ne hown hG (by decide))
  simpa [flat,enI]using this
 ·exact apart_step hl (fun r hr=>(h.m.o1.lt r hr).2) (apart_symm h.m.ap)
 ·exact(h.m.be.trans (below_of_only hg h.m.be.size (fun k hk=>(h.m.o2.lt k hk).1))).setCell (p:=⟨w.heap.size+1,2,none⟩) (by simp) u
theorem RdX.many (h:RdX w wr v0 v1 v2 T S E n bx cs):RdX w (wr.setCell ⟨w.heap.size+1,3,none⟩ (.int .i64 ((n+1:Nat):Int))) v0 v1 v2 T S E (n+1) bx cs:=by
 refine⟨⟨Blk.set_ h.m.out 3 _,Blk.far h.m.res (by simp) _,set_kept h.m.o0 (own_ne h.m.o0 h.m.out (by decide)),set_kept h.m.o1 (own_ne h.m.o1 h.m.out (by decide)),set_kept h.m.o2 (own_ne h.m.o2 h.m.out (by decide)),h.m.ap,?_⟩,Blk.far h.b (Blk.ne_ h.b h.m.out (by decide)) _⟩;exact h.m.be.setCell (p:=⟨w.heap.size+1,3,none⟩) (by simp) _
end
theorem air_ext {P:List Pkt} (hP: ∀p∈P,PkOk p) {i:Nat} {p:Pkt} (hi:P[i]? =some p):(str (airL P)).extract (188*i) (188*i+188)=str (pkBy p):=by
 have hd:P=P.take i++p::P.drop (i+1):=by
  have hlt:=(List.getElem?_eq_some_iff.1 hi).1;rw[←(List.getElem?_eq_some_iff.1 hi).2,←List.drop_eq_getElem_cons hlt,List.take_append_drop]
 have hl:(airL (P.take i)).length=188*i:=by
  rw[airL_len (fun x hx=>hP x (List.mem_of_mem_take hx)),List.length_take,Nat.min_eq_left (Nat.le_of_lt (List.getElem?_eq_some_iff.1 hi).1)]
 have hp:=pkBy_len (hP p (List.mem_of_getElem? hi));apply bl_inj;rw[bl_str]
 have e:bl ((str (airL P)).extract (188*i) (188*i+188))=((airL P).take (188*i+188)).drop (188*i):=by
  unfold bl str;simp[ByteArray.data_extract,List.take_drop]
 rw[e,show airL P=airL (P.take i)++(pkBy p++airL (P.drop (i+1))) by
  conv=>lhs;rw[hd,airL_app]
  rfl]
 rw[←List.append_assoc,List.take_left' (by rw[List.length_append,hl,hp]),List.drop_left' hl]
set_option maxRecDepth 100000
structure RestI (T0:List ByteArray) (S0 E0:List Int) (i f0:Int) (R:List Bs×Bs) (B:Nat) (fu:Nat) (T1:List ByteArray) (S1 E1:List Int) (h2 r2:ByteArray) (f2:Int):Prop where
 lt:r2.size<fu
 t:T1++(rdRest fu (bl r2)).1.map str=T0++R.1.map str
 s:S1++(rdRest fu (bl r2)).1.map (fun _=>i)=S0++R.1.map (fun _=>i)
 e:E1++(rdRest fu (bl r2)).1.map (fun _=>i)=E0++R.1.map (fun _=>i)
 h:(h2=nob∧(rdRest fu (bl r2)).2=R.2)∨(r2=nob∧bl h2=R.2∧R.2≠[])
 f:f2=if T1.length=T0.length∧h2=nob then f0 else i
 len:T1.length+r2.size≤T0.length+B∧T0.length≤T1.length∧S1.length=T1.length∧E1.length=T1.length
theorem rest_nil (f:Nat):rdRest f []=([],[]):=by cases f<;>rfl
theorem rest_ff (f:Nat) (t:Bs):rdRest f (255::t)=([],[]):=by
 cases f with
 |zero=>rfl
 |succ f=>rw[rdRest,if_pos rfl]
section
variable {T0 T1:List ByteArray} {S0 E0 S1 E1:List Int} {i f0 f2:Int} {R:List Bs×Bs} {B fu:Nat} {h2 r2:ByteArray}
theorem rest_start {b:ByteArray} {T0:List ByteArray} {S0 E0:List Int} {i f0:Int} (hS:S0.length=T0.length) (hE:E0.length=T0.length):
 RestI T0 S0 E0 i f0 (rs b) b.size ((bl (b.extract (b0 b+1) b.size)).length+1) T0 S0 E0 nob (b.extract (b0 b+1) b.size) f0:=by
 refine⟨by rw[bl_len];omega,rfl,rfl,rfl,Or.inl ⟨rfl,rfl⟩,by rw[if_pos ⟨rfl,rfl⟩],?_,Nat.le_refl _,hS,hE⟩;have:(b.extract (b0 b+1) b.size).size≤b.size:=by simp[ByteArray.size_extract]
 omega
theorem RestI.endA (h:RestI T0 S0 E0 i f0 R B fu T1 S1 E1 h2 r2 f2) (hh:h2=nob) (hr:rdRest fu (bl r2)=([],[])):
 T1=T0++R.1.map str∧S1=S0++R.1.map (fun _=>i)∧E1=E0++R.1.map (fun _=>i)∧h2=str R.2∧f2=(if R.1=[]∧R.2=[]then f0 else i):=by
 have t:=h.t;have s:=h.s;have e:=h.e;rw[hr]at t s e;simp only[List.map_nil,List.append_nil]at t s e
 have h2':R.2=[]:=by
  rcases h.h with⟨_,h3⟩|⟨_,h3,h4⟩
  ·rw[←h3,hr]
  ·rw[←h3,hh];rfl
 refine⟨t,s,e,by rw[hh,h2'];rfl,?_⟩;rw[h.f,hh,h2']
 have:(T1.length=T0.length)↔R.1=[]:=by
  rw[t,List.length_append,List.length_map];constructor
  ·intro h;exact List.eq_nil_of_length_eq_zero (by omega)
  ·intro h;rw[h];rfl
 simp only[this,and_true]
theorem RestI.endB (h:RestI T0 S0 E0 i f0 R B fu T1 S1 E1 h2 r2 f2) (hh:h2≠nob):
 r2=nob∧T1=T0++R.1.map str∧S1=S0++R.1.map (fun _=>i)∧E1=E0++R.1.map (fun _=>i)∧h2=str R.2∧f2=(if R.1=[]∧R.2=[]then f0 else i):=by
 rcases h.h with⟨h3,_⟩|⟨h3,h4,h5⟩
 ·exact absurd h3 hh
 ·have t:=h.t
  have s:=h.s;have e:=h.e;rw[h3,show bl nob=[]from rfl,rest_nil]at t s e;simp only[List.map_nil,List.append_nil]at t s e;refine⟨h3,t,s,e,by rw[←h4,str_bl],?_⟩;rw[h.f,if_neg (fun x=>hh x.2),if_neg (fun x=>h5 x.2)]
theorem RestI.hold (h:RestI T0 S0 E0 i f0 R B fu T1 S1 E1 h2 r2 f2) (_hh:h2=nob) {c:UInt8} {t:Bs} (hr:bl r2=c::t) (hc:c≠255) (hw:wh (bl r2)=0∨r2.size<wh (bl r2)):
 RestI T0 S0 E0 i f0 R B fu T1 S1 E1 r2 nob i:=by
 obtain⟨hfu,ht,hs,he,hh2,hf,hl1,hl2,hl3,hl4⟩:=h;obtain⟨fu,rfl⟩: ∃k,fu=k+1:=⟨fu-1,by omega⟩
 have e1:rdRest (fu+1) (bl r2)=([],bl r2):=by
  rw[hr,rdRest,if_neg hc,if_pos (by rw[←hr];exact hw)]
 rw[e1]at ht hs he hh2;have hne:r2≠nob:=fun e=>by rw[e]at hr;cases hr
 have hz:nob.size=0:=rfl;refine⟨by omega,by rw[show bl nob=[]from rfl,rest_nil];exact ht,by rw[show bl nob=[]from rfl,rest_nil];exact hs,by rw[show bl nob=[]from rfl,rest_nil];exact he,Or.inr ⟨rfl,?_,?_⟩,by rw[if_neg (fun x=>hne x.2)],by omega,hl2,hl3,hl4⟩
 ·rcases hh2 with⟨_,h3⟩|⟨h3,_⟩
  ·exact h3
  ·exact absurd h3 hne
 ·rcases hh2 with⟨_,h3⟩|⟨h3,_⟩
  ·rw[←h3,hr];simp
  ·exact absurd h3 hne
theorem RestI.whole (h:RestI T0 S0 E0 i f0 R B fu T1 S1 E1 h2 r2 f2) (_hh:h2=nob) {c:UInt8} {t:Bs} {m:Nat} (hr:bl r2=c::t) (hc:c≠255) (hm:wh (bl r2)=m) (h0:0<m) (hle:m≤r2.size):
 ∃fu',RestI T0 S0 E0 i f0 R B fu' (T1++[r2.extract 0 m]) (S1++[i]) (E1++[i]) nob (r2.extract m r2.size) i:=by
 obtain⟨hfu,ht,hs,he,hh2,hf,hl1,hl2,hl3,hl4⟩:=h;obtain⟨fu,rfl⟩: ∃k,fu=k+1:=⟨fu-1,by omega⟩
 have e1:rdRest (fu+1) (bl r2)=((bl r2).take m::(rdRest fu ((bl r2).drop m)).1,(rdRest fu ((bl r2).drop m)).2):=by
  rw[hr,rdRest,if_neg hc,if_neg (by rw[←hr,hm,bl_len];omega),←hr,hm]
 have ex:bl (r2.extract m r2.size)=(bl r2).drop m:=RdQ.ext_from r2 m
 have et:str ((bl r2).take m)=r2.extract 0 m:=by
  apply bl_inj;rw[bl_str];unfold bl;simp[ByteArray.data_extract]
 have hsz:(r2.extract m r2.size).size=r2.size-m:=by rw[←bl_len,ex,List.length_drop,bl_len]
 rw[e1]at ht hs he hh2;have hne:r2≠nob:=fun e=>by rw[e]at hr;cases hr
 refine⟨fu,by rw[hsz];omega,?_,?_,?_,Or.inl ⟨rfl,?_⟩,by rw[if_neg (fun x=>by have:=x.1;simp at this;omega)],by rw[hsz];simp;omega,by simp;omega,by simp;omega,by simp;omega⟩
 ·rw[ex,←ht,List.append_assoc];simp[et]
 ·rw[ex,←hs,List.append_assoc];simp
 ·rw[ex,←he,List.append_assoc];simp
 ·rw[ex]
  rcases hh2 with⟨_,h3⟩|⟨h3,_⟩
  ·exact h3
  ·exact absurd h3 hne
end
theorem bl_app (a b:ByteArray):bl (a++b)=bl a++bl b:=by unfold bl;simp[ByteArray.data_append]
theorem bl_mid (b:ByteArray) (r:Nat):bl (b.extract 1 (r+1))=((bl b).drop 1).take r:=by
 unfold bl;simp[ByteArray.data_extract,List.take_drop,Nat.add_comm]
 cases b.data.toList<;>simp
theorem bl_nob {a:ByteArray}:a=nob↔bl a=[]:=⟨fun h=>by rw[h];rfl,fun h=>bl_inj (by rw[h];rfl)⟩
theorem b0_get (b:ByteArray):((bl b).getD 0 0).toNat=b0 b:=by unfold b0 BiH.at0 bl;simp[List.getD]
theorem good_start {s:Rs} {p:Pkt} (h:Good s p) (hs:p.start=true):b0 p.body+1≤p.body.size∧(s.held=nob→p.body.extract 1 (b0 p.body+1)=nob)∧(done (bl (hd s true p.body))=true→wh (bl (hd s true p.body))=(hd s true p.body).size)∧(done (bl (hd s true p.body))=false→hd s true p.body=nob):=by
 have ho:=h.ok;rw[hs]at ho;unfold rdPkt at ho;rw[if_pos rfl]at ho;dsimp only at ho
 have e:bl s.held++((bl p.body).drop 1).take ((bl p.body).getD 0 0).toNat=bl (hd s true p.body):=by
  unfold hd;rw[if_pos rfl,bl_app,bl_mid,b0_get]
 rw[e,b0_get]at ho;obtain⟨h1,h2,h3,h4⟩:=ho;refine⟨by rw[←bl_len];exact h1,fun hn=>?_,fun hd'=>by rw[←bl_len];exact h3 hd',fun hd'=>bl_nob.2 (h4 hd')⟩;rw[bl_nob,bl_mid];exact Classical.byContradiction fun hc=>h2 ⟨bl_nob.1 hn,hc⟩
theorem good_cont {s:Rs} {p:Pkt} (h:Good s p) (hs:p.start=false) (hb:p.body.size≠0):s.held≠nob∧(done (bl (hd s false p.body))=true→wh (bl (hd s false p.body))<(hd s false p.body).size→BiH.at0 (hd s false p.body) (wh (bl (hd s false p.body)))=255):=by
 have ho:=h.ok;rw[hs]at ho;unfold rdPkt at ho;rw[if_neg (by decide)]at ho;dsimp only at ho
 have e:bl s.held++bl p.body=bl (hd s false p.body):=by
  unfold hd;rw[if_neg (by decide),bl_app]
 rw[e]at ho;obtain⟨h1,h2⟩:=ho;refine⟨fun hn=>h1 ⟨bl_nob.1 hn,fun hc=>hb (by rw[←bl_len,hc];rfl)⟩,fun hd' hlt=>?_⟩;have:=h2 hd' (by rw[bl_len];exact hlt);unfold bl at this;rw[Array.getElem?_toList]at this;unfold BiH.at0;unfold bl;rw[this];rfl
theorem wh_le (h:Bs):wh h≤4098:=by
 unfold wh;have h1:=UInt8.toNat_lt (h.getD 1 0);have h2:=UInt8.toNat_lt (h.getD 2 0)
 split<;>omega
theorem not_done {h:ByteArray} (hd:done (bl h)=false):h.size≤4098:=by
 unfold done at hd;have:=of_decide_eq_false hd;have h1:=wh_le (bl h);rw[bl_len]at this;by_cases h0:0<wh (bl h)
 ·have: ¬wh (bl h)≤h.size:=fun hc=>this ⟨h0,hc⟩
  omega
 ·have h2:wh (bl h)=0:=by omega
  unfold wh at h2;rw[bl_len]at h2
  split at h2<;>omega
theorem rest_len: ∀(f:Nat) (r:Bs),(rdRest f r).1.length≤r.length∧(rdRest f r).2.length≤r.length:=by
 intro f
 induction f with
 |zero=>intro r;simp[rdRest]
 |succ f ih=>
  intro r
  cases r with
  |nil=>simp[rest_nil]
  |cons c t=>
   rw[rdRest]
   split
   ·simp
   ·split
    ·simp
    ·rename_i hc
     have h1:=ih ((c::t).drop (wh (c::t)));rw[List.length_drop]at h1;refine⟨?_,Nat.le_trans h1.2 (by omega)⟩;rw[List.length_cons];omega
theorem rs_len (b:ByteArray):(rs b).1.length≤b.size∧(rs b).2.length≤b.size:=by
 have h:=rest_len ((bl (b.extract (b0 b+1) b.size)).length+1) (bl (b.extract (b0 b+1) b.size));have h2:(bl (b.extract (b0 b+1) b.size)).length≤b.size:=by rw[bl_len,ByteArray.size_extract];omega
 unfold rs;exact⟨Nat.le_trans h.1 h2,Nat.le_trans h.2 h2⟩
def strLen:Value→Nat
 | .string s=>s.size
 |_=>0
theorem one_start {st:Rs} {i:Nat} {body:ByteArray} {d:Bool} (hdn:done (bl (hd st true body))=d) {T1:List ByteArray} {S1 E1:List Int} {h2:ByteArray} {f2:Int}
 (h:T1=(st.T++if d then[hd st true body]else[])++(rs body).1.map str∧S1=(st.sl++if d then[st.fr]else[])++(rs body).1.map (fun _=>(i:Int))∧E1=(st.en++if d then[(i:Int)]else[])++(rs body).1.map (fun _=>(i:Int))∧h2=str (rs body).2∧f2=(if(rs body).1=[]∧(rs body).2=[]then st.fr else(i:Int))):
 rdOne st i true body=⟨T1,S1,E1,h2,f2,st.n+1⟩:=by
 obtain⟨rfl,rfl,rfl,rfl,rfl⟩:=h;unfold rdOne;rw[if_pos rfl,hdn]
structure GotOk (w:World) (s:Rs) (e:Ending) (w':World):Prop where
 ex: ∃v0 v1 v2,e= .returned (.agg #[v0,v1,v2,.int .i64 (s.n:Int),.bool true])∧w'.ownsRow w.heap.size 9 1 v0 s.T.length (flat enS s.T)∧w'.ownsRow w.heap.size 3 1 v1 s.sl.length (flat enI s.sl)∧w'.ownsRow w.heap.size 3 1 v2 s.en.length (flat enI s.en)
 be:Below w.heap.size w w'
structure Lp (s:Rs) (i:Nat) (cv:Int):Prop where
 c:(s.n=0∧cv= -1∧s.held=nob)∨(0<s.n∧cv=(((s.n-1)%16:Nat):Int))
 l:s.T.length≤200*i∧s.sl.length=s.T.length∧s.en.length=s.T.length
 n:s.n≤i
 h:s.held.size≤5000
end Go.Proofs.YtibjkhepedfpiaaGreatDoor.RdW
