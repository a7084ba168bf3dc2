import Derived.WalkKit
import Derived.Laws.OwnMore
import Derived.Deep.Draws
import Derived.Laws.Rows
import Derived.Deep.AppendLies
import Derived.Deep.Quiet
import Derived.Deep.QuietTactic
import Derived.BigQuiet
import Derived.StillTail
import Derived.Deep.MidRow
import Derived.Orders
import Derived.RegionTactic
import Derived.WalkMore
import Derived.ScopeJumps
namespace Go.Proofs.YtibjkhepedfpiaaGreatDoor.Mem
open Go.RowKit
def Blk (w:World) (g:Nat) (t:TypeId) (cs:Array Value):Prop:=w.heap[g]? =some (.cells cs t (0,0))
section
variable {w w':World} {g:Nat} {t:TypeId} {cs:Array Value}
theorem Blk.lt (h:Blk w g t cs):g<w.heap.size:=by
 rcases Nat.lt_or_ge g w.heap.size with hlt|hge
 ·exact hlt
 ·unfold Blk at h;rw[Array.getElem?_eq_none hge]at h;cases h
theorem Blk.cell (h:Blk w g t cs) (i:Nat) {v:Value} (hi:cs[i]? =some v):w.cell? ⟨g,i,none⟩=some v:=(cell_of_row w g i cs t (0,0) h).trans hi
theorem Blk.frozen (h:Blk w g t cs) (i:Nat):w.frozen? ⟨g,i,none⟩=false:=by
 unfold Blk at h;simp[World.frozen?,h]
theorem Blk.new (w:World) (t:TypeId) (cs:Array Value):Blk (w.alloc (.cells cs t)) w.heap.size t cs:=heap_alloc_new w _
theorem Blk.newAt (w:World) (t:TypeId) (cs:Array Value) {n:Nat} (hn:n=w.heap.size):Blk (w.alloc (.cells cs t)) n t cs:=by rw[hn];exact Blk.new w t cs
theorem Blk.drew (h:Blk w g t cs):Blk w.drew g t cs:=h
theorem Blk.drewN (h:Blk w g t cs) (n:Nat):Blk (w.drewN n) g t cs:=h
theorem Blk.alloc (h:Blk w g t cs) (o:Obj):Blk (w.alloc o) g t cs:=(Below.heap_alloc w o g h.lt).trans h
theorem Blk.set_ (h:Blk w g t cs) (i:Nat) (u:Value):Blk (w.setCell ⟨g,i,none⟩ u) g t (cs.setIfInBounds i u):=by
 unfold Blk at h ⊢;simp[World.setCell,Array.getElem?_modify,h]
theorem Blk.far (h:Blk w g t cs) {p:Addr} (hp:g≠p.block) (u:Value):Blk (w.setCell p u) g t cs:=(Below.heap_setCell w p u g hp).trans h
theorem Blk.below {B:Nat} (h:Blk w g t cs) (hb:Below B w w') (hg:g<B):Blk w' g t cs:=(hb.block g hg).trans h
theorem Blk.grown {row:Option Nat} (h:Blk w g t cs) (hb:w.grownBy w' row) (hg:some g≠row):Blk w' g t cs:=(hb.block g h.lt hg).trans h
theorem Blk.ne_ {g':Nat} {t':TypeId} {cs':Array Value} (h:Blk w g t cs) (h':Blk w g' t' cs') (hne:t≠t'):g≠g':=by
 rintro rfl;unfold Blk at h h';rw[h]at h';injection h' with h'
 injection h' with _ ht
 exact hne ht
end
section
variable {a b c w w':World} {g:Nat}
theorem only_refl (w:World) (row:Option Nat):w.grownBy w row:=⟨rfl,rfl,rfl,Nat.le_refl _,fun _ _ _=>rfl⟩
theorem only_trans {row:Option Nat} (h:a.grownBy b row) (k:b.grownBy c row):a.grownBy c row:=
 ⟨k.os.trans h.os,k.tape.trans h.tape,k.output.trans h.output,Nat.le_trans h.size k.size,fun i hi hne=>(k.block i (Nat.lt_of_lt_of_le hi h.size) hne).trans (h.block i hi hne)⟩
theorem only_drew {row:Option Nat} (h:a.grownBy w row):a.grownBy w.drew row:=⟨h.os,h.tape,h.output,h.size,h.block⟩
theorem only_alloc {row:Option Nat} (h:a.grownBy w row) (o:Obj):a.grownBy (w.alloc o) row:=
 ⟨h.os,h.tape,h.output,Nat.le_trans h.size (by simp),fun i hi hne=>(Below.heap_alloc w o i (Nat.lt_of_lt_of_le hi h.size)).trans (h.block i hi hne)⟩
theorem only_set {g:Nat} (h:a.grownBy w (some g)) (i:Nat) (u:Value):a.grownBy (w.setCell ⟨g,i,none⟩ u) (some g):=
 ⟨h.os,h.tape,h.output,by simpa [World.setCell]using h.size,fun j hj hne=>(Below.heap_setCell w ⟨g,i,none⟩ u j (fun e=>hne (by rw[e]))).trans (h.block j hj hne)⟩
theorem only_new {row:Option Nat} (h:a.grownBy w row) {p:Addr} (hp:a.heap.size≤p.block) (u:Value):a.grownBy (w.setCell p u) row:=
 ⟨h.os,h.tape,h.output,by simpa [World.setCell]using h.size,fun j hj hne=>(Below.heap_setCell w p u j (by omega)).trans (h.block j hj hne)⟩
theorem only_of_below (h:Below a.heap.size a w) (row:Option Nat):a.grownBy w row:=⟨h.os,h.tape,h.output,h.size,fun i hi _=>h.block i hi⟩
theorem below_of_only {B:Nat} {row:Option Nat} (h:a.grownBy w row) (hB:B≤a.heap.size) (hr: ∀k,row=some k→B≤k):Below B a w:=
 ⟨h.os,h.tape,h.output,h.size,fun k hk=>h.block k (by omega) (fun e=>by have:=hr k e.symm;omega)⟩
theorem below_drewN {B:Nat} (h:Below B a w) (n:Nat):Below B a (w.drewN n):=⟨h.os,h.tape,h.output,h.size,h.block⟩
end
end Go.Proofs.YtibjkhepedfpiaaGreatDoor.Mem
namespace Go.Proofs.YtibjkhepedfpiaaGreatDoor.Q
open Go Go.RowKit Mem
section
variable {P:Program} {ops:Array Oper} {md:Region.Mode} {C:World→Prop}
def HeadQ (P:Program) (md:Region.Mode) (ops:Array Oper) (C:World→Prop) (n:Nat) (L:Array Bool→Act→Prop):Nat→Array Bool→Act→Prop
 |0,listed,a=>L listed a
 |f+1,listed,a=>
  Region.ready md ops listed≠[]∧ ∀i∈Region.ready md ops listed,i<n∧qOp P ops C i (HeadQ P md ops C n L f (listed.setIfInBounds i true)) a
theorem any_of_headQ {n g:Nat} {L:Array Bool→Act→Prop} {Q':Exit→Act→World→Prop} (hL: ∀listed a w,C w→L listed a→wpAny P md ops Q' g listed a w):
 ∀(f:Nat) (listed:Array Bool) (a:Act) (w:World),C w→HeadQ P md ops C n L f listed a→wpAny P md ops Q' (f+g) listed a w
 |0,listed,a,w,hw,h=>by rw[Nat.zero_add];exact hL _ _ _ hw h
 |f+1,listed,a,w,hw,h=>by
  rw[show f+1+g=(f+g)+1 by omega];exact⟨fun h0=>absurd h0 h.1,fun i hi=>wpOp_of_qOp hw (fun a' w' hw' h'=>any_of_headQ hL f _ a' w' hw' h') (h.2 i hi).2⟩
theorem headQ_first {n i:Nat} {oi:Oper} {v:Value} {L:Array Bool→Act→Prop} (hi:ops[i]? =some oi) (hsel: ∀(j:Nat) (o:Oper) cs b,ops[j]? =some o→o.op≠ .select cs b)
 (hs:Region.sinkB md ops n=true) (hc:Region.chainB md ops n=true) (hn:n<ops.size) (hin:i<n)
 (hdone: ∀listed a,L listed a→ ∀j∈Region.ready md ops listed,n≤j):
 ∀(f:Nat) (listed:Array Bool) (a:Act),HeadInv md ops n listed→
  (∀j oj,ops[j]? =some oj→j≠i→listed.getD j true=false→(∀e∈oj.after,Region.binds md e=true→e.on≠i)→oi.apart ops oj=true)→
  i∈Region.ready md ops listed→YieldsIn P ops C oi v a→
  HeadQ P md ops C n L f (listed.setIfInBounds i true) (a.put oi.dst v)→HeadQ P md ops C n L (f+1) listed a:=by
 intro f
 induction f with
 |zero=>
  intro listed a inv _ hr hy H;have hun:=(mem_ready.1 hr).1;refine⟨fun h=>(by rw[h]at hr;cases hr),fun j hj=>?_⟩
  have hjn:j<n:=by
   rcases Nat.lt_or_ge j n with h|h
   ·exact h
   ·exact absurd hj (tail_waits hs hc hn inv _ i rfl hin hun j h)
  refine⟨hjn,?_⟩;by_cases hji:j=i
  ·subst hji;exact hy.qOp hi H
  ·have:=hdone _ _ H j (ready_mono hj hji)
   omega
 |succ f ih=>
  intro listed a inv hfree hr hy H;have hun:=(mem_ready.1 hr).1;refine⟨fun h=>(by rw[h]at hr;cases hr),fun j hj=>?_⟩
  have hjn:j<n:=by
   rcases Nat.lt_or_ge j n with h|h
   ·exact h
   ·exact absurd hj (tail_waits hs hc hn inv _ i rfl hin hun j h)
  refine⟨hjn,?_⟩;by_cases hji:j=i
  ·subst hji;exact hy.qOp hi H
  ·have h1:=(H.2 j (ready_mono hj hji)).2
   obtain⟨hjun,oj,hoj,hall⟩:=mem_ready.1 hj
   have hnot: ∀e∈oj.after,Region.binds md e=true→e.on≠i:=fun e he hb heq=>by
    have h1:=hall e he hb;rw[heq,getD_both hun]at h1
    cases h1
   have h2:=qOp_put hoj (hfree j oj hoj hji hjun hnot) (fun cs b=>hsel i oi cs b hi) (fun cs b=>hsel j oj cs b hoj) hy h1
   have hfree': ∀k ok,ops[k]? =some ok→k≠i→(listed.setIfInBounds j true).getD k true=false→
    (∀e∈ok.after,Region.binds md e=true→e.on≠i)→oi.apart ops ok=true:=fun k ok hk hki hun hno=>by
    refine hfree k ok hk hki ?_ hno;by_cases hjk:j=k
    ·subst hjk;exact hjun
    ·rw[getD_set_ne true hjk]at hun;exact hun
   refine qOp_mono (fun a' h3=>ih (listed.setIfInBounds j true) a' (inv.set hj hjn) hfree' (ready_mono hr (Ne.symm hji)) h3.1 ?_) h2;rw[Array.setIfInBounds_comm _ _ hji];exact h3.2
theorem headQ_lex {n g:Nat} {Lq:Act→Prop} (hsel:Region.noSelect ops=true) (hs:Region.sinkB md ops n=true) (hc:Region.chainB md ops n=true) (hn:n<ops.size):
 ∀(l:List Oper) (k:Nat) (listed:Array Bool) (a:Act),(∀j,j<l.length→l[j]? =ops[k+j]?)→k+l.length=n→HeadInv md ops n listed→
 Region.lexHead md ops g l.length k listed=true→wpQuiet P ops C Lq l a→
 HeadQ P md ops C n (fun listed' a'=>Region.seqB md ops g n listed'=true∧Lq a') l.length listed a
 |[],k,listed,a,_,hk,_,hB,h=>by
  have:k=n:=by simpa using hk
  subst this;exact⟨by simpa [Region.lexHead]using hB,h⟩
 |o::l,k,listed,a,hl,hk,inv,hB,h=>by
  have h0:ops[k]? =some o:=by simpa using(hl 0 (by simp)).symm
  simp only[List.length_cons,Region.lexHead,Bool.and_eq_true]at hB;obtain⟨⟨hr,hf⟩,hB'⟩:=hB;have hkn:k<n:=by simp only[List.length_cons]at hk;omega
  have hr':k∈Region.ready md ops listed:=by simpa using hr
  have hst:qOp P ops C k (wpQuiet P ops C Lq l) a:=by unfold qOp;simp only[h0];exact h
  obtain⟨v,hy,hK⟩:=yieldsIn_of_qOp h0 hst
  exact headQ_first h0 (Region.noSelect_spec hsel) hs hc hn hkn (fun listed' a' hL=>seqB_ready hL.1) l.length listed a inv (Region.free_spec h0 hf) hr' hy
   (headQ_lex hsel hs hc hn l (k+1) _ _ (fun j hj=>by have:=hl (j+1) (by simp;omega);simpa [Nat.add_assoc,Nat.add_comm 1 j]using this) (by simp only[List.length_cons]at hk;omega) (inv.set hr' hkn) hB' hK)
theorem wp_region_quiet_tail {id:Nat} {Q:Exit→Act→World→Prop} {a:Act} {w:World} {l:List Oper} (n:Nat) (hm:P.follows .mixedOrders=true) (hB:Region.lexTailB .any l.toArray n=true)
 (hC:C {w with drawn:=w.drawn+1})
 (h:wpQuiet P l.toArray C (fun a'=> ∀w',C w'→wpList P l.toArray Q (l.drop n) a' w') (l.take n) a):(Code.region id l.toArray true).wp P Q a w:=by
 simp only[Region.lexTailB,Bool.and_eq_true,decide_eq_true_eq]at hB;obtain⟨⟨⟨⟨hsel,hn⟩,hs⟩,hc⟩,hlex⟩:=hB;have hn':n<l.length:=by simpa using hn
 have htl:(l.take n).length=n:=by simp;omega
 have hdl:(l.drop n).length=l.toArray.size-n:=by simp
 have inv0:HeadInv .any l.toArray n (Array.replicate l.toArray.size false):=
  ⟨by simp,fun j oj _ hl=>(by rw[getD_replicate_false]at hl;cases hl),fun t _ ht=>getD_in (by simpa using ht) (getD_replicate_false _ _)⟩
 have H:=headQ_lex (md:= .any) (C:=C) (g:=l.toArray.size-n) hsel hs hc hn (l.take n) 0 _ a (fun j hj=>by
  have hj':j<n:=by rw[htl]at hj;exact hj
  simp[hj']) (by simpa using htl) inv0 (by rw[htl];exact hlex) h
 refine wp_region_any hm ?_
 have:=any_of_headQ (Q':=Q) (g:=l.toArray.size-n) (fun listed a' w' hw' hL=>by
  have:=wpAny_of_seq (md:= .any) (Q':=Q) (l.drop n) n listed a' w' (fun j=>by simp[List.getElem?_drop]) (by rw[hdl];exact hL.1) (hL.2 w' hw')
  rwa [hdl]at this) _ _ _ _ hC H
 rw[htl,show n+(l.toArray.size-n)=l.toArray.size by omega]at this;exact this
end
structure Ext where
 d:Nat
 os:Array Obj
 deriving Inhabited
def ext (w:World) (p:Ext):World:={w with heap:=w.heap++p.os,drawn:=p.d}
theorem ext_block {w:World} (p:Ext) {k:Nat} (h:k<w.heap.size):(ext w p).heap[k]? =w.heap[k]? :=by
 show(w.heap++p.os)[k]? =_;rw[Array.getElem?_append_left h]
theorem below_ext (w:World) (p:Ext):Below w.heap.size w (ext w p):=
 ⟨rfl,rfl,rfl,by simp[ext],fun _ hk=>ext_block p hk⟩
theorem ext_of_below {w w':World} (h:Below w.heap.size w w'): ∃p:Ext,w'=ext w p:=by
 refine⟨⟨w'.drawn,w'.heap.extract w.heap.size w'.heap.size⟩,?_⟩
 have hh:w'.heap=w.heap++w'.heap.extract w.heap.size w'.heap.size:=by
  apply Array.ext_getElem?;intro i;rcases Nat.lt_or_ge i w.heap.size with hi|hi
  ·rw[h.block i hi,Array.getElem?_append_left hi]
  ·rw[Array.getElem?_append_right hi,Array.getElem?_extract]
   have:=h.size
   split
   ·congr 1;omega
   ·rw[Array.getElem?_eq_none];omega
 have e1:=h.os;have e2:=h.tape;have e3:=h.output
 cases w'
 simp only at hh e1 e2 e3;simp only[ext];subst e1 e2 e3
 congr 1
theorem cell_ext {w:World} {a:Addr} {v:Value} (hb:a.block<w.heap.size) (h:w.cell? a=some v) (p:Ext):(ext w p).cell? a=some v:=
 (World.cell?_of_block (w:=w) (ext_block p hb)).trans h
theorem frozen_ext {w:World} {a:Addr} (hb:a.block<w.heap.size) (p:Ext):(ext w p).frozen? a=w.frozen? a:=
 World.frozen?_of_block (w:=w) (ext_block p hb)
theorem blk_ext {w:World} {g:Nat} {t:TypeId} {cs:Array Value} (h:Blk w g t cs) (p:Ext):Blk (ext w p) g t cs:=(ext_block p h.lt).trans h
theorem region_ext {P:Program} {id:Nat} {Q:Exit→Act→World→Prop} {a:Act} {w:World} {l:List Oper} (hm:P.follows .mixedOrders=true) (hB:Region.lexB .any l.toArray=true)
 (h:wpQuiet P l.toArray (fun w'=> ∃p:Ext,w'=ext w p) (fun a'=> ∀w',(∃p:Ext,w'=ext w p)→Q .normal a' w') l a):(Code.region id l.toArray true).wp P Q a w:=
 wp_region_quiet (C:=fun w'=> ∃p:Ext,w'=ext w p) hm hB (ext_of_below ((Below.refl _ _).drew)) (by simpa using h)
theorem region_ext_tail {P:Program} {id:Nat} {Q:Exit→Act→World→Prop} {a:Act} {w:World} {l:List Oper} (n:Nat) (hm:P.follows .mixedOrders=true) (hB:Region.lexTailB .any l.toArray n=true)
 (h:wpQuiet P l.toArray (fun w'=> ∃p:Ext,w'=ext w p) (fun a'=> ∀w',(∃p:Ext,w'=ext w p)→wpList P l.toArray Q (l.drop n) a' w') (l.take n) a):(Code.region id l.toArray true).wp P Q a w:=
 wp_region_quiet_tail (C:=fun w'=> ∃p:Ext,w'=ext w p) n hm hB (ext_of_below ((Below.refl _ _).drew)) h
theorem ext_call {P:Program} {f:FuncId} {args:Array Value} {w:World} {p:Ext} {v:Value}
 (h:Calls P f args (ext w p) fun e w'=>e= .returned v∧Below (ext w p).heap.size (ext w p) w'):Calls P f args (ext w p) fun e w''=>e= .returned v∧ ∃q:Ext,w''=ext w q:=
 h.mono fun _ _ ⟨he,hb⟩=>⟨he,ext_of_below ((below_ext w p).trans (hb.mono (below_ext w p).size))⟩
theorem ext_call_same {P:Program} {f:FuncId} {args:Array Value} {w:World} {p:Ext} {v:Value}
 (h:Calls P f args (ext w p) fun e w'=>e= .returned v∧ext w p=w'):Calls P f args (ext w p) fun e w''=>e= .returned v∧ ∃q:Ext,w''=ext w q:=
 h.mono fun _ _ ⟨he,hb⟩=>⟨he,p,hb.symm⟩
theorem wp_gen {P:Program} {c:Code} {Q:Exit→Act→World→Prop} {a:Act} {w:World} (F:World→Prop) (hF:F w) (h: ∀W,F W→c.wp P Q a W):c.wp P Q a w:=h w hF
end Go.Proofs.YtibjkhepedfpiaaGreatDoor.Q
namespace Go.Proofs.YtibjkhepedfpiaaGreatDoor.Rg
open Go Go.RowKit Mem Q
def Le (w w':World):Prop:= ∃p:Ext,w'=ext w p
theorem le_refl (w:World):Le w w:=ext_of_below (Below.refl _ _)
theorem le_below {w w':World} (h:Le w w'):Below w.heap.size w w':=by obtain⟨p,rfl⟩:=h;exact below_ext w p
theorem le_of {w w':World} (h:Below w.heap.size w w'):Le w w':=ext_of_below h
theorem le_trans {a b c:World} (h:Le a b) (k:Le b c):Le a c:=le_of ((le_below h).trans ((le_below k).mono (le_below h).size))
theorem le_alloc (w:World) (o:Obj):Le w (w.alloc o):=le_of ((Below.refl _ _).alloc (Nat.le_refl _) _)
structure Sp where
 is:Value→Prop
 post:Value→World→Prop
def plain:Op→Bool
 | .move _| .assign _| .pick .. | .build .. | .load .. | .binOp .. | .unOp .. | .convert .. | .slice .. | .fieldAddr .. | .field .. | .indexAddr .. | .index .. | .extract .. | .lookup .. | .makeInterface .. =>true
 | .call c=>match c.callee with
  | .builtin .len| .builtin .cap| .builtin .min| .builtin .max=>true
  |_=>false
 |_=>false
section
variable {P:Program} {ops:Array Oper} {md:Region.Mode} {C:World→Prop} {sp:List (Nat×Sp)} {σ:Nat→Value}
theorem v_not_enter {β:Type} {s:Sem β} {g:β→Value} {w w':World} {f:FuncId} {args:Array Value}:((do pure (Next.value (g (←s))):Sem Next)).run P w≠ .ok (.enter f args) w':=by
 intro h;rw[Sem.run_bind]at h
 cases hs:s.run P w with
 |ok x w1=>rw[hs]at h;simp[Result.andThen]at h
 |halt x w1=>rw[hs]at h;simp[Result.andThen]at h
theorem plain_not_enter {ρ:Operand→Value} {o:Oper} {w w':World} {f:FuncId} {args:Array Value} (hp:plain o.op=true):(execOp ρ o).run P w≠ .ok (.enter f args) w':=by
 intro h;unfold execOp at h
 cases hop:o.op
 case call c=>
  rw[hop]at h hp;simp only[plain]at hp
  split at hp
  all_goals first|(cases hp;done)|skip
  all_goals
   rename_i hc;simp only[resolve,hc]at h;exact v_not_enter (g:=id) h
 all_goals (rw[hop]at h hp;first|(cases hp;done)|skip)
 case move x=>exact v_not_enter (s:=(pure (ρ x):Sem Value)) (g:=id) h
 case assign x=>exact v_not_enter (s:=(pure (ρ x):Sem Value)) (g:=id) h
 case pick c x y=>exact v_not_enter (s:=asBool (ρ c)) (g:=fun b=>if b=true then ρ x else ρ y) h
 all_goals exact v_not_enter (g:=id) h
def spUpon (P:Program) (s:Sp) (w:World):Result Next→Prop
 | .ok (.value v) w'=>Le w w'∧s.is v∧s.post v w'
 | .ok (.enter f args) w'=>w'=w∧Calls P f args w (fun e w''=> ∃v,e= .returned v∧Le w w''∧s.is v∧s.post v w'')
 |_=>False
def Dep (sp:List (Nat×Sp)) (σ:Nat→Value) (o:Oper) (w:World):Prop:= ∀e∈o.after,Region.binds .any e=true→ ∀s,sp.lookup e.on=some s→s.post (σ e.on) w
def spAt (P:Program) (C:World→Prop) (sp:List (Nat×Sp)) (σ:Nat→Value) (s:Sp) (o:Oper) (a:Act):Prop:= ∀w,C w→Dep sp σ o w→spUpon P s w ((execOp a.eval o).run P w)
def NY (P:Program) (ops:Array Oper) (C:World→Prop) (sp:List (Nat×Sp)) (σ:Nat→Value) (i:Nat) (o:Oper) (v:Value) (a:Act):Prop:=
 match sp.lookup i with
 |some s=>Region.wanted o (yielded ops a.tmps)=true∧spAt P C sp σ s o a∧v=σ i
 |none=>(Region.wanted o (yielded ops a.tmps)=true∧plain o.op=true∧ ∀w,C w→o.quietAt P a C w v)∨(Region.wanted o (yielded ops a.tmps)=false∧v=undef)
theorem NY.of_same {i:Nat} {o:Oper} {v:Value} {a a':Act} (hy:NY P ops C sp σ i o v a) (he:execOp a'.eval o=execOp a.eval o)
 (hw:Region.wanted o (yielded ops a'.tmps)=Region.wanted o (yielded ops a.tmps)):NY P ops C sp σ i o v a':=by
 unfold NY spAt Oper.quietAt at*;rw[he,hw];exact hy
def nOp (P:Program) (ops:Array Oper) (C:World→Prop) (sp:List (Nat×Sp)) (σ:Nat→Value) (i:Nat) (K:Act→Prop) (a:Act):Prop:=
 ∃o v,ops[i]? =some o∧NY P ops C sp σ i o v a∧K (a.put o.dst v)
theorem nOp_mono {i:Nat} {a:Act} {K K':Act→Prop} (h: ∀a,K a→K' a):nOp P ops C sp σ i K a→nOp P ops C sp σ i K' a:=
 fun⟨o,v,h1,h2,h3⟩=>⟨o,v,h1,h2,h _ h3⟩
theorem nOp_put {i j:Nat} {oi oj:Oper} {v:Value} (hj:ops[j]? =some oj) (hap:oi.apart ops oj=true)
 (hsi: ∀cs b,oi.op≠ .select cs b) (hsj: ∀cs b,oj.op≠ .select cs b) {K:Act→Prop} {a:Act}
 (hy:NY P ops C sp σ i oi v a) (h:nOp P ops C sp σ j K (a.put oi.dst v)):
 nOp P ops C sp σ j (fun a'=>NY P ops C sp σ i oi v a'∧K (a'.put oi.dst v)) a:=by
 obtain⟨h1,h2,h3⟩:=Oper.apart_spec hap;obtain⟨o,u,ho,hu,hK⟩:=h;obtain rfl:oj=o:=by rw[hj]at ho;injection ho
 exact⟨oj,u,hj,hu.of_same (execOp_put oj hsj a oi.dst v h1).symm (wanted_put oj a oi.dst v h1).symm,
  hy.of_same (execOp_put oi hsi a oj.dst u h3) (wanted_put oi a oj.dst u h3),by rw[←Act.put_comm a v u h2];exact hK⟩
def HeadN (P:Program) (md:Region.Mode) (ops:Array Oper) (C:World→Prop) (sp:List (Nat×Sp)) (σ:Nat→Value) (n:Nat) (L:Array Bool→Act→Prop):Nat→Array Bool→Act→Prop
 |0,listed,a=>L listed a
 |f+1,listed,a=>
  Region.ready md ops listed≠[]∧ ∀i∈Region.ready md ops listed,i<n∧nOp P ops C sp σ i (HeadN P md ops C sp σ n L f (listed.setIfInBounds i true)) a
theorem any_of_headN {n g:Nat} {L:(Nat→Value)→Array Bool→Act→Prop} {Q':Exit→Act→World→Prop} (hC: ∀w w',C w→Le w w'→C w')
 (hmono: ∀i s,sp.lookup i=some s→ ∀v w w',s.post v w→Le w w'→s.post v w')
 (hL: ∀σ listed a w,C w→(∀i s,sp.lookup i=some s→s.is (σ i))→(∀i s,sp.lookup i=some s→listed.getD i false=true→s.post (σ i) w)→L σ listed a→wpAny P .any ops Q' g listed a w):
 ∀(f:Nat) (listed:Array Bool) (a:Act) (w:World) (σ0:Nat→Value),C w→(∀i s,sp.lookup i=some s→s.is (σ0 i))→(∀i s,sp.lookup i=some s→listed.getD i false=true→s.post (σ0 i) w)→
  (∀σ,(∀i s,sp.lookup i=some s→s.is (σ i))→(∀i,listed.getD i false=true→σ i=σ0 i)→HeadN P .any ops C sp σ n (L σ) f listed a)→wpAny P .any ops Q' (f+g) listed a w
 |0,listed,a,w,σ0,hw,hg,hp,h=>by rw[Nat.zero_add];exact hL σ0 _ _ _ hw hg hp (h σ0 hg (fun _ _=>rfl))
 |f+1,listed,a,w,σ0,hw,hg,hp,h=>by
  rw[show f+1+g=(f+g)+1 by omega];have h0:=h σ0 hg (fun _ _=>rfl);refine⟨fun hr=>absurd hr h0.1,fun i hi=>?_⟩;obtain⟨o,v,ho,hy,hK⟩:=(h0.2 i hi).2;have hun:listed.getD i false=false:=getD_both (mem_ready.1 hi).1
  have hset: ∀k,(listed.setIfInBounds i true).getD k false=true→k=i∨listed.getD k false=true:=fun k hk=>by
   by_cases hki:k=i
   ·exact Or.inl hki
   ·rw[getD_set_ne false (Ne.symm hki)]at hk;exact Or.inr hk
  unfold wpOp;simp only[ho];unfold NY at hy
  cases hs:sp.lookup i with
  |some s=>
   rw[hs]at hy;obtain⟨hwant,hsp,_⟩:=hy;rw[if_pos hwant];left
   have go: ∀v w',Le w w'→s.is v→s.post v w'→wpAny P .any ops Q' (f+g) (listed.setIfInBounds i true) (a.put o.dst v) w':=fun v w' hle his hpo=>by
    refine any_of_headN (n:=n) hC hmono hL f _ _ w' (fun k=>if k=i then v else σ0 k) (hC _ _ hw hle) (fun k s' hk=>?_) (fun k s' hk hl=>?_) (fun σ hσ hag=>?_)
    ·by_cases hki:k=i
     ·subst hki
      rw[hs]at hk;injection hk with hk
      subst hk;simpa using his
     ·simpa [hki]using hg k s' hk
    ·by_cases hki:k=i
     ·subst hki
      rw[hs]at hk;injection hk with hk
      subst hk;simpa using hpo
     ·rcases hset k hl with e|e
      ·exact absurd e hki
      ·simpa [hki]using hmono k s' hk _ _ _ (hp k s' hk e) hle
    ·have hσi:σ i=v:=by
      have:=hag i (by
       have hlt:i<listed.size:=by
        rcases Nat.lt_or_ge i listed.size with h'|h'
        ·exact h'
        ·have:=(mem_ready.1 hi).1;simp[Array.getElem?_eq_none h']at this
       simp[hlt])
      simpa using this
     have hH:=h σ hσ (fun k hk=>by
      have hki:k≠i:=fun e=>by subst e;rw[hun]at hk;cases hk
      have:=hag k (by rw[getD_set_ne false (Ne.symm hki)];exact hk);simpa [hki]using this)
     obtain⟨o',v',ho',hy',hK'⟩:=(hH.2 i hi).2;obtain rfl:o=o':=by rw[ho]at ho';injection ho'
     unfold NY at hy';rw[hs]at hy';rw[hy'.2.2,hσi]at hK';exact hK'
   have hrun:=hsp w hw (fun e he hb s' hs'=>hp e.on s' hs' (by obtain⟨_,o2,ho2,hall⟩:=mem_ready.1 hi;rw[ho]at ho2;injection ho2 with ho2;subst ho2;exact hall e he hb));unfold Oper.wp
   generalize (execOp a.eval o).run P w=r at hrun ⊢
   cases r with
   |ok nx w'=>
    cases nx<;>simp only[spUpon]at hrun<;>simp only[Oper.upon]
    case value u=>exact go u w' hrun.1 hrun.2.1 hrun.2.2
    case enter f' args=>
     obtain⟨e1,hc⟩:=hrun;rw[e1];exact hc.mono fun e w'' ⟨v,he,hle,his,hpo⟩=>by subst he;exact go v w'' hle his hpo
   |halt x w'=>simp only[spUpon]at hrun
  |none=>
   rw[hs]at hy
   have next: ∀v,(∀σ,(∀i s,sp.lookup i=some s→s.is (σ i))→(∀i,listed.getD i false=true→σ i=σ0 i)→HeadN P .any ops C sp σ n (L σ) f (listed.setIfInBounds i true) (a.put o.dst v))→
    wpAny P .any ops Q' (f+g) (listed.setIfInBounds i true) (a.put o.dst v) w:=fun v hv=>by
    refine any_of_headN (n:=n) hC hmono hL f _ _ w σ0 hw hg (fun k s' hk hl=>?_) (fun σ hσ hag=>hv σ hσ fun k hk=>hag k ?_)
    ·rcases hset k hl with e|e
     ·subst e;rw[hs]at hk;cases hk
     ·exact hp k s' hk e
    ·have hki:k≠i:=fun e=>by subst e;rw[hun]at hk;cases hk
     rw[getD_set_ne false (Ne.symm hki)];exact hk
   rcases hy with⟨hwant,hpl,hq⟩|⟨hwant,rfl⟩
   ·rw[if_pos hwant]
    left;have hq0:=hq w hw
    have hall: ∀σ,(∀i s,sp.lookup i=some s→s.is (σ i))→(∀i,listed.getD i false=true→σ i=σ0 i)→ ∃v',o.quietAt P a C w v'∧HeadN P .any ops C sp σ n (L σ) f (listed.setIfInBounds i true) (a.put o.dst v'):=fun σ hσ hag=>by
     obtain⟨o',v',ho',hy',hK'⟩:=((h σ hσ hag).2 i hi).2;obtain rfl:o=o':=by rw[ho]at ho';injection ho'
     unfold NY at hy';rw[hs]at hy';rcases hy' with⟨_,_,hq'⟩|⟨hw',_⟩
     ·exact⟨v',hq' w hw,hK'⟩
     ·rw[hwant]at hw';cases hw'
    unfold Oper.quietAt at hq0 hall;have hne:=fun f' args w'=>plain_not_enter (P:=P) (ρ:=a.eval) (w:=w) (f:=f') (args:=args) (w':=w') hpl;unfold Oper.wp
    generalize (execOp a.eval o).run P w=r at hq0 hall hne ⊢
    cases r with
    |ok nx w'=>
     cases nx<;>simp only[Oper.quietUpon]at hq0 hall<;>simp only[Oper.upon]
     case value u=>
      obtain⟨rfl,rfl⟩:=hq0
      exact next u fun σ hσ hag=>by
       obtain⟨v',⟨_,hv'⟩,hK'⟩:=hall σ hσ hag;rw[hv'];exact hK'
     case skip=>
      obtain⟨rfl,rfl⟩:=hq0
      exact next undef fun σ hσ hag=>by
       obtain⟨v',⟨_,hv'⟩,hK'⟩:=hall σ hσ hag;rw[←hv'];exact hK'
     case enter f' args=>exact absurd rfl (hne f' args w')
    |halt x w'=>simp only[Oper.quietUpon]at hq0
   ·rw[if_neg (by rw[hwant];exact Bool.false_ne_true)]
    exact next undef fun σ hσ hag=>by
     obtain⟨o',v',ho',hy',hK'⟩:=((h σ hσ hag).2 i hi).2;obtain rfl:o=o':=by rw[ho]at ho';injection ho'
     unfold NY at hy';rw[hs]at hy';rcases hy' with⟨hw',_⟩|⟨_,hv'⟩
     ·rw[hwant]at hw';cases hw'
     ·rw[←hv'];exact hK'
theorem headN_first {n i:Nat} {oi:Oper} {v:Value} {L:Array Bool→Act→Prop} (hi:ops[i]? =some oi) (hsel: ∀(j:Nat) (o:Oper) cs b,ops[j]? =some o→o.op≠ .select cs b)
 (hwait: ∀listed,HeadInv md ops n listed→ ∀i,i<n→listed.getD i true=false→ ∀j∈Region.ready md ops listed,j<n) (hin:i<n)
 (hdone: ∀listed a,L listed a→ ∀j∈Region.ready md ops listed,n≤j):
 ∀(f:Nat) (listed:Array Bool) (a:Act),HeadInv md ops n listed→
  (∀j oj,ops[j]? =some oj→j≠i→listed.getD j true=false→(∀e∈oj.after,Region.binds md e=true→e.on≠i)→oi.apart ops oj=true)→
  i∈Region.ready md ops listed→NY P ops C sp σ i oi v a→
  HeadN P md ops C sp σ n L f (listed.setIfInBounds i true) (a.put oi.dst v)→HeadN P md ops C sp σ n L (f+1) listed a:=by
 intro f
 induction f with
 |zero=>
  intro listed a inv _ hr hy H;have hun:=(mem_ready.1 hr).1;refine⟨fun h=>(by rw[h]at hr;cases hr),fun j hj=>?_⟩;have hjn:j<n:=hwait listed inv i hin hun j hj;refine⟨hjn,?_⟩;by_cases hji:j=i
  ·subst hji;exact⟨oi,v,hi,hy,H⟩
  ·have:=hdone _ _ H j (ready_mono hj hji)
   omega
 |succ f ih=>
  intro listed a inv hfree hr hy H;have hun:=(mem_ready.1 hr).1;refine⟨fun h=>(by rw[h]at hr;cases hr),fun j hj=>?_⟩;have hjn:j<n:=hwait listed inv i hin hun j hj;refine⟨hjn,?_⟩;by_cases hji:j=i
  ·subst hji;exact⟨oi,v,hi,hy,H⟩
  ·have h1:=(H.2 j (ready_mono hj hji)).2
   obtain⟨hjun,oj,hoj,hall⟩:=mem_ready.1 hj
   have hnot: ∀e∈oj.after,Region.binds md e=true→e.on≠i:=fun e he hb heq=>by
    have h1:=hall e he hb;rw[heq,getD_both hun]at h1
    cases h1
   have h2:=nOp_put hoj (hfree j oj hoj hji hjun hnot) (fun cs b=>hsel i oi cs b hi) (fun cs b=>hsel j oj cs b hoj) hy h1
   have hfree': ∀k ok,ops[k]? =some ok→k≠i→(listed.setIfInBounds j true).getD k true=false→
    (∀e∈ok.after,Region.binds md e=true→e.on≠i)→oi.apart ops ok=true:=fun k ok hk hki hun hno=>by
    refine hfree k ok hk hki ?_ hno;by_cases hjk:j=k
    ·subst hjk;exact hjun
    ·rw[getD_set_ne true hjk]at hun;exact hun
   refine nOp_mono (fun a' h3=>ih (listed.setIfInBounds j true) a' (inv.set hj hjn) hfree' (ready_mono hr (Ne.symm hji)) h3.1 ?_) h2;rw[Array.setIfInBounds_comm _ _ hji];exact h3.2
def wpN (P:Program) (ops:Array Oper) (C:World→Prop) (sp:List (Nat×Sp)) (σ:Nat→Value) (Q:Act→Prop):List Oper→Nat→Act→Prop
 |[],_,a=>Q a
 |o::rest,i,a=> ∃v,NY P ops C sp σ i o v a∧wpN P ops C sp σ Q rest (i+1) (a.put o.dst v)
theorem headN_lex {n:Nat} {Lq:Act→Prop} {E:Array Bool→Bool} (hsel:Region.noSelect ops=true)
 (hwait: ∀listed,HeadInv md ops n listed→ ∀i,i<n→listed.getD i true=false→ ∀j∈Region.ready md ops listed,j<n)
 (hE: ∀listed,E listed=true→ ∀j∈Region.ready md ops listed,n≤j) (step:Nat→Nat→Array Bool→Bool)
 (h0s: ∀listed,step 0 n listed=true→E listed=true)
 (hss: ∀f k listed,step (f+1) k listed=true→k∈Region.ready md ops listed∧Region.free md ops listed k=true∧step f (k+1) (listed.setIfInBounds k true)=true):
 ∀(l:List Oper) (k:Nat) (listed:Array Bool) (a:Act),(∀j,j<l.length→l[j]? =ops[k+j]?)→k+l.length=n→HeadInv md ops n listed→(∀j,j<k→listed.getD j false=true)→
 step l.length k listed=true→wpN P ops C sp σ Lq l k a→
 HeadN P md ops C sp σ n (fun listed' a'=>(E listed'=true∧ ∀j,j<n→listed'.getD j false=true)∧Lq a') l.length listed a
 |[],k,listed,a,_,hk,_,hdone,hB,h=>by
  have:k=n:=by simpa using hk
  subst this;exact⟨⟨h0s _ (by simpa using hB),hdone⟩,h⟩
 |o::l,k,listed,a,hl,hk,inv,hdone,hB,h=>by
  have h0:ops[k]? =some o:=by simpa using(hl 0 (by simp)).symm
  obtain⟨hr',hf,hB'⟩:=hss l.length k listed (by simpa using hB);have hkn:k<n:=by simp only[List.length_cons]at hk;omega
  obtain⟨v,hy,hK⟩:=h
  exact headN_first h0 (Region.noSelect_spec hsel) hwait hkn (fun listed' a' hL=>hE _ hL.1.1) l.length listed a inv (Region.free_spec h0 hf) hr' hy
   (headN_lex hsel hwait hE step h0s hss l (k+1) _ _ (fun j hj=>by have:=hl (j+1) (by simp;omega);simpa [Nat.add_assoc,Nat.add_comm 1 j]using this) (by simp only[List.length_cons]at hk;omega) (inv.set hr' hkn)
    (fun j hj=>by
     by_cases hjk:j=k
     ·subst hjk
      have hlt:j<listed.size:=by
       rcases Nat.lt_or_ge j listed.size with h'|h'
       ·exact h'
       ·have:=(mem_ready.1 hr').1;simp[Array.getElem?_eq_none h']at this
      simp[hlt]
     ·rw[getD_set_ne false (Ne.symm hjk)];exact hdone j (by omega)) hB' hK)
theorem up_C {w0:World}: ∀w w',Le w0 w→Le w w'→Le w0 w':=fun _ _ h k=>le_trans h k
theorem region_new {id:Nat} {Q:Exit→Act→World→Prop} {a:Act} {w:World} {l:List Oper} (sp:List (Nat×Sp)) (n:Nat) (hm:P.follows .mixedOrders=true) (hB:Region.lexTailB .any l.toArray n=true) (hsn:sp.all (fun s=>decide (s.1<n))=true)
 (hinh: ∀i s,sp.lookup i=some s→ ∃v,s.is v) (hmono: ∀i s,sp.lookup i=some s→ ∀v w w',s.post v w→Le w w'→s.post v w')
 (h: ∀σ:Nat→Value,(∀i s,sp.lookup i=some s→s.is (σ i))→wpN P l.toArray (fun w'=> ∃p:Ext,w'=ext w p) sp σ (fun a'=> ∀w',(∃p:Ext,w'=ext w p)→(∀i s,sp.lookup i=some s→s.post (σ i) w')→wpList P l.toArray Q (l.drop n) a' w') (l.take n) 0 a):
 (Code.region id l.toArray true).wp P Q a w:=by
 have hlk: ∀i s,sp.lookup i=some s→i<n:=by
  clear hinh hmono h
  induction sp with
  |nil=>intro i s h;cases h
  |cons x t ih=>
   simp only[List.all_cons,Bool.and_eq_true,decide_eq_true_eq]at hsn;intro i s h;rw[List.lookup_cons]at h
   split at h
   ·rename_i e;have:i=x.1:=by simpa using e
    rw[this];exact hsn.1
   ·exact ih hsn.2 i s h
 simp only[Region.lexTailB,Bool.and_eq_true,decide_eq_true_eq]at hB;obtain⟨⟨⟨⟨hsel,hn⟩,hs⟩,hc⟩,hlex⟩:=hB;have hn':n<l.length:=by simpa using hn
 have htl:(l.take n).length=n:=by simp;omega
 have hdl:(l.drop n).length=l.toArray.size-n:=by simp
 have inv0:HeadInv .any l.toArray n (Array.replicate l.toArray.size false):=
  ⟨by simp,fun j oj _ hl=>(by rw[getD_replicate_false]at hl;cases hl),fun t _ ht=>getD_in (by simpa using ht) (getD_replicate_false _ _)⟩
 have hch: ∀i,∃v,∀s,sp.lookup i=some s→s.is v:=fun i=>by
  cases hi:sp.lookup i with
  |none=>exact⟨undef,fun s h=>by cases h⟩
  |some s=>obtain⟨v,hv⟩:=hinh i s hi;exact⟨v,fun s' h'=>by injection h' with h';subst h';exact hv⟩
 obtain⟨σ0,hσ0⟩:=Classical.axiomOfChoice hch;refine wp_region_any hm ?_
 have:=any_of_headN (P:=P) (ops:=l.toArray) (C:=fun w'=>Le w w') (sp:=sp) (n:=n) (g:=l.toArray.size-n) (Q':=Q)
  (L:=fun σ listed' a'=>(Region.seqB .any l.toArray (l.toArray.size-n) n listed'=true∧ ∀j,j<n→listed'.getD j false=true)∧ ∀w',Le w w'→(∀i s,sp.lookup i=some s→s.post (σ i) w')→wpList P l.toArray Q (l.drop n) a' w')
  up_C hmono (fun σ listed a' w' hw' hgd hp hL=>by
   have:=wpAny_of_seq (md:= .any) (Q':=Q) (l.drop n) n listed a' w' (fun j=>by simp[List.getElem?_drop]) (by rw[hdl];exact hL.1.1) (hL.2 w' hw' (fun i s hi=>hp i s hi (hL.1.2 i (hlk i s hi))))
   rwa [hdl]at this) n (Array.replicate l.toArray.size false) a {w with drawn:=w.drawn+1} σ0 (le_of ((Below.refl _ _).drew)) (fun i s hi=>hσ0 i s hi) (fun i s hi hl=>by rw[getD_replicate_false]at hl;cases hl) (fun σ hσ _=>by
   have:=headN_lex (P:=P) (md:= .any) (C:=fun w'=>Le w w') (sp:=sp) (σ:=σ) (E:=fun listed=>Region.seqB .any l.toArray (l.toArray.size-n) n listed) hsel
    (fun listed inv i hi hun j hj=>by
     rcases Nat.lt_or_ge j n with h|h
     ·exact h
     ·exact absurd hj (tail_waits hs hc hn inv _ i rfl hi hun j h))
    (fun listed hE=>seqB_ready hE) (Region.lexHead .any l.toArray (l.toArray.size-n))
    (fun listed hk=>hk)
    (fun f k listed hk=>by
     simp only[Region.lexHead,Bool.and_eq_true]at hk;exact⟨by simpa using hk.1.1,hk.1.2,hk.2⟩)
    (l.take n) 0 (Array.replicate l.toArray.size false) a (fun j hj=>by
     have hj':j<n:=by rw[htl]at hj;exact hj
     simp[hj']) (by simpa using htl) inv0 (fun j hj=>by omega) (by rw[htl];exact hlex) (h σ hσ)
   rw[htl]at this;exact this)
 rw[show n+(l.toArray.size-n)=l.toArray.size by omega]at this;exact this
theorem region_new_all {id:Nat} {Q:Exit→Act→World→Prop} {a:Act} {w:World} {l:List Oper} (sp:List (Nat×Sp)) (hm:P.follows .mixedOrders=true) (hB:Region.lexB .any l.toArray=true) (hsn:sp.all (fun s=>decide (s.1<l.length))=true)
 (hinh: ∀i s,sp.lookup i=some s→ ∃v,s.is v) (hmono: ∀i s,sp.lookup i=some s→ ∀v w w',s.post v w→Le w w'→s.post v w')
 (h: ∀σ:Nat→Value,(∀i s,sp.lookup i=some s→s.is (σ i))→wpN P l.toArray (fun w'=> ∃p:Ext,w'=ext w p) sp σ (fun a'=> ∀w',(∃p:Ext,w'=ext w p)→(∀i s,sp.lookup i=some s→s.post (σ i) w')→Q .normal a' w') l 0 a):
 (Code.region id l.toArray true).wp P Q a w:=by
 have hlk: ∀i s,sp.lookup i=some s→i<l.length:=by
  clear hinh hmono h
  induction sp with
  |nil=>intro i s h;cases h
  |cons x t ih=>
   simp only[List.all_cons,Bool.and_eq_true,decide_eq_true_eq]at hsn;intro i s h;rw[List.lookup_cons]at h
   split at h
   ·rename_i e;have:i=x.1:=by simpa using e
    rw[this];exact hsn.1
   ·exact ih hsn.2 i s h
 simp only[Region.lexB,Bool.and_eq_true]at hB;obtain⟨hsel,hlex⟩:=hB
 have inv0:HeadInv .any l.toArray l.length (Array.replicate l.toArray.size false):=
  ⟨by simp,fun j oj _ hl=>(by rw[getD_replicate_false]at hl;cases hl),fun t h1 ht=>by simp at ht;omega⟩
 have hch: ∀i,∃v,∀s,sp.lookup i=some s→s.is v:=fun i=>by
  cases hi:sp.lookup i with
  |none=>exact⟨undef,fun s h=>by cases h⟩
  |some s=>obtain⟨v,hv⟩:=hinh i s hi;exact⟨v,fun s' h'=>by injection h' with h';subst h';exact hv⟩
 obtain⟨σ0,hσ0⟩:=Classical.axiomOfChoice hch;refine wp_region_any hm ?_
 have:=any_of_headN (P:=P) (ops:=l.toArray) (C:=fun w'=>Le w w') (sp:=sp) (n:=l.length) (g:=0) (Q':=Q)
  (L:=fun σ listed' a'=>((Region.ready .any l.toArray listed').isEmpty=true∧ ∀j,j<l.length→listed'.getD j false=true)∧ ∀w',Le w w'→(∀i s,sp.lookup i=some s→s.post (σ i) w')→Q .normal a' w')
  up_C hmono (fun σ listed a' w' hw' hgd hp hL=>⟨by simpa using hL.1.1,hL.2 w' hw' (fun i s hi=>hp i s hi (hL.1.2 i (hlk i s hi)))⟩) l.length (Array.replicate l.toArray.size false) a {w with drawn:=w.drawn+1} σ0 (le_of ((Below.refl _ _).drew)) (fun i s hi=>hσ0 i s hi) (fun i s hi hl=>by rw[getD_replicate_false]at hl;cases hl) (fun σ hσ _=>by
   exact headN_lex (P:=P) (md:= .any) (C:=fun w'=>Le w w') (sp:=sp) (σ:=σ) (E:=fun listed=>(Region.ready .any l.toArray listed).isEmpty) hsel
    (fun listed inv i hi hun j hj=>by
     obtain⟨_,o,ho,_⟩:=mem_ready.1 hj;have:=(Array.getElem?_eq_some_iff.1 ho).1;simpa using this)
    (fun listed hE j hj=>by rw[List.isEmpty_iff.1 hE]at hj;cases hj) (Region.lexFrom .any l.toArray)
    (fun listed hk=>hk)
    (fun f k listed hk=>by
     simp only[Region.lexFrom,Bool.and_eq_true]at hk;exact⟨by simpa using hk.1.1,hk.1.2,hk.2⟩)
    l 0 (Array.replicate l.toArray.size false) a (fun j hj=>by simp) (by simp) inv0 (fun j hj=>by omega) (by simpa using hlex) (h σ hσ))
 simpa using this
end
section
variable {P:Program} {ops:Array Oper} {sp:List (Nat×Sp)} {σ:Nat→Value} {Q:Act→Prop} {W:World}
theorem wpN_quiet {C:World→Prop}: ∀(l:List Oper) (rest:List Oper) (i:Nat) (a:Act),l.all (fun o=>plain o.op)=true→(∀j,i≤j→j<i+l.length→sp.lookup j=none)→
 wpQuiet P ops C (fun a'=>wpN P ops C sp σ Q rest (i+l.length) a') l a→wpN P ops C sp σ Q (l++rest) i a
 |[],rest,i,a,_,_,h=>h
 |o::l,rest,i,a,hp,hn,h=>by
  simp only[List.all_cons,Bool.and_eq_true]at hp;have hi:=hn i (Nat.le_refl _) (by simp);have hn': ∀j,i+1≤j→j<i+1+l.length→sp.lookup j=none:=fun j h1 h2=>hn j (by omega) (by simp;omega);have hlen:i+(o::l).length=i+1+l.length:=by simp;omega
  rw[hlen]at h;unfold wpQuiet at h;by_cases hw:Region.wanted o (yielded ops a.tmps)=true
  ·rw[if_pos hw]at h
   obtain⟨v,hq,hK⟩:=h;exact⟨v,by unfold NY;rw[hi];exact Or.inl ⟨hw,hp.1,hq⟩,wpN_quiet l rest (i+1) _ hp.2 hn' hK⟩
  ·rw[if_neg hw]at h
   exact⟨undef,by unfold NY;rw[hi];exact Or.inr ⟨by simpa using hw,rfl⟩,wpN_quiet l rest (i+1) _ hp.2 hn' h⟩
theorem wpN_take {C:World→Prop} (k:Nat) {l:List Oper} {i:Nat} {a:Act} (hk:Nat.ble k l.length=true) (hp:(l.take k).all (fun o=>plain o.op)=true) (hn:(List.range' i k).all (fun j=>(sp.lookup j).isNone)=true)
 (h:wpQuiet P ops C (fun a'=>wpN P ops C sp σ Q (l.drop k) (i+k) a') (l.take k) a):wpN P ops C sp σ Q l i a:=by
 have hk':k≤l.length:=Nat.le_of_ble_eq_true hk;have hl:(l.take k).length=k:=by simp;omega
 rw[←List.take_append_drop k l];refine wpN_quiet (l.take k) (l.drop k) i a hp (fun j h1 h2=>?_) (by rw[hl];exact h);rw[hl]at h2;have:=List.all_eq_true.1 hn j (by simp[List.mem_range'];exact⟨j-i,by omega,by omega⟩);simpa using this
theorem dep_at {o:Oper} {w:World} (h:Dep sp σ o w) (k:Nat) {s:Sp} (hs:sp.lookup k=some s) (he:o.after.any (fun e=>(e.on==k)&&Region.binds .any e)=true):s.post (σ k) w:=by
 rw[←Array.any_toList,List.any_eq_true]at he;obtain⟨e,hm,h1⟩:=he;simp only[Bool.and_eq_true,beq_iff_eq]at h1;obtain⟨rfl,hb⟩:=h1;exact h e (by simpa using hm) hb s hs
theorem wpN_nil {C:World→Prop} {i:Nat} {a:Act} (h:Q a):wpN P ops C sp σ Q [] i a:=h
theorem wpN_sp {C:World→Prop} {o:Oper} {rest:List Oper} {i:Nat} {a:Act} (s:Sp) (hi:sp.lookup i=some s) (hw:Region.wanted o (yielded ops a.tmps)=true) (hs:spAt P C sp σ s o a) (h:wpN P ops C sp σ Q rest (i+1) (a.put o.dst (σ i))):wpN P ops C sp σ Q (o::rest) i a:=
 ⟨σ i,by unfold NY;rw[hi];exact⟨hw,hs,rfl⟩,h⟩
theorem spAt_call {s:Sp} {o:Oper} {a:Act} {f:FuncId} {args:Array Value} (hrun: ∀w:World,(execOp a.eval o).run P w= .ok (.enter f args) w)
 (h: ∀w,Le W w→Dep sp σ o w→Calls P f args w (fun e w''=> ∃v,e= .returned v∧Below w.heap.size w w''∧s.is v∧s.post v w'')):spAt P (fun w'=> ∃p:Ext,w'=ext W p) sp σ s o a:=by
 rintro w hw hd;rw[hrun];exact⟨rfl,(h w hw hd).mono fun e w'' ⟨v,h1,h2,h3⟩=>⟨v,h1,le_of h2,h3⟩⟩
end
theorem _root_.Go.Proofs.YtibjkhepedfpiaaGreatDoor.Mem.Blk.all {w:World} {g:Nat} {t:TypeId} {cs:Array Value} (h:Blk w g t cs) (i:Nat):w.cell? ⟨g,i,none⟩=cs[i]? :=cell_of_row w g i cs t (0,0) h
def putAt:Array Value→Nat→List Value→Array Value
 |cs,_,[]=>cs
 |cs,o,v::r=>putAt (cs.setIfInBounds o v) (o+1) r
theorem blk_setCells {g:Nat} {T:TypeId}: ∀(vs:List Value) (o:Nat) (w:World) (cs:Array Value),Blk w g T cs→Blk (w.setCells g o vs) g T (putAt cs o vs)
 |[],_,_,_,h=>h
 |v::r,o,_,cs,h=>blk_setCells r (o+1) _ (cs.setIfInBounds o v) (h.set_ o v)
theorem only_setCells {g:Nat}: ∀(vs:List Value) (o:Nat) (u w:World),u.grownBy w (some g)→u.grownBy (w.setCells g o vs) (some g)
 |[],_,_,_,h=>h
 |v::r,o,u,_,h=>only_setCells r (o+1) u _ (only_set h o v)
theorem size_setCells {g:Nat}: ∀(vs:List Value) (o:Nat) (w:World),(w.setCells g o vs).heap.size=w.heap.size
 |[],_,_=>rfl
 |v::r,o,w=>by rw[World.setCells,size_setCells r];simp[World.setCell]
theorem wpList_store_blk {P:Program} {ops:Array Oper} {rest:List Oper} {op:Oper} {a:Act} {w:World} {Q:Exit→Act→World→Prop} {g o:Nat} {T:TypeId} {cs vs cs':Array Value} (hgd:op.guard=none) (ty:TypeId) (x y:Operand) (ho:op.op= .store ty x y)
 (hx:a.eval x= .pointer (some ⟨g,o,none⟩)) (hy:a.eval y= .agg vs) (hB:Blk w g T cs) (hcs:putAt cs o vs.toList=cs') (hfit:Nat.ble (o+vs.size) cs.size=true)
 (hi:(P.info? ty).map (·.size)=some vs.size) (h1:vs.all (·.oneCell')=true)
 (h: ∀W',Blk W' g T cs'→w.grownBy W' (some g)→W'.heap.size=w.heap.size→wpList P ops Q rest (a.put op.dst undef) W'):wpList P ops Q (op::rest) a w:=
 wpList_store_mid hgd ty x y ho g o vs hx hy (fun j hj=>by
  have hlt:o+j<cs.size:=by have:=Nat.le_of_ble_eq_true hfit;omega
  exact⟨by rw[Blk.cell hB (o+j) (Array.getElem?_eq_getElem hlt)];rfl,Blk.frozen hB (o+j)⟩) hi h1
  (h _ (hcs▸blk_setCells vs.toList o w cs hB) (only_setCells _ _ _ _ (only_refl w _)) (size_setCells _ _ _))
structure Bk (w W:World) (L:List (Nat×TypeId×Array Value)):Prop where
 be:Below w.heap.size w W
 all: ∀x∈L,Blk W x.1 x.2.1 x.2.2
section
variable {w W W':World} {L:List (Nat×TypeId×Array Value)}
theorem bk_nil (w:World):Bk w w []:=⟨Below.refl _ _,fun _ h=>by cases h⟩
theorem Bk.below (h:Bk w W L) (hb:Below W.heap.size W W'):Bk w W' L:=⟨h.be.trans (hb.mono h.be.size),fun x hx=>Blk.below (h.all x hx) hb (Blk.lt (h.all x hx))⟩
theorem Bk.al (h:Bk w W L) (o:Obj):Bk w (W.alloc o) L:=h.below ((Below.refl _ _).alloc (Nat.le_refl _) _)
theorem Bk.px (h:Bk w W L) (p:Ext):Bk w (ext W p) L:=h.below (below_ext W p)
theorem Bk.add (h:Bk w W L) {g:Nat} {T:TypeId} {cs:Array Value} (q:Blk W g T cs):Bk w W ((g,T,cs)::L):=⟨h.be,fun x hx=>by
 rcases List.mem_cons.1 hx with rfl|hx
 ·exact q
 ·exact h.all x hx⟩
theorem Bk.new (h:Bk w W L) (T:TypeId) (cs:Array Value):Bk w (W.alloc (.cells cs T)) ((W.heap.size,T,cs)::L):=(h.al _).add (Blk.new W T cs)
theorem Bk.newAt (h:Bk w W L) (n:Nat) (T:TypeId) (cs:Array Value) (hn:n=W.heap.size):Bk w (W.alloc (.cells cs T)) ((n,T,cs)::L):=by rw[hn];exact h.new T cs
theorem bk1 (w:World) (T:TypeId) (cs:Array Value):Bk w (w.alloc (.cells cs T)) [(w.heap.size,T,cs)]:=(bk_nil w).new T cs
theorem bk2 (w:World) (T T':TypeId) (cs cs':Array Value):Bk w ((w.alloc (.cells cs T)).alloc (.cells cs' T')) [(w.heap.size+1,T',cs'),(w.heap.size,T,cs)]:=(bk1 w T cs).newAt (w.heap.size+1) T' cs' (by simp)
theorem Bk.box (h:Bk w W L) (hb:Below W.heap.size W W') (T:TypeId) (cs:Array Value):Bk w (W'.alloc (.cells cs T)) ((W'.heap.size,T,cs)::L):=(h.below hb).new T cs
theorem Bk.nth (h:Bk w W L) (k:Nat) {x:Nat×TypeId×Array Value} (hk:L[k]? =some x):Blk W x.1 x.2.1 x.2.2:=h.all x (List.mem_of_getElem? hk)
theorem Bk.lt (h:Bk w W L) (k:Nat) {x:Nat×TypeId×Array Value} (hk:L[k]? =some x):x.1<W.heap.size:=Blk.lt (h.nth k hk)
theorem Bk.size (h:Bk w W L):w.heap.size≤W.heap.size:=h.be.size
end
theorem lk_nil {R:Nat→Sp→Prop}: ∀i s,([]:List (Nat×Sp)).lookup i=some s→R i s:=fun _ _ h=>by cases h
theorem lk_cons {R:Nat→Sp→Prop} {k:Nat} {x:Sp} {t:List (Nat×Sp)} (hx:R k x) (ht: ∀i s,t.lookup i=some s→R i s): ∀i s,((k,x)::t).lookup i=some s→R i s:=fun i s h=>by
 rw[List.lookup_cons]at h
 split at h
 ·rename_i e
  have e':i=k:=by simpa using e
  injection h with h
  rw[e',←h];exact hx
 ·exact ht i s h
end Go.Proofs.YtibjkhepedfpiaaGreatDoor.Rg
namespace Go.Proofs.YtibjkhepedfpiaaGreatDoor.RgA
open Go Go.RowKit Mem Q Rg
section
variable {P:Program} {ops:Array Oper} {md:Region.Mode}
end
end Go.Proofs.YtibjkhepedfpiaaGreatDoor.RgA
namespace Go.Proofs.YtibjkhepedfpiaaGreatDoor.RgB
open Go Go.RowKit Mem Q Rg RgA
section
variable {P:Program} {ops:Array Oper} {md:Region.Mode} {C:World→Prop} {sp:List (Nat×Sp)} {σ:Nat→Value} {hd:Nat→Bool}
structure HInv (md:Region.Mode) (ops:Array Oper) (hd:Nat→Bool) (listed:Array Bool):Prop where
 size:listed.size=ops.size
 closed: ∀j oj,ops[j]? =some oj→listed.getD j false=true→ ∀e∈oj.after,Region.binds md e=true→listed.getD e.on false=true
 tail: ∀t,hd t=false→t<ops.size→listed.getD t true=false
theorem HInv.set {i:Nat} {listed:Array Bool} (inv:HInv md ops hd listed) (hi:i∈Region.ready md ops listed) (hin:hd i=true):HInv md ops hd (listed.setIfInBounds i true):=by
 obtain⟨_,oi,hoi,hall⟩:=mem_ready.1 hi;refine⟨by simp[inv.size],fun j oj hj hl e he hb=>?_,fun t ht ht'=>by rw[getD_set_ne true (fun e=>by subst e;rw[hin]at ht;cases ht)];exact inv.tail t ht ht'⟩;by_cases hij:i=j
 ·subst hij
  have:oj=oi:=Option.some.inj (hj.symm.trans hoi);subst this;have h1:=hall e he hb;by_cases hie:i=e.on
  ·rw[←hie]at h1 ⊢
   have hlt:i<listed.size:=by
    rcases Nat.lt_or_ge i listed.size with h'|h'
    ·exact h'
    ·simp[Array.getElem?_eq_none h']at h1
   simp[hlt]
  ·rw[getD_set_ne false hie];exact h1
 ·rw[getD_set_ne false hij]at hl
  have h1:=inv.closed j oj hj hl e he hb;by_cases hie:i=e.on
  ·rw[←hie]at h1 ⊢
   have hlt:i<listed.size:=by
    rcases Nat.lt_or_ge i listed.size with h'|h'
    ·exact h'
    ·simp[Array.getElem?_eq_none h']at h1
   simp[hlt]
  ·rw[getD_set_ne false hie];exact h1
end
def hd2 (n m k:Nat) (i:Nat):Bool:=decide (i<n)||(decide (m≤i)&&decide (i<m+k))
end Go.Proofs.YtibjkhepedfpiaaGreatDoor.RgB
namespace Go.Proofs.YtibjkhepedfpiaaGreatDoor.RgX
open Go Go.RowKit Mem Q Rg RgA RgB
section
variable {P:Program} {ops:Array Oper} {C:World→Prop} {sp:List (Nat×Sp)} {σ:Nat→Value} {hd:Nat→Bool}
theorem Yields.of_same {o:Oper} {v:Value} {a a':Act} (hy:Yields P ops o v a) (he:execOp a'.eval o=execOp a.eval o)
 (hw:Region.wanted o (yielded ops a'.tmps)=Region.wanted o (yielded ops a.tmps)):Yields P ops o v a':=by
 unfold Yields at*;rw[he,hw];exact hy
theorem Yields.one {o:Oper} {v v':Value} {a:Act} (h:Yields P ops o v a) (h':Yields P ops o v' a):v=v':=by
 rcases h with⟨h1,h2⟩|⟨h1,h2⟩<;>rcases h' with⟨g1,g2⟩|⟨g1,g2⟩
 ·have:=(h2 default).symm.trans (g2 default)
  injection this with h3 _
  injection h3
 ·rw[h1]at g1;cases g1
 ·rw[h1]at g1;cases g1
 ·rw[h2,g2]
end
end Go.Proofs.YtibjkhepedfpiaaGreatDoor.RgX
namespace Go.Proofs.YtibjkhepedfpiaaGreatDoor.Ap
open Go Go.RowKit Mem Q Rg
def off (sz i:Nat):Nat:=if sz=1 then i else i*sz
theorem off_eq (sz i:Nat):off sz i=i*sz:=by unfold off;split<;>simp_all
section
variable {α:Type}
def Seq (en:α→List Value) (sz:Nat) (w:World) (a:Option Addr) (L:List α):Prop:= ∀i x,L[i]? =some x→ ∃b o,a=some ⟨b,o,none⟩∧b<w.heap.size∧
 ∀j u,(en x)[j]? =some u→w.cell? ⟨b,o+off sz i+j,none⟩=some u
theorem Seq.below {en:α→List Value} {sz:Nat} {w w':World} {a:Option Addr} {L:List α} {B:Nat} (h:Seq en sz w a L) (hB:w.heap.size≤B) (hb:Below B w w'):Seq en sz w' a L:=fun i x hi=>by
 obtain⟨b,o,e,hlt,hc⟩:=h i x hi;have hl:b<B:=Nat.lt_of_lt_of_le hlt hB;exact⟨b,o,e,Nat.lt_of_lt_of_le hlt hb.size,fun j u hj=>(hb.cell (p:=⟨b,_,none⟩) hl).trans (hc j u hj)⟩
theorem Seq.nil {en:α→List Value} {sz:Nat} {w:World} {a:Option Addr}:Seq en sz w a []:=fun i x hi=>by simp at hi
def flat (en:α→List Value) (L:List α):List Value:=L.flatMap en
theorem flat_snoc {en:α→List Value} {L:List α} {k:Nat} {x:α} (h:L[k]? =some x):flat en (L.take (k+1))=flat en (L.take k)++en x:=by rw[List.take_add_one,h];simp[flat]
theorem flat_app {en:α→List Value} {L M:List α}:flat en (L++M)=flat en L++flat en M:=by simp[flat]
theorem flat_length {en:α→List Value} {sz:Nat} (he: ∀x,(en x).length=sz) (L:List α):(flat en L).length=L.length*sz:=by
 induction L with
 |nil=>simp[flat]
 |cons x t ih=>simp only[flat,List.flatMap_cons,List.length_append,List.length_cons,he]at ih ⊢;rw[ih,Nat.add_mul];omega
theorem flat_get {en:α→List Value} {sz:Nat} (he: ∀x,(en x).length=sz) {L:List α} {i:Nat} {x:α} (hi:L[i]? =some x) {j:Nat} {u:Value} (hj:(en x)[j]? =some u):(flat en L)[i*sz+j]? =some u:=by
 have hjl:j<sz:=by rw[←he x];exact(List.getElem?_eq_some_iff.1 hj).1
 induction L generalizing i with
 |nil=>simp at hi
 |cons y t ih=>
  cases i with
  |zero=>
   simp at hi;subst hi;simp only[flat,List.flatMap_cons,Nat.zero_mul,Nat.zero_add];rw[List.getElem?_append_left (by rw[he];exact hjl)];exact hj
  |succ i=>
   simp at hi;have:=ih hi;simp only[flat,List.flatMap_cons]at this ⊢;rw[List.getElem?_append_right (by rw[he,Nat.add_mul];omega),he,show(i+1)*sz+j-sz=i*sz+j by rw[Nat.add_mul];omega];exact this
theorem own_seq {en:α→List Value} {sz:Nat} (he: ∀x,(en x).length=sz) {w:World} {B:Nat} {e:TypeId} {a:Option Addr} {n c:Nat} {L:List α} (h:w.ownsRow B e sz (.slice a n c) n (flat en L)) (hn:L.length=n):Seq en sz w a L:=fun i x hi=>by
 have hil:i<L.length:=(List.getElem?_eq_some_iff.1 hi).1;rcases h.2 with⟨_,e0⟩|⟨g,cap,cur,e1,_,hg,_⟩
 ·omega
 ·simp only[Value.slice.injEq,true_and]at e1
  obtain⟨rfl,rfl⟩:=e1;refine⟨g,0,rfl,(h.lt g rfl).2,fun j u hj=>?_⟩;have hjl:j<sz:=by rw[←he x];exact(List.getElem?_eq_some_iff.1 hj).1
  have hlt:i*sz+j<n*sz:=by
   have:(i+1)*sz≤n*sz:=Nat.mul_le_mul_right sz (by omega);rw[Nat.add_mul]at this;omega
  rw[off_eq,Nat.zero_add,h.cellAt (i*sz+j) hlt];exact flat_get he hi hj
theorem seq_blk {en:α→List Value} {sz:Nat} (he: ∀x,(en x).length=sz) {w:World} {g:Nat} {t:TypeId} {L:List α} {cs:Array Value} (h:Blk w g t cs) (hc:cs.toList=flat en L):Seq en sz w (some ⟨g,0,none⟩) L:=fun i x hi=>
 ⟨g,0,rfl,Blk.lt h,fun j u hj=>by
  rw[off_eq,Nat.zero_add];refine Blk.cell h _ ?_;rw[←Array.getElem?_toList,hc];exact flat_get he hi hj⟩
end
theorem own_form {w:World} {B n sz:Nat} {e:TypeId} {v:Value} {xs:List Value} (h:w.ownsRow B e sz v n xs): ∃a c,v= .slice a n c:=by
 rcases h.2 with⟨e1,e0⟩|⟨g,cap,cur,e1,_⟩
 ·exact⟨none,0,by rw[e1,e0]⟩
 ·exact⟨_,_,e1⟩
theorem own_below {w w':World} {B n sz:Nat} {e:TypeId} {v:Value} {xs:List Value} (h:w.ownsRow B e sz v n xs) (hb:Below w.heap.size w w'):w'.ownsRow B e sz v n xs:=
 h.kept (only_of_below hb none) (by cases hv:v.ownBlock<;>simp)
structure Elem (P:Program) (t e:TypeId) (sz bytes:Nat):Prop where
 t:P.underlying t=some (.slice e)
 i: ∃i z,P.info? e=some i∧i.zero=some z∧i.size=sz∧i.bytes=bytes∧z.cells.size=sz
 pos:0<sz
theorem elem_of {P:Program} {t e:TypeId} {sz bytes:Nat} {z:Value} (ht:P.underlying t=some (.slice e)) (h:(P.info? e).map (fun i=>(i.zero,i.size,i.bytes))=some (some z,sz,bytes)) (hz:z.cells.size=sz) (hp:0<sz):Elem P t e sz bytes:=by
 refine⟨ht,?_,hp⟩
 cases hi:P.info? e with
 |none=>rw[hi]at h;cases h
 |some i=>
  rw[hi]at h;simp only[Option.map_some,Option.some.injEq,Prod.mk.injEq]at h;exact⟨i,z,rfl,h.1,h.2.1,h.2.2,hz⟩
section
variable {P:Program} {ops:Array Oper} {rest:List Oper} {o:Oper} {a:Act} {w:World} {Q:Exit→Act→World→Prop}
theorem wpList_app {t e:TypeId} {sz bytes base:Nat} (hgd:o.guard=none) (s x:Operand) (ho:o.op= .call {callee:= .builtin .append,args:= #[s,x],argTypes:= #[t,t]}) (hE:Elem P t e sz bytes)
 {v:Value} {n m c:Nat} {xs news:List Value} {ad:Addr} (hs:a.eval s=v) (hown:w.ownsRow base e sz v n xs) (hx:a.eval x= .slice (some ad) m c) (hl:news.length=m*sz) (hnews: ∀j u,news[j]? =some u→w.cell? (ad.add j)=some u) (h1: ∀u∈news,u.oneCell'=true)
 (hn:(n+m)*bytes≤140737488355328) (hn2:n+m≤maxLen) (hbase:base≤w.heap.size)
 (h: ∀v' w',w'.ownsRow base e sz v' (n+m) (xs++news)→Below base w w'→wpList P ops Q rest (a.put o.dst v') w'):wpList P ops Q (o::rest) a w:=by
 obtain⟨i,z,hi,hz,hsz,hby,hzs⟩:=hE.i;obtain⟨v',w',hr,h2,h3,_⟩:=run_append_own_at (P:=P) w base t o.type e i z sz bytes hE.t hi hz hsz hby hzs hE.pos v n xs hown ad m c news hl hnews h1 hn2 hn hbase;refine wpList_plain hgd fun _ hK=>?_;unfold Oper.wp execOp;simp only[ho,resolve,invoke,builtin,Sem.run_bind,Sem.run_pure,Result.andThen_ok,List.map_toArray,List.map_cons,List.map_nil,hs,hx,hr];exact hK _ _ (h v' w' h2 ((Below.refl _ _).grown h3 hbase (fun r er=>(hown.lt r er).1)))
end
theorem blk_news {w:World} {g:Nat} {t:TypeId} {cs:Array Value} (h:Blk w g t cs): ∀j u,cs.toList[j]? =some u→w.cell? ((⟨g,0,none⟩:Addr).add j)=some u:=World.news_of_block h
theorem seq_news {α:Type} {en:α→List Value} {sz:Nat} (he: ∀x,(en x).length=sz) {w:World} {b o:Nat} {L:List α} (h:Seq en sz w (some ⟨b,o,none⟩) L): ∀j u,(flat en L)[j]? =some u→w.cell? ((⟨b,o,none⟩:Addr).add j)=some u:=fun j u hj=>by
 have hadd:(⟨b,o,none⟩:Addr).add j=⟨b,o+j,none⟩:=by unfold Addr.add;split<;>simp_all
 rw[hadd];have hlt:=(List.getElem?_eq_some_iff.1 hj).1;rw[flat_length he]at hlt
 have hsz:0<sz:=by
  rcases Nat.eq_zero_or_pos sz with h0|h0
  ·rw[h0]at hlt;omega
  ·exact h0
 have hi:j/sz<L.length:=(Nat.div_lt_iff_lt_mul hsz).2 hlt;have hx:L[j/sz]? =some L[j/sz]:=List.getElem?_eq_getElem hi;obtain⟨b',o',e,_,hc⟩:=h (j/sz) _ hx
 cases e
 have hmod:j%sz<(en L[j/sz]).length:=by rw[he];exact Nat.mod_lt _ hsz
 have hu:=flat_get he hx (List.getElem?_eq_getElem hmod);have hj2:j/sz*sz+j%sz=j:=by rw[Nat.mul_comm];exact Nat.div_add_mod j sz
 rw[hj2,hj]at hu;injection hu with hu
 have:=hc (j%sz) _ (List.getElem?_eq_getElem hmod);rw[off_eq,Nat.add_assoc,hj2]at this;rw[this,hu]
section
variable {P:Program} {ops:Array Oper} {rest:List Oper} {o:Oper} {a:Act} {w:World} {Q:Exit→Act→World→Prop}
theorem wpList_appS {α:Type} {en:α→List Value} {t e:TypeId} {sz bytes base:Nat} (hgd:o.guard=none) (s x:Operand) (ho:o.op= .call {callee:= .builtin .append,args:= #[s,x],argTypes:= #[t,t]}) (he: ∀x,(en x).length=sz) (h1: ∀x,∀u∈en x,u.oneCell'=true) (hE:Elem P t e sz bytes)
 {v:Value} {A L:List α} {n m c:Nat} {ad:Option Addr} (hs:a.eval s=v) (hA:A.length=n) (hown:w.ownsRow base e sz v n (flat en A)) (hx:a.eval x= .slice ad m c) (hm:L.length=m) (hnil:ad=none→m=0∧c=0) (hL:Seq en sz w ad L) (hform: ∀a',ad=some a'→ ∃b o,a'=⟨b,o,none⟩)
 (hn:(n+m)*bytes≤140737488355328) (hn2:n+m≤maxLen) (hbase:base≤w.heap.size)
 (h: ∀v' w',w'.ownsRow base e sz v' (n+m) (flat en (A++L))→Below base w w'→wpList P ops Q rest (a.put o.dst v') w'):wpList P ops Q (o::rest) a w:=by
 cases ad with
 |none=>
  obtain⟨rfl,rfl⟩:=hnil rfl;obtain rfl:L=[]:=List.eq_nil_of_length_eq_zero hm;obtain⟨i,z,hi,hz,hsz,hby,hzs⟩:=hE.i;have hrun:=run_append_owned_none (P:=P) (w:=w) base t o.type e i sz hE.t hi v n _ hown;refine wpList_plain hgd fun _ hK=>?_;unfold Oper.wp execOp;simp only[ho,resolve,invoke,builtin,Sem.run_bind,Sem.run_pure,Result.andThen_ok,List.map_toArray,List.map_cons,List.map_nil,hs,hx,hrun];exact hK _ _ (h v w (by rw[List.append_nil];exact hown) (Below.refl _ _))
 |some a'=>
  obtain⟨b,o',rfl⟩:=hform a' rfl;subst hA hm;refine wpList_app hgd s x ho hE hs hown hx (flat_length he L) (seq_news he hL) (fun u hu=>?_) hn hn2 hbase (fun v' w' h2 h3=>h v' w' (by rw[flat_app];exact h2) h3);simp only[flat,List.mem_flatMap]at hu;obtain⟨y,_,hu⟩:=hu;exact h1 y u hu
end
end Go.Proofs.YtibjkhepedfpiaaGreatDoor.Ap
namespace Go.Proofs.YtibjkhepedfpiaaGreatDoor.Rg
open Go Go.RowKit Mem Q
theorem spAt_new {P:Program} {W:World} {sp:List (Nat×Sp)} {σ:Nat→Value} {s:Sp} {o:Oper} {a:Act} (v:Nat→Value) (ob:Obj) (hrun: ∀w:World,(execOp a.eval o).run P w= .ok (.value (v w.heap.size)) (w.alloc ob))
 (h1: ∀g,s.is (v g)) (h2: ∀w,Le W w→s.post (v w.heap.size) (w.alloc ob)):spAt P (fun w'=> ∃p:Ext,w'=ext W p) sp σ s o a:=by
 rintro w hw _;rw[hrun];exact⟨le_alloc _ _,h1 _,h2 w hw⟩
def newS (n:Nat) (T:TypeId) (cs:Array Value) (B:Nat):Sp:=⟨fun _=>True,fun v W=> ∃g,v= .slice (some ⟨g,0,none⟩) n n∧B≤g∧Blk W g T cs⟩
def newB (T:TypeId) (cs:Array Value) (B:Nat):Sp:=⟨fun _=>True,fun v W=> ∃g,v= .pointer (some ⟨g,0,none⟩)∧B≤g∧Blk W g T cs⟩
def val (u:Value):Sp:=⟨fun v=>v=u,fun _ _=>True⟩
theorem newS_mono {n:Nat} {T:TypeId} {cs:Array Value} {B:Nat}: ∀v w w',(newS n T cs B).post v w→Le w w'→(newS n T cs B).post v w':=fun _ _ _ ⟨g,h1,h2,h3⟩ hle=>⟨g,h1,h2,Blk.below h3 (le_below hle) (Blk.lt h3)⟩
theorem newB_mono {T:TypeId} {cs:Array Value} {B:Nat}: ∀v w w',(newB T cs B).post v w→Le w w'→(newB T cs B).post v w':=fun _ _ _ ⟨g,h1,h2,h3⟩ hle=>⟨g,h1,h2,Blk.below h3 (le_below hle) (Blk.lt h3)⟩
theorem newS_inh {n:Nat} {T:TypeId} {cs:Array Value} {B:Nat}: ∃v,(newS n T cs B).is v:=⟨undef,trivial⟩
theorem newB_inh {T:TypeId} {cs:Array Value} {B:Nat}: ∃v,(newB T cs B).is v:=⟨undef,trivial⟩
theorem val_inh {u:Value}: ∃v,(val u).is v:=⟨u,rfl⟩
theorem val_mono {u:Value}: ∀v w w',(val u).post v w→Le w w'→(val u).post v w':=fun _ _ _ _ _=>trivial
theorem spAt_newS {P:Program} {W:World} {sp:List (Nat×Sp)} {σ:Nat→Value} {o:Oper} {a:Act} (n:Nat) (T:TypeId) (cs:Array Value) {B:Nat} (hB:B≤W.heap.size) (hrun: ∀w:World,(execOp a.eval o).run P w= .ok (.value (.slice (some ⟨w.heap.size,0,none⟩) n n)) (w.alloc (.cells cs T))):
 spAt P (fun w'=> ∃p:Ext,w'=ext W p) sp σ (newS n T cs B) o a:=
 spAt_new (fun g=> .slice (some ⟨g,0,none⟩) n n) (.cells cs T) hrun (fun _=>trivial) (fun _ hw=>⟨_,rfl,Nat.le_trans hB (le_below hw).size,Blk.new _ _ _⟩)
theorem spAt_newB {P:Program} {W:World} {sp:List (Nat×Sp)} {σ:Nat→Value} {o:Oper} {a:Act} (T:TypeId) (cs:Array Value) {B:Nat} (hB:B≤W.heap.size) (hrun: ∀w:World,(execOp a.eval o).run P w= .ok (.value (.pointer (some ⟨w.heap.size,0,none⟩))) (w.alloc (.cells cs T))):
 spAt P (fun w'=> ∃p:Ext,w'=ext W p) sp σ (newB T cs B) o a:=
 spAt_new (fun g=> .pointer (some ⟨g,0,none⟩)) (.cells cs T) hrun (fun _=>trivial) (fun _ hw=>⟨_,rfl,Nat.le_trans hB (le_below hw).size,Blk.new _ _ _⟩)
theorem spAt_read {P:Program} {W:World} {sp:List (Nat×Sp)} {σ:Nat→Value} {o:Oper} {a:Act} {u:Value} (h: ∀p:Ext,Dep sp σ o (ext W p)→(execOp a.eval o).run P (ext W p)= .ok (.value u) (ext W p)):
 spAt P (fun w'=> ∃p:Ext,w'=ext W p) sp σ (val u) o a:=by
 rintro w ⟨p,rfl⟩ hd;rw[h p hd];exact⟨le_refl _,rfl,trivial⟩
theorem spAt_val {P:Program} {W:World} {sp:List (Nat×Sp)} {σ:Nat→Value} {o:Oper} {a:Act} {u:Value} {f:FuncId} {args:Array Value} (hrun: ∀w:World,(execOp a.eval o).run P w= .ok (.enter f args) w)
 (h: ∀p:Ext,Dep sp σ o (ext W p)→Calls P f args (ext W p) (fun e w''=>e= .returned u∧Below (ext W p).heap.size (ext W p) w'')):spAt P (fun w'=> ∃p:Ext,w'=ext W p) sp σ (val u) o a:=
 spAt_call hrun (fun _ ⟨p,hp⟩ hd=>by subst hp;exact(h p hd).mono fun e w'' ⟨h1,h2⟩=>⟨u,h1,h2,rfl,trivial⟩)
end Go.Proofs.YtibjkhepedfpiaaGreatDoor.Rg
namespace Go.Proofs.YtibjkhepedfpiaaGreatDoor.Scp
open Go
section
variable {P:Program} {a:Act} {w:World} {Q:Exit→Act→World→Prop}
theorem wp_scope_one {c body:Code} (l:Nat) (J:Act→World→Prop) (μ:Act→World→Nat) (hf:findLabel c l=some (Code.skip.seq body))
 (pass: ∀a w,J a w→body.wp P (Exit.jump l (fun a' w'=>J a' w'∧μ a' w'<μ a w) Q) a w)
 (first:(∀a w,J a w→body.wp P (Exit.jump l J Q) a w)→c.wp P (Exit.jump l J Q) a w):(Code.scope c).wp P Q a w:=
 wp_scope_jumps l J μ hf (first fun a w h=>Code.wp_mono (fun e a' w' hq=>by cases e<;>first|exact hq|exact⟨hq.1,hq.2.1⟩) (pass a w h))
  (fun a w h=>wp_seq (wp_skip (pass a w h)))
def jump2 (x y:Nat) (J0 J1:Act→World→Prop) (Q:Exit→Act→World→Prop):Exit→Act→World→Prop
 | .goto l,a,w=>(l=x∧J0 a w)∨(l=y∧J1 a w)
 |e,a,w=>Q e a w
theorem wp_scope_two {c b0 b1:Code} (x y:Nat) (J0 J1:Act→World→Prop) (μ0 μ1:Act→World→Nat) (h0:findLabel c x=some (Code.skip.seq b0)) (h1:findLabel c y=some (Code.skip.seq b1))
 (pass1: ∀a w,J1 a w→b1.wp P (jump2 x y (fun _ _=>False) (fun a' w'=>J1 a' w'∧μ1 a' w'<μ1 a w) Q) a w)
 (pass0: ∀a w,J0 a w→(∀a' w',J1 a' w'→b1.wp P (jump2 x y (fun a' w'=>J0 a' w'∧μ0 a' w'<μ0 a w) J1 Q) a' w')→b0.wp P (jump2 x y (fun a' w'=>J0 a' w'∧μ0 a' w'<μ0 a w) J1 Q) a w)
 (first:(∀a' w',J0 a' w'→b0.wp P (jump2 x y J0 J1 Q) a' w')→(∀a' w',J1 a' w'→b1.wp P (jump2 x y J0 J1 Q) a' w')→c.wp P (jump2 x y J0 J1 Q) a w):(Code.scope c).wp P Q a w:=by
 have p1: ∀(K:Act→World→Prop) a w,J1 a w→b1.wp P (jump2 x y K J1 Q) a w:=fun K a w h=>Code.wp_mono (fun e a' w' hq=>by
  cases e<;>first|exact hq|(rcases hq with⟨_,hq⟩|⟨hl,hq⟩;exact hq.elim;exact Or.inr ⟨hl,hq.1⟩)) (pass1 a w h)
 have p0: ∀a w,J0 a w→b0.wp P (jump2 x y (fun a' w'=>J0 a' w'∧μ0 a' w'<μ0 a w) J1 Q) a w:=fun a w h=>pass0 a w h (p1 _)
 have p0': ∀a w,J0 a w→b0.wp P (jump2 x y J0 J1 Q) a w:=fun a w h=>Code.wp_mono (fun e a' w' hq=>by
  cases e<;>first|exact hq|(rcases hq with⟨hl,hq⟩|⟨hl,hq⟩;exact Or.inl ⟨hl,hq.1⟩;exact Or.inr ⟨hl,hq⟩)) (p0 a w h)
 have hfirst:=first p0' (p1 J0)
 intro b k cs;have hg0:gotoIn x (.inScope c::k)=some (.code (Code.skip.seq b0):: .inScope c::k):=by simp[gotoIn,h0]
 have hg1:gotoIn y (.inScope c::k)=some (.code (Code.skip.seq b1):: .inScope c::k):=by simp[gotoIn,h1]
 have key1: ∀n a w,μ1 a w=n→J1 a w→ ∃e a' w',Q e a' w'∧Arrives P (lone (b.at a (.code (Code.skip.seq b1):: .inScope c::k)) cs w) b k cs e a' w':=by
  intro n
  induction n using Nat.strongRecOn with
  |_ n ih=>
   intro a w hn hJ;obtain⟨e,a₁,w₁,hq,harr⟩:=wp_seq (wp_skip (pass1 a w hJ)) b (.inScope c::k) cs
   cases e with
   |normal=>exact⟨.normal,a₁,w₁,hq,Steps.trans harr (.one step_inScope)⟩
   |exit id=>exact⟨.exit id,a₁,w₁,hq,fun k' hk=>harr k' (by simp[exitTo,hk])⟩
   |goto l'=>
    rcases hq with⟨_,hq⟩|⟨rfl,hJ',hlt⟩
    ·exact hq.elim
    ·obtain⟨e₂,a₂,w₂,hq₂,harr₂⟩:=ih _ (by omega) a₁ w₁ rfl hJ'
     exact⟨e₂,a₂,w₂,hq₂,.of_steps (harr _ hg1) harr₂⟩
   |ret=>exact⟨_,a₁,w₁,hq,harr⟩
   |panic ch=>exact⟨_,a₁,w₁,hq,harr⟩
   |outgrown=>exact⟨_,a₁,w₁,hq,harr⟩
 have key0: ∀n a w,μ0 a w=n→J0 a w→ ∃e a' w',Q e a' w'∧Arrives P (lone (b.at a (.code (Code.skip.seq b0):: .inScope c::k)) cs w) b k cs e a' w':=by
  intro n
  induction n using Nat.strongRecOn with
  |_ n ih=>
   intro a w hn hJ;obtain⟨e,a₁,w₁,hq,harr⟩:=wp_seq (wp_skip (p0 a w hJ)) b (.inScope c::k) cs
   cases e with
   |normal=>exact⟨.normal,a₁,w₁,hq,Steps.trans harr (.one step_inScope)⟩
   |exit id=>exact⟨.exit id,a₁,w₁,hq,fun k' hk=>harr k' (by simp[exitTo,hk])⟩
   |goto l'=>
    rcases hq with⟨rfl,hJ',hlt⟩|⟨rfl,hJ'⟩
    ·obtain⟨e₂,a₂,w₂,hq₂,harr₂⟩:=ih _ (by omega) a₁ w₁ rfl hJ'
     exact⟨e₂,a₂,w₂,hq₂,.of_steps (harr _ hg0) harr₂⟩
    ·obtain⟨e₂,a₂,w₂,hq₂,harr₂⟩:=key1 _ a₁ w₁ rfl hJ'
     exact⟨e₂,a₂,w₂,hq₂,.of_steps (harr _ hg1) harr₂⟩
   |ret=>exact⟨_,a₁,w₁,hq,harr⟩
   |panic ch=>exact⟨_,a₁,w₁,hq,harr⟩
   |outgrown=>exact⟨_,a₁,w₁,hq,harr⟩
 obtain⟨e,a₁,w₁,hq,harr⟩:=hfirst b (.inScope c::k) cs
 cases e with
 |normal=>exact⟨.normal,a₁,w₁,hq,.head step_scope (Steps.trans harr (.one step_inScope))⟩
 |exit id=>exact⟨.exit id,a₁,w₁,hq,fun k' hk=> .head step_scope (harr k' (by simp[exitTo,hk]))⟩
 |goto l'=>
  rcases hq with⟨rfl,hJ'⟩|⟨rfl,hJ'⟩
  ·obtain⟨e₂,a₂,w₂,hq₂,harr₂⟩:=key0 _ a₁ w₁ rfl hJ'
   exact⟨e₂,a₂,w₂,hq₂,.of_steps (.head step_scope (harr _ hg0)) harr₂⟩
  ·obtain⟨e₂,a₂,w₂,hq₂,harr₂⟩:=key1 _ a₁ w₁ rfl hJ'
   exact⟨e₂,a₂,w₂,hq₂,.of_steps (.head step_scope (harr _ hg1)) harr₂⟩
 |ret=>exact⟨_,a₁,w₁,hq,.of_steps (.one step_scope) harr⟩
 |panic ch=>exact⟨_,a₁,w₁,hq,.of_steps (.one step_scope) harr⟩
 |outgrown=>exact⟨_,a₁,w₁,hq,.of_steps (.one step_scope) harr⟩
end
end Go.Proofs.YtibjkhepedfpiaaGreatDoor.Scp
namespace Go.Proofs.YtibjkhepedfpiaaGreatDoor.By
theorem ext_size (s:ByteArray) {a b:Nat} (h:b≤s.size):(s.extract a b).size=b-a:=by
 rw[ByteArray.size_extract];omega
end Go.Proofs.YtibjkhepedfpiaaGreatDoor.By
