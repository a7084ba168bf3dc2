import Derived.Test.YtibjkhepedfpiaaDoorSlPkS
import Derived.ProofKit
import Derived.OpenShut
import Derived.Handed
import Derived.Deep.Slices
import Derived.Deep.Fields
import Derived.ChangeSame
import Derived.Lib.SmallJoins
import Derived.ChangeSlices
namespace Go.Proofs.YtibjkhepedfpiaaDoor.TmA
open Go Go.RowKit Q Mem Rg Ap St BiP BiA BiW BiF BiG BiH SeA SeG SeI SeJ
structure Ti where
 delta:Int
 table:Bool
 frame:Bool
 at_:Int
def Ti.vals (t:Ti):Array Value:= #[.int .i64 t.delta,.bool t.table,.bool t.frame,.int .i64 t.at_]
def Ti.ok (t:Ti):Prop:=(0≤t.delta∧t.delta≤4095)∧(0≤t.at_∧t.at_≤262143)
instance (t:Ti):Decidable t.ok:=by unfold Ti.ok;infer_instance
def Ti.chk (t:Ti):Int:=if t.ok then 0 else 15
def tmL (t:Ti):List UInt8:=[UInt8.ofNat (t.delta.toNat/16),UInt8.ofNat (t.delta.toNat%16*16+nb t.table*8+nb t.frame*4+t.at_.toNat/65536),UInt8.ofNat (t.at_.toNat/256%256),UInt8.ofNat (t.at_.toNat%256)]
def encT (t:Ti):ByteArray:=if t.chk=0 then str (tmL t)else nob
theorem tm_len (t:Ti):(tmL t).length=4:=rfl
theorem ti_iff {a b:Ti}:a=b↔a.delta=b.delta∧a.table=b.table∧a.frame=b.frame∧a.at_=b.at_:=⟨fun h=>by subst h;simp,fun⟨h1,h2,h3,h4⟩=>by cases a;cases b;simp_all⟩
instance:DecidableEq Ti:=fun _ _=>decidable_of_iff _ ti_iff.symm
theorem tchk_ok {t:Ti} (h:t.ok):t.chk=0:=by unfold Ti.chk;rw[if_pos h]
set_option maxRecDepth 100000
end Go.Proofs.YtibjkhepedfpiaaDoor.TmA
namespace Go.Proofs.YtibjkhepedfpiaaDoor.TmB
open Go Go.RowKit Q Mem Rg Ap St BiP BiA BiG BiH SeA SeG SeI SeJ SeP TmA
set_option maxRecDepth 100000
end Go.Proofs.YtibjkhepedfpiaaDoor.TmB
namespace Go.Proofs.YtibjkhepedfpiaaDoor.Law
open Go.ChangeShapes Go.WideShapes Go.ChangeAt Go.RowKit
theorem own:ownKnob Tryd.prog.godebug=none:=by kernel_rfl
theorem laid:laidOutB Tryd.prog=true:=by kernel_rfl
section
variable {H:Type} {enc:TypeId×Value→H} {P:Program}
theorem trodAll_length {w:World} {base:Nat} {sp:Nat→Bool} {held:Bool}: ∀{ts:List TypeId} {vs:List Value} {ds:List (DataW H)} {ps:List MemPlace},
 DataW.TrodAll enc P w base sp held ts vs ds ps→ds.length=ts.length∧vs.length=ts.length
 |[],[],[],_,_=>⟨rfl,rfl⟩
 |_::_,_::_,_::_,_,⟨_,_,_,h2,_⟩=>by
  have:=trodAll_length h2;simp only[List.length_cons];omega
 |[],[],_::_,_,h=>h.elim
 |[],_::_,_,_,h=>h.elim
 |_::_,[],_,_,h=>h.elim
 |_::_,_::_,[],_,h=>h.elim
theorem trodAll_stay (hl:laidOutB P=true) {W W':World} (hb:Below W.heap.size W W'): ∀{ts:List TypeId} {vs:List Value} {ds:List (DataW H)} {ps:List MemPlace},
 (∀t∈ts,P.readableRec t=true∧t<P.types.size)→DataW.TrodAll enc P W 0 (fun _=>true) true ts vs ds ps→(∀p∈ps,p.block<W.heap.size)→
  DataW.TrodAll enc P W' 0 (fun b=>decide (b<W.heap.size)) true ts vs ds ps
 |[],[],[],_,_,h,_=>h
 |t::_,_::_,_::_,_,hr,⟨p,q,h1,h2,e⟩,hlt=>
  ⟨p,q,Below.trod hl (hr t (List.mem_cons.2 (Or.inl rfl))).1 (hr t (List.mem_cons.2 (Or.inl rfl))).2 h1 hb (fun x hx=>hlt x (by rw[e];exact List.mem_append_left _ hx)),
   trodAll_stay hl hb (fun t ht=>hr t (List.mem_cons.2 (Or.inr ht))) h2 (fun x hx=>hlt x (by rw[e];exact List.mem_append_right _ hx)),e⟩
 |[],[],_::_,_,_,h,_=>h.elim
 |[],_::_,_,_,_,h,_=>h.elim
 |_::_,[],_,_,_,h,_=>h.elim
 |_::_,_::_,[],_,_,h,_=>h.elim
theorem post_true (hl:laidOutB P=true) {f:Func} {s:ChangeSpec} {W W':World} {args:Array Value} {ds gs:List (DataW H)} {before:List MemPlace}
 (hW:DataW.Whole enc P f.params.toList s.vars false W args.toList ds gs before) (hv:s.vars=[]) {B:TypeId} (hres:f.resultTypes= #[B]) (hB:P.underlying B=some .bool)
 (hpar: ∀t∈f.params.toList,P.readableRec t=true∧t<P.types.size)
 (hs: ∀xs:List (DataW H),xs.length=f.params.toList.length→s.fn H xs={results:=[.lit (.bool true)],args:=xs}) (hb:Below W.heap.size W W'):
 s.post enc P f false true false false W args (.bool true) W':=by
 have hlt: ∀p∈before,p.block<W.heap.size:=fun p hp=>hW.lt p hp;have hW0:=hW;obtain⟨p,q,hA,hV,rfl,_,_⟩:=hW0;rw[hv]at hV;obtain⟨rfl,rfl⟩:=trodVars_none hV;have hlen:=(trodAll_length hA).1;have e1:s.fn H (ds++[])={results:=[.lit (.bool true)],args:=ds}:=by rw[List.append_nil];exact hs ds hlen
 refine⟨ds,[],p++[],[],p,[],hW,?_,?_,?_,hb.frame _,fun h=>by cases h⟩
 ·rw[e1,hres]
  exact trodAll_mk1 (shut_bool hB _)
 ·rw[e1]
  exact trodAll_stay hl hb hpar hA (fun x hx=>hlt x (List.mem_append_left _ hx))
 ·rw[e1,hv]
  rfl
end
set_option maxRecDepth 100000 in
theorem lifted {f:FuncId} {fn:Func} {s:ChangeSpec} {conds:List PathCond} (hc:conds=[]) (noInit:Tryd.checked.prog.inits.idxOf? f=none) (hfn:Tryd.checked.prog.funcs[f]? =some fn) (hv:s.vars=[]) {B:TypeId} (hres:fn.resultTypes= #[B])
 (hB:Tryd.prog.underlying B=some .bool) (hpar: ∀t∈fn.params.toList,Tryd.prog.readableRec t=true∧t<Tryd.prog.types.size)
 (hs: ∀(H:Type) (xs:List (DataW H)),xs.length=fn.params.toList.length→s.fn H xs={results:=[.lit (.bool true)],args:=xs})
 (walk: ∀(H:Type) (enc:TypeId×Value→H) (W:World) (base:Nat) (args:Array Value) (ds:List (DataW H)) (p:List MemPlace),
  (∀(j:Nat) t v,fn.params[j]? =some t→args[j]? =some v→Value.okWide Tryd.prog W .any base t v)→
  DataW.TrodAll enc Tryd.prog W 0 (fun _=>true) true fn.params.toList args.toList ds p→(∀x∈p,x.block<W.heap.size)→
  Calls Tryd.prog f args W fun e W'=>e= .returned (.bool true)∧Below W.heap.size W W')
 (os:Os) (started:os.Started) (H:Type) (enc:TypeId×Value→H)
 (witness: ∃(w:World) (tape:Tape) (i:Input),w.os=os∧(w.forCall tape i).Shaped Tryd.checked.prog∧i.vars=[]∧Input.okWide Tryd.checked.prog (w.forCall tape i) .any w.heap.size f i∧
  s.pre6 enc Tryd.checked.prog fn conds false (w.forCall tape i).memory i.args∧Assume.holds {} Tryd.checked.prog (lone (Frame.enter Tryd.checked.prog f i.args .normal) [] (w.forCall tape i))):
 ReturnsInHanded {} Tryd.checked os f .any (s.pre6 enc Tryd.prog fn conds false) (s.post enc Tryd.prog fn false true false false):=by
 subst hc;refine returnsInHanded_of_change (C:=Tryd.checked) own started noInit hfn witness ?_;intro W base args ds gs before hval hW _ _;have hlt: ∀x∈before,x.block<W.heap.size:=fun x hx=>hW.lt x hx;have hW0:=hW;obtain⟨p,q,hA,hV,rfl,_,_⟩:=hW0;refine(walk H enc W base args ds p hval hA (fun x hx=>hlt x (List.mem_append_left _ hx))).mono fun e W' ⟨he,hb⟩=>?_;subst he;exact⟨_,rfl,post_true laid hW hv hres hB hpar (hs H) hb⟩
end Go.Proofs.YtibjkhepedfpiaaDoor.Law
namespace Go.Proofs.YtibjkhepedfpiaaDoor.Opn
open Go.ChangeShapes Go.WideShapes Go.RowKit Go.Deep
section
variable {H:Type} {enc:TypeId×Value→H} {P:Program} {w:World} {base:Nat} {spare:Nat→Bool} {held:Bool}
theorem add_at (b o n:Nat):(⟨b,o,none⟩:Addr).add n=⟨b,o+n,none⟩:=by
 unfold Addr.add
 split<;>simp_all
end
end Go.Proofs.YtibjkhepedfpiaaDoor.Opn
namespace Go.Proofs.YtibjkhepedfpiaaDoor.TiOpn
open Go.RowKit Q Mem TmA Opn
open Go.ChangeShapes Go.WideShapes Go.ChangeAt Go.Joins
set_option maxRecDepth 100000
section
variable {H0:Type} {enc:TypeId×Value→H0} {w:World} {base:Nat} {spare:Nat→Bool} {held:Bool}
end
end Go.Proofs.YtibjkhepedfpiaaDoor.TiOpn
