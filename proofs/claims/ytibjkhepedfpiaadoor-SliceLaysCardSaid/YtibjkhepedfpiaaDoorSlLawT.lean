import Derived.Test.YtibjkhepedfpiaaDoorSlPkT
import Derived.Test.YtibjkhepedfpiaaDoorSlTab
import Derived.Test.YtibjkhepedfpiaaDoorCards
import Derived.Test.YtibjkhepedfpiaaDoorTie
import Derived.LaidMore
import Derived.Stop.Joined
import Derived.SevenTiedAt
namespace Go.Proofs.YtibjkhepedfpiaaDoor.LawT
open Go.ChangeShapes Go.WideShapes Go.ChangeAt Go.RowKit Law Tab
set_option maxRecDepth 100000 in
theorem lifted {f:FuncId} {fn:Func} {s:ChangeSpec} {laid:List (String×DataW Unit)} (noInit:Tryd.checked.prog.inits.idxOf? f=none) (hfn:Tryd.checked.prog.funcs[f]? =some fn) (hv:s.vars=[]) {B:TypeId} (hres:fn.resultTypes= #[B])
 (hB:Tryd.prog.underlying B=some .bool) (hpar: ∀t∈fn.params.toList,Tryd.prog.readableRec t=true∧t<Tryd.prog.types.size)
 (hs: ∀(H:Type) (xs:List (DataW H)),xs.length=fn.params.toList.length→s.fn H xs={results:=[.lit (.bool true)],args:=xs})
 (walk: ∀(H:Type) (enc:TypeId×Value→H) (W:World) (base:Nat) (args:Array Value) (ds:List (DataW H)) (p:List MemPlace),
  (∀(j:Nat) t v,fn.params[j]? =some t→args[j]? =some v→Value.okWide Tryd.prog W .any base t v)→
  DataW.TrodAll enc Tryd.prog W 0 (fun _=>true) true fn.params.toList args.toList ds p→(∀x∈p,x.block<W.heap.size)→laidMetH Tryd.prog laid W→
  Calls Tryd.prog f args W fun e W'=>e= .returned (.bool true)∧Below W.heap.size W W')
 (os:Os) (started:os.Started) (H:Type) (enc:TypeId×Value→H)
 (witness: ∃(w:World) (tape:Tape) (i:Input),w.os=os∧(w.forCall tape i).Shaped Tryd.checked.prog∧i.vars=[]∧Input.okWide Tryd.checked.prog (w.forCall tape i) .any w.heap.size f i∧
  ((s.pre enc Tryd.checked.prog fn [] false (w.forCall tape i).memory i.args∧laidMetH Tryd.prog laid (w.forCall tape i).memory)∧sizedMet enc Tryd.checked.prog fn (OpenSpec.ofChange s) false (w.forCall tape i).memory i.args)∧Assume.holds {} Tryd.checked.prog (lone (Frame.enter Tryd.checked.prog f i.args .normal) [] (w.forCall tape i))):
 ReturnsInHanded {} Tryd.checked os f .any (fun w args=>(s.pre enc Tryd.prog fn [] false w args∧laidMetH Tryd.prog laid w)∧sizedMet enc Tryd.prog fn (OpenSpec.ofChange s) false w args) (s.post enc Tryd.prog fn false true false false):=by
 refine returnsInHanded_of_change_and (C:=Tryd.checked) (X:=fun w _=>laidMetH Tryd.prog laid w) (fun _ _ _ hh h=>h.of_heap hh) own started noInit hfn witness ?_;intro W base args ds gs before hval hW _ _ hL _;have hlt: ∀x∈before,x.block<W.heap.size:=fun x hx=>hW.lt x hx;have hW0:=hW;obtain⟨p,q,hA,hV,rfl,_,_⟩:=hW0;refine(walk H enc W base args ds p hval hA (fun x hx=>hlt x (List.mem_append_left _ hx)) hL).mono fun e W' ⟨he,hb⟩=>?_;subst he;exact⟨_,rfl,post_true Law.laid hW hv hres hB hpar (hs H) hb⟩
theorem laid_find {P:Program} {w:World} {n:String} {d:DataW Unit}: ∀{L:List (String×DataW Unit)} {ps:List MemPlace},DataW.LaidVars P w L ps→(n,d)∈L→
 ∃g t cs fuel p,P.globalNamed n=some g∧(P.globals[g]?).map (·.type)=some t∧w.var? P n=some cs∧DataW.trod (fun _=>()) P w 0 (fun _=>true) false fuel t cs.toList=some (d,p)
 |(_,_)::_,_,⟨g,t,cs,fuel,p,q,h1,h2,h3,h4,h5,_⟩,hm=>by
  rcases List.mem_cons.1 hm with e|hm
  ·injection e with e1 e2
   subst e1 e2;exact⟨g,t,cs,fuel,p,h1,h2,h3,h4⟩
  ·exact laid_find h5 hm
 |[],_,_,hm=>by cases hm
end Go.Proofs.YtibjkhepedfpiaaDoor.LawT
