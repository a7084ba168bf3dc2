import Derived.Test.YtibjkhepedfpiaaGreatDoorSgPkT
import Derived.Test.YtibjkhepedfpiaaGreatDoorSgTab
import Derived.Test.YtibjkhepedfpiaaGreatDoorCards
import Derived.Test.YtibjkhepedfpiaaGreatDoorTie
import Derived.LaidMore
import Derived.Stop.Joined
import Derived.SevenTiedAt
namespace Go.Proofs.YtibjkhepedfpiaaGreatDoor.LawT
open Go.ChangeShapes Go.WideShapes Go.ChangeAt Go.RowKit Law Tab
set_option maxRecDepth 100000 in
theorem lifted {f:FuncId} {fn:Func} {s:ChangeSpec} {laid:List (String×DataW Unit)} (noInit:Tryz.checked.prog.inits.idxOf? f=none) (hfn:Tryz.checked.prog.funcs[f]? =some fn) (hv:s.vars=[]) {B:TypeId} (hres:fn.resultTypes= #[B])
 (hB:Tryz.prog.underlying B=some .bool) (hpar: ∀t∈fn.params.toList,Tryz.prog.readableRec t=true∧t<Tryz.prog.types.size)
 (hs: ∀(H:Type) (xs:List (DataW H)),xs.length=fn.params.toList.length→s.fn H xs={results:=[.lit (.bool true)],args:=xs})
 (walk: ∀(H:Type) (enc:TypeId×Value→H) (W:World) (base:Nat) (args:Array Value) (ds:List (DataW H)) (p:List MemPlace),
  (∀(j:Nat) t v,fn.params[j]? =some t→args[j]? =some v→Value.okWide Tryz.prog W .any base t v)→
  DataW.TrodAll enc Tryz.prog W 0 (fun _=>true) true fn.params.toList args.toList ds p→(∀x∈p,x.block<W.heap.size)→laidMetH Tryz.prog laid W→
  Calls Tryz.prog f args W fun e W'=>e= .returned (.bool true)∧Below W.heap.size W W')
 (os:Os) (started:os.Started) (H:Type) (enc:TypeId×Value→H)
 (witness: ∃(w:World) (tape:Tape) (i:Input),w.os=os∧(w.forCall tape i).Shaped Tryz.checked.prog∧i.vars=[]∧Input.okWide Tryz.checked.prog (w.forCall tape i) .any w.heap.size f i∧
  ((s.pre enc Tryz.checked.prog fn [] false (w.forCall tape i).memory i.args∧laidMetH Tryz.prog laid (w.forCall tape i).memory)∧sizedMet enc Tryz.checked.prog fn (OpenSpec.ofChange s) false (w.forCall tape i).memory i.args)∧Assume.holds {} Tryz.checked.prog (lone (Frame.enter Tryz.checked.prog f i.args .normal) [] (w.forCall tape i))):
 ReturnsInHanded {} Tryz.checked os f .any (fun w args=>(s.pre enc Tryz.prog fn [] false w args∧laidMetH Tryz.prog laid w)∧sizedMet enc Tryz.prog fn (OpenSpec.ofChange s) false w args) (s.post enc Tryz.prog fn false true false false):=by
 refine returnsInHanded_of_change_and (C:=Tryz.checked) (X:=fun w _=>laidMetH Tryz.prog laid w) (fun _ _ _ hh h=>h.of_heap hh) own started noInit hfn witness ?_;intro W base args ds gs before hval hW _ _ hL _;have hlt: ∀x∈before,x.block<W.heap.size:=fun x hx=>hW.lt x hx;have hW0:=hW;obtain⟨p,q,hA,hV,rfl,_,_⟩:=hW0;refine(walk H enc W base args ds p hval hA (fun x hx=>hlt x (List.mem_append_left _ hx)) hL).mono fun e W' ⟨he,hb⟩=>?_;subst he;exact⟨_,rfl,post_true Law.laid hW hv hres hB hpar (hs H) hb⟩
theorem laid_find {P:Program} {w:World} {n:String} {d:DataW Unit}: ∀{L:List (String×DataW Unit)} {ps:List MemPlace},DataW.LaidVars P w L ps→(n,d)∈L→
 ∃g t cs fuel p,P.globalNamed n=some g∧(P.globals[g]?).map (·.type)=some t∧w.var? P n=some cs∧DataW.trod (fun _=>()) P w 0 (fun _=>true) false fuel t cs.toList=some (d,p)
 |(_,_)::_,_,⟨g,t,cs,fuel,p,q,h1,h2,h3,h4,h5,_⟩,hm=>by
  rcases List.mem_cons.1 hm with e|hm
  ·injection e with e1 e2
   subst e1 e2;exact⟨g,t,cs,fuel,p,h1,h2,h3,h4⟩
  ·exact laid_find h5 hm
 |[],_,_,hm=>by cases hm
theorem tab_of {L:List (String×DataW Unit)} {W:World} {n:String} {G:Nat} {T:TypeId} (h:laidMetH Tryz.prog L W) (hp:(L.all fun x=>x.2.handleName?.isNone)=true)
 (hm:(n,.agg [.lit (.int .i64 256),.lit (.int .i64 512),.lit (.int .i64 768),.lit (.int .i64 1024)])∈L)
 (hG:Tryz.prog.globalNamed n=some G) (hT:(Tryz.prog.globals[G]?).map (·.type)=some T) (hu:Tryz.prog.underlying T=some (.array 4 3)):Tab G W:=by
 rw[MakeChecks.laidMetH_plain _ _ _ hp]at h;obtain⟨ps,h,_,_⟩:=h;obtain⟨g0,t0,cs0,f0,p0,hg0,ht0,hv0,hd0⟩:=laid_find h hm;obtain rfl:=Option.some.inj (hG.symm.trans hg0);obtain rfl:=Option.some.inj (hT.symm.trans ht0);obtain⟨xs,m,rfl,hx,hlen,hn,hel⟩:=DataW.trod_array hu hd0;have hc:=fun i=>World.var?_cell hg0 hv0 i;have c1:Tryz.prog.cellsOf 3=1:=by kernel_rfl
 simp only[Prod.mk.injEq,DataW.agg.injEq]at hx;have h0:=hel 0 (by decide);have h1:=hel 1 (by decide);have h2:=hel 2 (by decide);have h3:=hel 3 (by decide);rw[c1]at h0 h1 h2 h3
 match xs,hn,hx,h0,h1,h2,h3 with
 |[x0,x1,x2,x3],_,hx,h0,h1,h2,h3=>
  simp only[List.map_cons,List.map_nil,List.cons.injEq]at hx;obtain⟨⟨e0,e1,e2,e3,_⟩,_⟩:=hx
  have key: ∀(i:Nat) (x:DataW Unit×List MemPlace) (k:Int),DataW.trod (fun _=>()) Tryz.prog W 0 (fun _=>true) false m 3 ((cs0.toList.drop (i*1)).take 1)=some x→DataW.lit (.int .i64 k)=x.1→cs0[i]? =some (.int .i64 k):=by
   intro i x k hd he;obtain⟨r,q1,q2,_⟩:=DataW.trod_int Tryz.underlying3 hd;have hr:r=k:=by rw[q2]at he;simpa using he.symm
   subst hr
   have:(cs0.toList.drop (i*1))[0]? =some (.int .i64 r):=by
    have h7:=congrArg (fun l:List Value=>l[0]?) q1;simpa [List.getElem?_take]using h7
   simpa using this
  have hb:G<W.heap.size:=by
   have:=(hc 0).trans (key 0 x0 256 h0 e0);exact World.block_lt_of_cell? W _ this
  exact⟨(hc 0).trans (key 0 x0 256 h0 e0),(hc 1).trans (key 1 x1 512 h1 e1),(hc 2).trans (key 2 x2 768 h2 e2),(hc 3).trans (key 3 x3 1024 h3 e3),hb⟩
end Go.Proofs.YtibjkhepedfpiaaGreatDoor.LawT
