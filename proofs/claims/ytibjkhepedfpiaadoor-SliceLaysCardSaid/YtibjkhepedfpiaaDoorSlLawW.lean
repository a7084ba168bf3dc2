import Derived.Test.YtibjkhepedfpiaaDoorSlLawT
import Derived.Test.YtibjkhepedfpiaaDoorSlPkE
namespace Go.Proofs.YtibjkhepedfpiaaDoor.LawW
open Go Go.RowKit Q Mem LawT PkE
open Go.ChangeShapes Go.WideShapes Go.ChangeAt Go.Joins
set_option maxRecDepth 100000 in
theorem wid_of {L:List (String×DataW Unit)} {W:World} {n:String} {G:Nat} {T:TypeId} (h:laidMetH Tryd.prog L W) (hp:(L.all fun x=>x.2.handleName?.isNone)=true)
 (hm:(n,.agg [.lit (.int .i64 8),.lit (.int .i64 1),.lit (.int .i64 1),.lit (.int .i64 1),.lit (.int .i64 13),.lit (.int .i64 2),.lit (.int .i64 2),.lit (.int .i64 4)])∈L)
 (hG:Tryd.prog.globalNamed n=some G) (hT:(Tryd.prog.globals[G]?).map (·.type)=some T) (hu:Tryd.prog.underlying T=some (.array 8 3)):Wid G W:=by
 rw[MakeChecks.laidMetH_plain _ _ _ hp]at h;obtain⟨ps,h,_,_⟩:=h;obtain⟨g0,t0,cs0,f0,p0,hg0,ht0,hv0,hd0⟩:=laid_find h hm;obtain rfl:=Option.some.inj (hG.symm.trans hg0);obtain rfl:=Option.some.inj (hT.symm.trans ht0);obtain⟨xs,m,rfl,hx,hlen,hn,hel⟩:=DataW.trod_array hu hd0;have hc:=fun i=>World.var?_cell hg0 hv0 i;have c1:Tryd.prog.cellsOf 3=1:=by kernel_rfl
 simp only[Prod.mk.injEq,DataW.agg.injEq]at hx;have h0:=hel 0 (by decide);have h1:=hel 1 (by decide);have h2:=hel 2 (by decide);have h3:=hel 3 (by decide);have h4:=hel 4 (by decide);have h5:=hel 5 (by decide);have h6:=hel 6 (by decide);have h7:=hel 7 (by decide);rw[c1]at h0 h1 h2 h3 h4 h5 h6 h7
 match xs,hn,hx,h0,h1,h2,h3,h4,h5,h6,h7 with
 |[x0,x1,x2,x3,x4,x5,x6,x7],_,hx,h0,h1,h2,h3,h4,h5,h6,h7=>
  simp only[List.map_cons,List.map_nil,List.cons.injEq]at hx;obtain⟨⟨e0,e1,e2,e3,e4,e5,e6,e7,_⟩,_⟩:=hx
  have key: ∀(i:Nat) (x:DataW Unit×List MemPlace) (k:Int),DataW.trod (fun _=>()) Tryd.prog W 0 (fun _=>true) false m 3 ((cs0.toList.drop (i*1)).take 1)=some x→DataW.lit (.int .i64 k)=x.1→cs0[i]? =some (.int .i64 k):=by
   intro i x k hd he;obtain⟨r,q1,q2,_⟩:=DataW.trod_int Tryd.underlying3 hd;have hr:r=k:=by rw[q2]at he;simpa using he.symm
   subst hr
   have:(cs0.toList.drop (i*1))[0]? =some (.int .i64 r):=by
    have h7:=congrArg (fun l:List Value=>l[0]?) q1;simpa [List.getElem?_take]using h7
   simpa using this
  have hb:G<W.heap.size:=by
   have:=(hc 0).trans (key 0 x0 8 h0 e0);exact World.block_lt_of_cell? W _ this
  refine⟨fun k x hk=>?_,hb⟩
  match k,hk with
  |0,hk=>injection hk with hk;subst hk;exact(hc 0).trans (key 0 x0 8 h0 e0)
  |1,hk=>injection hk with hk;subst hk;exact(hc 1).trans (key 1 x1 1 h1 e1)
  |2,hk=>injection hk with hk;subst hk;exact(hc 2).trans (key 2 x2 1 h2 e2)
  |3,hk=>injection hk with hk;subst hk;exact(hc 3).trans (key 3 x3 1 h3 e3)
  |4,hk=>injection hk with hk;subst hk;exact(hc 4).trans (key 4 x4 13 h4 e4)
  |5,hk=>injection hk with hk;subst hk;exact(hc 5).trans (key 5 x5 2 h5 e5)
  |6,hk=>injection hk with hk;subst hk;exact(hc 6).trans (key 6 x6 2 h6 e6)
  |7,hk=>injection hk with hk;subst hk;exact(hc 7).trans (key 7 x7 4 h7 e7)
  |k+8,hk=>simp[wd]at hk
end Go.Proofs.YtibjkhepedfpiaaDoor.LawW
