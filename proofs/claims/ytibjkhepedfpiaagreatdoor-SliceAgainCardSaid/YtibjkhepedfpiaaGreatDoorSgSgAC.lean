import Derived.Test.YtibjkhepedfpiaaGreatDoorSgSgA
import Derived.Test.YtibjkhepedfpiaaGreatDoorSgLawT
import Derived.Lay
namespace Go.Proofs.YtibjkhepedfpiaaGreatDoor.SgAC
open Go Go.RowKit Q Mem Ap Tab SlB SlC SlOpn SgA TiOpn Opn LawT
open Go.ChangeShapes Go.WideShapes Go.ChangeAt Go.Joins
theorem okWide_array {P:Program} {w:World} {r:Reach} {base n:Nat} {t e:TypeId} {v:Value} (ht:P.underlying t=some (.array n e)) (h:Value.okWide P w r base t v): ∃cs,v= .agg cs∧cs.size=P.cellsOf t:=by
 simp only[Value.okWide,ht]at h;obtain⟨cs,h1,h2,_⟩:=h;exact⟨cs,h1,h2⟩
set_option maxRecDepth 100000
theorem params:Tryz.f3.params= #[22,23]:=by kernel_rfl
theorem contract (H0:Type) (enc:TypeId×Value→H0) (W:World) (base:Nat) (args:Array Value) (ds:List (DataW H0)) (p:List MemPlace)
 (hval: ∀(j:Nat) t v,Tryz.f3.params[j]? =some t→args[j]? =some v→Value.okWide Tryz.prog W .any base t v)
 (hA:DataW.TrodAll enc Tryz.prog W 0 (fun _=>true) true Tryz.f3.params.toList args.toList ds p) (hL:laidMetH Tryz.prog [("clarion/fec.sizes",Rows.laid_clarion_fec_sizes)] W):
 Calls Tryz.prog 3 args W fun e W'=>e= .returned (.bool true)∧Below W.heap.size W W':=by
 rw[params]at hA hval;obtain⟨v0,vs0,d0,ds0,p0,q0,hargs,rfl,rfl,h0,r0⟩:=trodAll_cons hA;obtain⟨v1,vs1,d1,ds1,p1,q1,hargs1,rfl,rfl,h1,r1⟩:=trodAll_cons r0;obtain⟨rfl,rfl,rfl⟩:=trodAll_nil r1;obtain rfl:args= #[v0,v1]:=by cases args;simp_all
 obtain⟨cs,rfl,hsz⟩:=okWide_array Tryz.underlying22 (hval 0 22 v0 rfl rfl);obtain⟨l⟩:=cs;obtain⟨a0,len,cap0,rfl⟩:=okWide_slice Tryz.underlying23 (hval 1 23 v1 rfl rfl);obtain⟨fuel1,hf1⟩:=h1;obtain⟨a,cap,L,e,hl,hs,hq⟩:=rns_of hf1;rw[e]
 match l,hsz.trans (show Tryz.prog.cellsOf 22=2 by kernel_rfl)with
 |[l0,l1],_=>
  obtain⟨fuel,hf⟩:=h0;obtain⟨xs,n,_,hx,_,hlen,hg⟩:=DataW.trod_array Tryz.underlying22 hf;rw[show Tryz.prog.cellsOf _=1 by kernel_rfl]at hg;have g0:=hg 0 (by omega);have g1:=hg 1 (by omega)
  match xs,hlen with
  |[t0,t1],_=>
   obtain⟨n0,i0,_,_⟩:=DataW.trod_int Tryz.underlying3 g0;obtain⟨n1,i1,_,_⟩:=DataW.trod_int Tryz.underlying3 g1;simp[Value.cells]at i0 i1;subst i0 i1;exact law_any n0 n1 a _ cap L W (tab_of hL rfl (List.mem_cons_self ..) (by kernel_rfl) (by kernel_rfl) Tryz.underlying226) rfl hl hs hq
theorem and_ok {a b:Bool} (ha:a=true) (hb:b=true):(a&&b)=true:=by rw[ha,hb];rfl
set_option maxRecDepth 100000 in
set_option maxHeartbeats 400000000 in
theorem joined_ok:joinedFacts Tryz.pinned.checked.prog 3 Tryz.f3 Rows.sliceAgainSpec Rows.sliceAgainRow=true:=by
 unfold joinedFacts
 repeat' (with_reducible refine and_ok ?_ ?_)
 all_goals (as_aux_lemma=>kernel_rfl)
set_option maxRecDepth 100000 in
set_option maxHeartbeats 400000000 in
theorem row_holds:Rows.SliceAgainSaid:=
 OpenClaim.holds_of_wide 3 Tryz.f3 rfl rfl rfl rfl rfl rfl rfl ⟨rfl,rfl,rfl,rfl,rfl⟩ rfl rfl rfl rfl rfl (by as_aux_lemma=>kernel_rfl) Tryz.func3 joined_ok
  (of_decide_eq_true (by as_aux_lemma=>kernel_rfl)) (by unfold Func.isWrapper;first|(rw[if_pos (by decide+kernel)];kernel_rfl)|(rw[if_neg (by decide+kernel)];exact⟨rfl,rfl⟩))
  (fun os started H enc _=>LawT.lifted (f:=3) (fn:=Tryz.f3) (s:=Rows.sliceAgainSpec) (laid:=[("clarion/fec.sizes",Rows.laid_clarion_fec_sizes)]) (by as_aux_lemma=>kernel_rfl) Tryz.func3 rfl (B:=4) (by as_aux_lemma=>kernel_rfl) Tryz.underlying4
   (by rw[params];intro t ht;simp at ht;rcases ht with rfl|rfl<;>exact⟨by as_aux_lemma=>kernel_rfl,of_decide_eq_true (by as_aux_lemma=>kernel_rfl)⟩)
   (by rw[params];intro H xs hx;match xs,hx with|[_,_],_=>rfl)
   (fun H enc W base args ds p hval hA _ hL=>contract H enc W base args ds p hval hA hL) os started H enc
   (ChangeSpec.witness_shaped (enc:=enc) (C:=Tryz.checked) (os:=os) (X:=fun w _=>laidMetH Tryz.prog [("clarion/fec.sizes",Rows.laid_clarion_fec_sizes)] w) false (World.laidAll Tryz.prog os [("clarion/fec.sizes",Rows.laid_clarion_fec_sizes)]) #[.agg #[.int .i64 0,.int .i64 0],.slice none 0 0] 8 (World.laidAll_os _ _ _) (World.shaped_of_ZipB (by as_aux_lemma=>kernel_rfl) (by as_aux_lemma=>kernel_rfl)) (by as_aux_lemma=>kernel_rfl) (by as_aux_lemma=>kernel_rfl) (by as_aux_lemma=>kernel_rfl) (by rw[MakeChecks.laidMetH_plain _ _ _ (by as_aux_lemma=>kernel_rfl)];exact laidMet_laidAll _ (by as_aux_lemma=>kernel_rfl) (by as_aux_lemma=>kernel_rfl))))
set_option maxRecDepth 100000 in
set_option maxHeartbeats 400000000 in
theorem proved:Rows.SliceAgainCardSaid:=
 Claim7.holds_tied_plain_at .later [] [.widerDeep] true Rows.sliceAgainCard.stood.harness false
  row_holds (fun _ h=>by cases h) (by as_aux_lemma=>kernel_rfl) (fun _ h=>by cases h) sliceAgain_row_tie rfl ⟨rfl,rfl⟩ (by as_aux_lemma=>kernel_rfl) rfl
  (fun f fn hf hfn=>by
   obtain rfl:f=3:=Option.some.inj ((show Tryz.prog.funcNamed Rows.sliceAgainCard.stood.row.func=some 3 by kernel_rfl).symm.trans hf) |>.symm;obtain rfl:fn=Tryz.f3:=(Option.some.inj (Tryz.func3.symm.trans hfn)).symm
   exact⟨by as_aux_lemma=>kernel_rfl,fun j t ht=>by
    rw[params]at ht;have hm:=Array.mem_of_getElem? ht;simp only[List.mem_toArray,List.mem_cons,List.not_mem_nil,or_false]at hm;rcases hm with rfl|rfl<;>exact(show Tryz.prog.wantsStandIn _=false by as_aux_lemma=>kernel_rfl)⟩)
  (by as_aux_lemma=>kernel_rfl)
#print axioms proved
end Go.Proofs.YtibjkhepedfpiaaGreatDoor.SgAC
