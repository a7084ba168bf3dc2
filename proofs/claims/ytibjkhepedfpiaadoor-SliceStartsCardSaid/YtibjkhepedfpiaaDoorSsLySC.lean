import Derived.Test.YtibjkhepedfpiaaDoorSsLyS
import Derived.Test.YtibjkhepedfpiaaDoorSsLawW
import Derived.Lay
namespace Go.Proofs.YtibjkhepedfpiaaDoor.LySC
open Go Go.RowKit Q Mem Ap SlB SlC SlOpn LyS TiOpn Opn LawT LawW
open Go.ChangeShapes Go.WideShapes Go.ChangeAt Go.Joins
set_option maxRecDepth 100000
theorem params:Tryd.f4.params= #[45]:=by kernel_rfl
theorem contract (H0:Type) (enc:TypeId×Value→H0) (W:World) (base:Nat) (args:Array Value) (ds:List (DataW H0)) (p:List MemPlace)
 (hval: ∀(j:Nat) t v,Tryd.f4.params[j]? =some t→args[j]? =some v→Value.okWide Tryd.prog W .any base t v)
 (hA:DataW.TrodAll enc Tryd.prog W 0 (fun _=>true) true Tryd.f4.params.toList args.toList ds p) (hL:laidMetH Tryd.prog [("clarion/packet.widths",Rows.laid_clarion_packet_widths)] W):
 Calls Tryd.prog 4 args W fun e W'=>e= .returned (.bool true)∧Below W.heap.size W W':=by
 rw[params]at hA hval;obtain⟨v0,vs0,d0,ds0,p0,q0,hargs,rfl,rfl,h0,r0⟩:=trodAll_cons hA;obtain⟨rfl,rfl,rfl⟩:=trodAll_nil r0;obtain rfl:args= #[v0]:=by cases args;simp_all
 obtain⟨cs,rfl,hsz⟩:=TiOpn.okWide_struct Tryd.underlying45 (hval 0 45 v0 rfl rfl);obtain⟨l⟩:=cs;obtain⟨fuel,hf⟩:=h0;obtain⟨r,ex,hg⟩:=rn_of (hsz.trans (show Tryd.prog.cellsOf 45=3 by kernel_rfl)) hf;have ex:l=_:=ex;rw[ex];exact law_any r W (wid_of hL rfl (List.mem_cons_self ..) (by kernel_rfl) (by kernel_rfl) Tryd.underlying110) hg
set_option maxRecDepth 100000 in
theorem row_holds:Rows.SliceStartsSaid:=
 OpenClaim.holds_of_wide 4 Tryd.f4 rfl rfl rfl rfl rfl rfl rfl ⟨rfl,rfl,rfl,rfl,rfl⟩ rfl rfl rfl rfl rfl (by kernel_rfl) Tryd.func4 (by kernel_rfl)
  (of_decide_eq_true (by kernel_rfl)) (by unfold Func.isWrapper;first|(rw[if_pos (by decide+kernel)];kernel_rfl)|(rw[if_neg (by decide+kernel)];exact⟨rfl,rfl⟩))
  (fun os started H enc _=>LawT.lifted (f:=4) (fn:=Tryd.f4) (s:=Rows.sliceStartsSpec) (laid:=[("clarion/packet.widths",Rows.laid_clarion_packet_widths)]) (by kernel_rfl) Tryd.func4 rfl (B:=4) (by kernel_rfl) Tryd.underlying4
   (by rw[params];intro t ht;simp at ht;rcases ht with rfl<;>exact⟨by kernel_rfl,of_decide_eq_true (by kernel_rfl)⟩)
   (by rw[params];intro H xs hx;match xs,hx with|[_],_=>rfl)
   (fun H enc W base args ds p hval hA _ hL=>contract H enc W base args ds p hval hA hL) os started H enc
   (ChangeSpec.witness_shaped (enc:=enc) (C:=Tryd.checked) (os:=os) (X:=fun w _=>laidMetH Tryd.prog [("clarion/packet.widths",Rows.laid_clarion_packet_widths)] w) false (World.laidAll Tryd.prog os [("clarion/packet.widths",Rows.laid_clarion_packet_widths)]) #[.agg #[.int .i64 0,.int .i64 0,.slice none 0 0]] 8 (World.laidAll_os _ _ _) (World.shaped_of_ZipB (by kernel_rfl) (by kernel_rfl)) (by kernel_rfl) (by kernel_rfl) (by kernel_rfl) (by rw[MakeChecks.laidMetH_plain _ _ _ (by kernel_rfl)];exact laidMet_laidAll _ (by kernel_rfl) (by kernel_rfl))))
set_option maxRecDepth 100000 in
theorem proved:Rows.SliceStartsCardSaid:=
 Claim7.holds_tied_plain_at .later [] [.data] true Rows.sliceStartsCard.stood.harness false
  row_holds (fun _ h=>by cases h) (by kernel_rfl) (fun _ h=>by cases h) sliceStarts_row_tie rfl ⟨rfl,rfl⟩ (by kernel_rfl) rfl
  (fun f fn hf hfn=>by
   obtain rfl:f=4:=Option.some.inj ((show Tryd.prog.funcNamed Rows.sliceStartsCard.stood.row.func=some 4 by kernel_rfl).symm.trans hf) |>.symm;obtain rfl:fn=Tryd.f4:=(Option.some.inj (Tryd.func4.symm.trans hfn)).symm
   exact⟨by kernel_rfl,fun j t ht=>by
    rw[params]at ht;have hm:=Array.mem_of_getElem? ht;simp only[List.mem_toArray,List.mem_cons,List.not_mem_nil,or_false]at hm;rcases hm with rfl<;>exact(show Tryd.prog.wantsStandIn _=false by kernel_rfl)⟩)
  (by kernel_rfl)
#print axioms proved
end Go.Proofs.YtibjkhepedfpiaaDoor.LySC
