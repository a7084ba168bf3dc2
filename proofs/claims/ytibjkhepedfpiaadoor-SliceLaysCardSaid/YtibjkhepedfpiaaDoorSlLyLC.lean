import Derived.Test.YtibjkhepedfpiaaDoorSlLyL
import Derived.Test.YtibjkhepedfpiaaDoorSlLawW
import Derived.Lay
namespace Go.Proofs.YtibjkhepedfpiaaDoor.LyLC
open Go Go.RowKit Q Mem Ap SlB SlC SlOpn LyL TiOpn Opn LawT LawW
open Go.ChangeShapes Go.WideShapes Go.ChangeAt Go.Joins
set_option maxRecDepth 100000
theorem params:Tryd.f3.params= #[22]:=by kernel_rfl
theorem contract (H0:Type) (enc:TypeId×Value→H0) (W:World) (base:Nat) (args:Array Value) (ds:List (DataW H0)) (p:List MemPlace)
 (hval: ∀(j:Nat) t v,Tryd.f3.params[j]? =some t→args[j]? =some v→Value.okWide Tryd.prog W .any base t v)
 (hA:DataW.TrodAll enc Tryd.prog W 0 (fun _=>true) true Tryd.f3.params.toList args.toList ds p) (hL:laidMetH Tryd.prog [("clarion/packet.widths",Rows.laid_clarion_packet_widths)] W):
 Calls Tryd.prog 3 args W fun e W'=>e= .returned (.bool true)∧Below W.heap.size W W':=by
 rw[params]at hA hval;obtain⟨v0,vs0,d0,ds0,p0,q0,hargs,rfl,rfl,h0,r0⟩:=trodAll_cons hA;obtain⟨rfl,rfl,rfl⟩:=trodAll_nil r0;obtain rfl:args= #[v0]:=by cases args;simp_all
 obtain⟨a0,len,cap0,rfl⟩:=okWide_slice Tryd.underlying22 (hval 0 22 v0 rfl rfl);obtain⟨fuel,hf⟩:=h0;obtain⟨a,cap,L,e,hl,hs,hq⟩:=rns_of hf;rw[e];exact law_any a _ cap L W (wid_of hL rfl (List.mem_cons_self ..) (by kernel_rfl) (by kernel_rfl) Tryd.underlying110) rfl hl hs hq
set_option maxRecDepth 100000 in
theorem row_holds:Rows.SliceLaysSaid:=
 OpenClaim.holds_of_wide 3 Tryd.f3 rfl rfl rfl rfl rfl rfl rfl ⟨rfl,rfl,rfl,rfl,rfl⟩ rfl rfl rfl rfl rfl (by kernel_rfl) Tryd.func3 (by kernel_rfl)
  (of_decide_eq_true (by kernel_rfl)) (by unfold Func.isWrapper;first|(rw[if_pos (by decide+kernel)];kernel_rfl)|(rw[if_neg (by decide+kernel)];exact⟨rfl,rfl⟩))
  (fun os started H enc _=>LawT.lifted (f:=3) (fn:=Tryd.f3) (s:=Rows.sliceLaysSpec) (laid:=[("clarion/packet.widths",Rows.laid_clarion_packet_widths)]) (by kernel_rfl) Tryd.func3 rfl (B:=4) (by kernel_rfl) Tryd.underlying4
   (by rw[params];intro t ht;simp at ht;rcases ht with rfl<;>exact⟨by kernel_rfl,of_decide_eq_true (by kernel_rfl)⟩)
   (by rw[params];intro H xs hx;match xs,hx with|[_],_=>rfl)
   (fun H enc W base args ds p hval hA _ hL=>contract H enc W base args ds p hval hA hL) os started H enc
   (ChangeSpec.witness_shaped (enc:=enc) (C:=Tryd.checked) (os:=os) (X:=fun w _=>laidMetH Tryd.prog [("clarion/packet.widths",Rows.laid_clarion_packet_widths)] w) false (World.laidAll Tryd.prog os [("clarion/packet.widths",Rows.laid_clarion_packet_widths)]) #[.slice none 0 0] 8 (World.laidAll_os _ _ _) (World.shaped_of_ZipB (by kernel_rfl) (by kernel_rfl)) (by kernel_rfl) (by kernel_rfl) (by kernel_rfl) (by rw[MakeChecks.laidMetH_plain _ _ _ (by kernel_rfl)];exact laidMet_laidAll _ (by kernel_rfl) (by kernel_rfl))))
set_option maxRecDepth 100000 in
theorem proved:Rows.SliceLaysCardSaid:=
 Claim7.holds_tied_plain_at .later [] [.data] true Rows.sliceLaysCard.stood.harness false
  row_holds (fun _ h=>by cases h) (by kernel_rfl) (fun _ h=>by cases h) sliceLays_row_tie rfl ⟨rfl,rfl⟩ (by kernel_rfl) rfl
  (fun f fn hf hfn=>by
   obtain rfl:f=3:=Option.some.inj ((show Tryd.prog.funcNamed Rows.sliceLaysCard.stood.row.func=some 3 by kernel_rfl).symm.trans hf) |>.symm;obtain rfl:fn=Tryd.f3:=(Option.some.inj (Tryd.func3.symm.trans hfn)).symm
   exact⟨by kernel_rfl,fun j t ht=>by
    rw[params]at ht;have hm:=Array.mem_of_getElem? ht;simp only[List.mem_toArray,List.mem_cons,List.not_mem_nil,or_false]at hm;rcases hm with rfl<;>exact(show Tryd.prog.wantsStandIn _=false by kernel_rfl)⟩)
  (by kernel_rfl)
#print axioms proved
end Go.Proofs.YtibjkhepedfpiaaDoor.LyLC
