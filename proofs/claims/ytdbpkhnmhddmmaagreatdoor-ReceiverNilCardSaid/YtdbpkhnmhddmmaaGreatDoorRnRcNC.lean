import Derived.Test.YtdbpkhnmhddmmaaGreatDoorRnPkT
import Derived.Test.YtdbpkhnmhddmmaaGreatDoorRnLawW
import Derived.Test.YtdbpkhnmhddmmaaGreatDoorRnRcN
import Derived.Lay
namespace Go.Proofs.YtdbpkhnmhddmmaaGreatDoor.RcNC
open Go Go.RowKit Q Mem Ap Tab RcN TiOpn Opn LawT LawW
open Go.ChangeShapes Go.WideShapes Go.ChangeAt Go.Joins
set_option maxRecDepth 100000
theorem params:Tryz.f5.params= #[9]:=by kernel_rfl
theorem contract (H0:Type) (enc:TypeId×Value→H0) (W:World) (base:Nat) (args:Array Value) (ds:List (DataW H0)) (p:List MemPlace)
 (hval: ∀(j:Nat) t v,Tryz.f5.params[j]? =some t→args[j]? =some v→Value.okWide Tryz.prog W .any base t v)
 (hA:DataW.TrodAll enc Tryz.prog W 0 (fun _=>true) true Tryz.f5.params.toList args.toList ds p) (hL:laidMetH Tryz.prog [("unicode/utf8.acceptRanges",Rows.laid_unicode_utf8_acceptRanges),("clarion/packet.widths",Rows.laid_clarion_packet_widths),("clarion/frame.sizes",Rows.laid_clarion_frame_sizes),("clarion/fec.sizes",Rows.laid_clarion_fec_sizes),("clarion/table.sizes",Rows.laid_clarion_table_sizes),("unicode/utf8.first",Rows.laid_unicode_utf8_first)] W):
 Calls Tryz.prog 5 args W fun e W'=>e= .returned (.bool true)∧Below W.heap.size W W':=by
 rw[params]at hA hval;obtain⟨v0,vs0,d0,ds0,p0,q0,hargs,rfl,rfl,h0,r0⟩:=trodAll_cons hA;obtain⟨rfl,rfl,rfl⟩:=trodAll_nil r0;obtain rfl:args= #[v0]:=by cases args;simp_all
 obtain⟨t,rfl⟩:=str_arg (hval 0 9 v0 rfl rfl)
 exact law_any t W (tab_of hL rfl (List.mem_cons_of_mem _ (List.mem_cons_of_mem _ (List.mem_cons_of_mem _ (List.mem_cons_self ..)))) (by kernel_rfl) (by kernel_rfl) Tryz.underlying156)
  (tab_of hL rfl (List.mem_cons_of_mem _ (List.mem_cons_of_mem _ (List.mem_cons_self ..))) (by kernel_rfl) (by kernel_rfl) Tryz.underlying156)
  (tab_of hL rfl (List.mem_cons_of_mem _ (List.mem_cons_of_mem _ (List.mem_cons_of_mem _ (List.mem_cons_of_mem _ (List.mem_cons_self ..))))) (by kernel_rfl) (by kernel_rfl) Tryz.underlying156)
  (wid_of hL rfl (List.mem_cons_of_mem _ (List.mem_cons_self ..)) (by kernel_rfl) (by kernel_rfl) Tryz.underlying150)
theorem and_ok {a b:Bool} (ha:a=true) (hb:b=true):(a&&b)=true:=by rw[ha,hb];rfl
set_option maxRecDepth 100000 in
set_option maxHeartbeats 400000000 in
theorem joined_ok:joinedFacts Tryz.pinned.checked.prog 5 Tryz.f5 Rows.receiverNilSpec Rows.receiverNilRow=true:=by
 unfold joinedFacts
 repeat' (with_reducible refine and_ok ?_ ?_)
 all_goals (as_aux_lemma=>kernel_rfl)
set_option maxRecDepth 100000 in
set_option maxHeartbeats 400000000 in
theorem row_holds:Rows.ReceiverNilSaid:=
 OpenClaim.holds_of_wide 5 Tryz.f5 rfl rfl rfl rfl rfl rfl rfl ⟨rfl,rfl,rfl,rfl,rfl⟩ rfl rfl rfl rfl rfl (by as_aux_lemma=>kernel_rfl) Tryz.func5 joined_ok
  (of_decide_eq_true (by as_aux_lemma=>kernel_rfl)) (by unfold Func.isWrapper;first|(rw[if_pos (by decide+kernel)];kernel_rfl)|(rw[if_neg (by decide+kernel)];exact⟨rfl,rfl⟩))
  (fun os started H enc _=>LawT.lifted (f:=5) (fn:=Tryz.f5) (s:=Rows.receiverNilSpec) (laid:=[("unicode/utf8.acceptRanges",Rows.laid_unicode_utf8_acceptRanges),("clarion/packet.widths",Rows.laid_clarion_packet_widths),("clarion/frame.sizes",Rows.laid_clarion_frame_sizes),("clarion/fec.sizes",Rows.laid_clarion_fec_sizes),("clarion/table.sizes",Rows.laid_clarion_table_sizes),("unicode/utf8.first",Rows.laid_unicode_utf8_first)]) (by as_aux_lemma=>kernel_rfl) Tryz.func5 rfl (B:=4) (by as_aux_lemma=>kernel_rfl) Tryz.underlying4
   (by rw[params];intro t ht;simp at ht;rcases ht with rfl<;>exact⟨by as_aux_lemma=>kernel_rfl,of_decide_eq_true (by as_aux_lemma=>kernel_rfl)⟩)
   (by rw[params];intro H xs hx;match xs,hx with|[_],_=>rfl)
   (fun H enc W base args ds p hval hA _ hL=>contract H enc W base args ds p hval hA hL) os started H enc
   (ChangeSpec.witness_shaped (enc:=enc) (C:=Tryz.checked) (os:=os) (X:=fun w _=>laidMetH Tryz.prog [("unicode/utf8.acceptRanges",Rows.laid_unicode_utf8_acceptRanges),("clarion/packet.widths",Rows.laid_clarion_packet_widths),("clarion/frame.sizes",Rows.laid_clarion_frame_sizes),("clarion/fec.sizes",Rows.laid_clarion_fec_sizes),("clarion/table.sizes",Rows.laid_clarion_table_sizes),("unicode/utf8.first",Rows.laid_unicode_utf8_first)] w) false (World.laidAll Tryz.prog os [("unicode/utf8.acceptRanges",Rows.laid_unicode_utf8_acceptRanges),("clarion/packet.widths",Rows.laid_clarion_packet_widths),("clarion/frame.sizes",Rows.laid_clarion_frame_sizes),("clarion/fec.sizes",Rows.laid_clarion_fec_sizes),("clarion/table.sizes",Rows.laid_clarion_table_sizes),("unicode/utf8.first",Rows.laid_unicode_utf8_first)]) #[.string ByteArray.empty] 8 (World.laidAll_os _ _ _) (World.shaped_of_ZipB (by as_aux_lemma=>kernel_rfl) (by as_aux_lemma=>kernel_rfl)) (by as_aux_lemma=>kernel_rfl) (by as_aux_lemma=>kernel_rfl) (by as_aux_lemma=>kernel_rfl) (by rw[MakeChecks.laidMetH_plain _ _ _ (by as_aux_lemma=>kernel_rfl)];exact laidMet_laidAll _ (by as_aux_lemma=>kernel_rfl) (by as_aux_lemma=>kernel_rfl))))
set_option maxRecDepth 100000 in
set_option maxHeartbeats 400000000 in
theorem proved:Rows.ReceiverNilCardSaid:=
 Claim7.holds_tied_plain_at .later [] [.data,.data,.widerDeep,.widerDeep,.widerDeep,.pinned] true Rows.receiverNilCard.stood.harness false
  row_holds (fun _ h=>by cases h) (by as_aux_lemma=>kernel_rfl) (fun _ h=>by cases h) receiverNil_row_tie rfl ⟨rfl,rfl⟩ (by as_aux_lemma=>kernel_rfl) rfl
  (fun f fn hf hfn=>by
   obtain rfl:f=5:=Option.some.inj ((show Tryz.prog.funcNamed Rows.receiverNilCard.stood.row.func=some 5 by kernel_rfl).symm.trans hf) |>.symm;obtain rfl:fn=Tryz.f5:=(Option.some.inj (Tryz.func5.symm.trans hfn)).symm
   exact⟨by as_aux_lemma=>kernel_rfl,fun j t ht=>by
    rw[params]at ht;have hm:=Array.mem_of_getElem? ht;simp only[List.mem_toArray,List.mem_cons,List.not_mem_nil,or_false]at hm;rcases hm with rfl<;>exact(show Tryz.prog.wantsStandIn _=false by as_aux_lemma=>kernel_rfl)⟩)
  (by as_aux_lemma=>kernel_rfl)
#print axioms proved
end Go.Proofs.YtdbpkhnmhddmmaaGreatDoor.RcNC
