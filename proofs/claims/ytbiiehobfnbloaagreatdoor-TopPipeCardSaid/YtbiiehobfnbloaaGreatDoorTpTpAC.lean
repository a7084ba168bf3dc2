import Derived.Test.YtbiiehobfnbloaaGreatDoorTpLoOpn
import Derived.Test.YtbiiehobfnbloaaGreatDoorTpLawW
import Derived.Test.YtbiiehobfnbloaaGreatDoorTpTpA
import Derived.Lay
namespace Go.Proofs.YtbiiehobfnbloaaGreatDoor.TpAC
open Go Go.RowKit Q Mem Ap OpS Tab TpA TiOpn LoOpn Opn LawT LawW
open Go.ChangeShapes Go.WideShapes Go.ChangeAt Go.Joins
set_option maxRecDepth 100000
theorem params : Tryz.f3.params = #[22, 3, 22] := by kernel_rfl
theorem contract (H0 : Type) (enc : TypeId × Value → H0) (W : World) (base : Nat) (args : Array Value) (ds : List (DataW H0)) (p : List MemPlace)
   (hval : ∀ (j : Nat) t v, Tryz.f3.params[j]? = some t → args[j]? = some v → Value.okWide Tryz.prog W .any base t v)
   (hA : DataW.TrodAll enc Tryz.prog W 0 (fun _ => true) true Tryz.f3.params.toList args.toList ds p) (hL : laidMetH Tryz.prog [("unicode/utf8.acceptRanges", Rows.laid_unicode_utf8_acceptRanges), ("clarion/packet.widths", Rows.laid_clarion_packet_widths), ("clarion/frame.sizes", Rows.laid_clarion_frame_sizes), ("clarion/fec.sizes", Rows.laid_clarion_fec_sizes), ("clarion/table.sizes", Rows.laid_clarion_table_sizes), ("unicode/utf8.first", Rows.laid_unicode_utf8_first)] W) :
   Calls Tryz.prog 3 args W fun e W' => e = .returned (.bool true) ∧ Below W.heap.size W W' := by
 rw [params] at hA hval
 obtain ⟨v0, vs0, d0, ds0, p0, q0, hargs, rfl, rfl, h0, r0⟩ := trodAll_cons hA
 obtain ⟨v1, vs1, d1, ds1, p1, q1, hargs1, rfl, rfl, h1, r1⟩ := trodAll_cons r0
 obtain ⟨v2, vs2, d2, ds2, p2, q2, hargs2, rfl, rfl, h2, r2⟩ := trodAll_cons r1
 obtain ⟨rfl, rfl, rfl⟩ := trodAll_nil r2
 obtain rfl : args = #[v0, v1, v2] := by cases args; simp_all
 obtain ⟨a0, len0, cap0, rfl⟩ := okWide_slice Tryz.underlying22 (hval 0 22 v0 rfl rfl)
 obtain ⟨K, rfl⟩ := int_arg (hval 1 3 v1 rfl rfl)
 obtain ⟨a2, len2, cap2, rfl⟩ := okWide_slice Tryz.underlying22 (hval 2 22 v2 rfl rfl)
 obtain ⟨fuel, hf⟩ := h0
 obtain ⟨a, cap, l, e, hl, hs⟩ := ints_of hf
 obtain ⟨fuel2, hf2⟩ := h2
 obtain ⟨b, cap', tw, e', ht, hs'⟩ := ints_of hf2
 rw [e, e']
 exact pipe_any K a b _ cap _ cap' l tw W (tab_of hL rfl (List.mem_cons_of_mem _ (List.mem_cons_of_mem _ (List.mem_cons_of_mem _ (List.mem_cons_self ..)))) (by kernel_rfl) (by kernel_rfl) Tryz.underlying202)
   (tab_of hL rfl (List.mem_cons_of_mem _ (List.mem_cons_of_mem _ (List.mem_cons_self ..))) (by kernel_rfl) (by kernel_rfl) Tryz.underlying202)
   (tab_of hL rfl (List.mem_cons_of_mem _ (List.mem_cons_of_mem _ (List.mem_cons_of_mem _ (List.mem_cons_of_mem _ (List.mem_cons_self ..))))) (by kernel_rfl) (by kernel_rfl) Tryz.underlying202)
   (wid_of hL rfl (List.mem_cons_of_mem _ (List.mem_cons_self ..)) (by kernel_rfl) (by kernel_rfl) Tryz.underlying148) rfl hl hs rfl ht hs'
theorem and_ok {a b : Bool} (ha : a = true) (hb : b = true) : (a && b) = true := by rw [ha, hb]; rfl
set_option maxRecDepth 100000 in
set_option maxHeartbeats 400000000 in
theorem joined_ok : joinedFacts Tryz.pinned.checked.prog 3 Tryz.f3 Rows.topPipeSpec Rows.topPipeRow = true := by
 unfold joinedFacts
 repeat' (with_reducible refine and_ok ?_ ?_)
 all_goals (as_aux_lemma => kernel_rfl)
set_option maxRecDepth 100000 in
set_option maxHeartbeats 400000000 in
theorem row_holds : Rows.TopPipeSaid :=
 OpenClaim.holds_of_wide 3 Tryz.f3 rfl rfl rfl rfl rfl rfl rfl ⟨rfl, rfl, rfl, rfl, rfl⟩ rfl rfl rfl rfl rfl (by as_aux_lemma => kernel_rfl) Tryz.func3 joined_ok
   (of_decide_eq_true (by as_aux_lemma => kernel_rfl)) (by unfold Func.isWrapper; first | (rw [if_pos (by decide +kernel)]; kernel_rfl) | (rw [if_neg (by decide +kernel)]; exact ⟨rfl, rfl⟩))
   (fun os started H enc _ => LawT.lifted (f := 3) (fn := Tryz.f3) (s := Rows.topPipeSpec) (laid := [("unicode/utf8.acceptRanges", Rows.laid_unicode_utf8_acceptRanges), ("clarion/packet.widths", Rows.laid_clarion_packet_widths), ("clarion/frame.sizes", Rows.laid_clarion_frame_sizes), ("clarion/fec.sizes", Rows.laid_clarion_fec_sizes), ("clarion/table.sizes", Rows.laid_clarion_table_sizes), ("unicode/utf8.first", Rows.laid_unicode_utf8_first)]) (by as_aux_lemma => kernel_rfl) Tryz.func3 rfl (B := 4) (by as_aux_lemma => kernel_rfl) Tryz.underlying4
     (by rw [params]; intro t ht; simp at ht; rcases ht with rfl | rfl | rfl <;> exact ⟨by as_aux_lemma => kernel_rfl, of_decide_eq_true (by as_aux_lemma => kernel_rfl)⟩)
     (by rw [params]; intro H xs hx; match xs, hx with | [_, _, _], _ => rfl)
     (fun H enc W base args ds p hval hA _ hL => contract H enc W base args ds p hval hA hL) os started H enc
     (ChangeSpec.witness_shaped (enc := enc) (C := Tryz.checked) (os := os) (X := fun w _ => laidMetH Tryz.prog [("unicode/utf8.acceptRanges", Rows.laid_unicode_utf8_acceptRanges), ("clarion/packet.widths", Rows.laid_clarion_packet_widths), ("clarion/frame.sizes", Rows.laid_clarion_frame_sizes), ("clarion/fec.sizes", Rows.laid_clarion_fec_sizes), ("clarion/table.sizes", Rows.laid_clarion_table_sizes), ("unicode/utf8.first", Rows.laid_unicode_utf8_first)] w) false (World.laidAll Tryz.prog os [("unicode/utf8.acceptRanges", Rows.laid_unicode_utf8_acceptRanges), ("clarion/packet.widths", Rows.laid_clarion_packet_widths), ("clarion/frame.sizes", Rows.laid_clarion_frame_sizes), ("clarion/fec.sizes", Rows.laid_clarion_fec_sizes), ("clarion/table.sizes", Rows.laid_clarion_table_sizes), ("unicode/utf8.first", Rows.laid_unicode_utf8_first)]) #[.slice none 0 0, .int .i64 0, .slice none 0 0] 8 (World.laidAll_os _ _ _) (World.shaped_of_ZipB (by as_aux_lemma => kernel_rfl) (by as_aux_lemma => kernel_rfl)) (by as_aux_lemma => kernel_rfl) (by as_aux_lemma => kernel_rfl) (by as_aux_lemma => kernel_rfl) (by rw [MakeChecks.laidMetH_plain _ _ _ (by as_aux_lemma => kernel_rfl)]; exact laidMet_laidAll _ (by as_aux_lemma => kernel_rfl) (by as_aux_lemma => kernel_rfl))))
set_option maxRecDepth 100000 in
set_option maxHeartbeats 400000000 in
theorem proved : Rows.TopPipeCardSaid :=
 Claim7.holds_tied_plain_at .later [] [.data, .data, .widerDeep, .widerDeep, .widerDeep, .pinned] true Rows.topPipeCard.stood.harness false
   row_holds (fun _ h => by cases h) (by as_aux_lemma => kernel_rfl) (fun _ h => by cases h) topPipe_row_tie rfl ⟨rfl, rfl⟩ (by as_aux_lemma => kernel_rfl) rfl
   (fun f fn hf hfn => by
     obtain rfl : f = 3 := Option.some.inj ((show Tryz.prog.funcNamed Rows.topPipeCard.stood.row.func = some 3 by kernel_rfl).symm.trans hf) |>.symm
     obtain rfl : fn = Tryz.f3 := (Option.some.inj (Tryz.func3.symm.trans hfn)).symm
     exact ⟨by as_aux_lemma => kernel_rfl, fun j t ht => by
       rw [params] at ht
       have hm := Array.mem_of_getElem? ht
       simp only [List.mem_toArray, List.mem_cons, List.not_mem_nil, or_false] at hm
       rcases hm with rfl | rfl | rfl <;> exact (show Tryz.prog.wantsStandIn _ = false by as_aux_lemma => kernel_rfl)⟩)
   (by as_aux_lemma => kernel_rfl)
#print axioms proved
end Go.Proofs.YtbiiehobfnbloaaGreatDoor.TpAC
