/- LinkNil: joined. It holds of every configuration, every call and every number, without a condition; the listed variables read as the program's text lays them (tied). -/
import Derived.Test.YtbiiehobfnbloaaGreatDoorLoOpn
import Derived.Test.YtbiiehobfnbloaaGreatDoorLawT
import Derived.Test.YtbiiehobfnbloaaGreatDoorLnOpn
import Derived.Test.YtbiiehobfnbloaaGreatDoorLnL
import Derived.Lay
namespace Go.Proofs.YtbiiehobfnbloaaGreatDoor.LnLC
open Go Go.RowKit Go.Proofs.YtbiiehobfnbloaaGreatDoor.Q Go.Proofs.YtbiiehobfnbloaaGreatDoor.Mem Go.Proofs.YtbiiehobfnbloaaGreatDoor.Ap Go.Proofs.YtbiiehobfnbloaaGreatDoor.OpS Go.Proofs.YtbiiehobfnbloaaGreatDoor.Tab Go.Proofs.YtbiiehobfnbloaaGreatDoor.LnP Go.Proofs.YtbiiehobfnbloaaGreatDoor.LnG Go.Proofs.YtbiiehobfnbloaaGreatDoor.LnL Go.Proofs.YtbiiehobfnbloaaGreatDoor.TiOpn Go.Proofs.YtbiiehobfnbloaaGreatDoor.LoOpn Go.Proofs.YtbiiehobfnbloaaGreatDoor.LnOpn Go.Proofs.YtbiiehobfnbloaaGreatDoor.Opn Go.Proofs.YtbiiehobfnbloaaGreatDoor.LawT
open Go.ChangeShapes Go.WideShapes Go.ChangeAt Go.Joins

set_option maxRecDepth 100000
theorem params : Tryz.f8.params = #[63, 79, 3] := by kernel_rfl
theorem contract (H0 : Type) (enc : TypeId × Value → H0) (W : World) (base : Nat) (args : Array Value) (ds : List (DataW H0)) (p : List MemPlace)
    (hval : ∀ (j : Nat) t v, Tryz.f8.params[j]? = some t → args[j]? = some v → Value.okWide Tryz.prog W .any base t v)
    (hA : DataW.TrodAll enc Tryz.prog W 0 (fun _ => true) true Tryz.f8.params.toList args.toList ds p) (hL : laidMetH Tryz.prog [("unicode/utf8.acceptRanges", Rows.laid_unicode_utf8_acceptRanges), ("clarion/packet.widths", Rows.laid_clarion_packet_widths), ("clarion/frame.sizes", Rows.laid_clarion_frame_sizes), ("clarion/fec.sizes", Rows.laid_clarion_fec_sizes), ("clarion/table.sizes", Rows.laid_clarion_table_sizes), ("unicode/utf8.first", Rows.laid_unicode_utf8_first)] W) :
    Calls Tryz.prog 8 args W fun e W' => e = .returned (.bool true) ∧ Below W.heap.size W W' := by
  rw [params] at hA hval
  obtain ⟨v0, vs0, d0, ds0, p0, q0, hargs, rfl, rfl, h0, r0⟩ := trodAll_cons hA
  obtain ⟨v1, vs1, d1, ds1, p1, q1, hargs1, rfl, rfl, h1, r1⟩ := trodAll_cons r0
  obtain ⟨v2, vs2, d2, ds2, p2, q2, hargs2, rfl, rfl, h2, r2⟩ := trodAll_cons r1
  obtain ⟨rfl, rfl, rfl⟩ := trodAll_nil r2
  obtain rfl : args = #[v0, v1, v2] := by cases args; simp_all
  obtain ⟨c, a, cap, L, rfl, hl, hs, hu, hg, hm, hp, _⟩ := cf_arg (hval 0 63 v0 rfl rfl) h0
  obtain ⟨o, rfl, hb⟩ := op_arg (hval 1 79 v1 rfl rfl) h1
  obtain ⟨m, rfl⟩ := int_arg (hval 2 3 v2 rfl rfl)
  exact law_any c a _ cap L o m W (tab_of hL rfl (List.mem_cons_of_mem _ (List.mem_cons_of_mem _ (List.mem_cons_self ..))) (by kernel_rfl) (by kernel_rfl) Tryz.underlying202) rfl hs hb hu hg hm hp
theorem and_ok {a b : Bool} (ha : a = true) (hb : b = true) : (a && b) = true := by rw [ha, hb]; rfl
set_option maxRecDepth 100000 in
set_option maxHeartbeats 400000000 in
theorem joined_ok : joinedFacts Tryz.pinned.checked.prog 8 Tryz.f8 Rows.linkNilSpec Rows.linkNilRow = true := by
  unfold joinedFacts
  repeat' (with_reducible refine and_ok ?_ ?_)
  all_goals (as_aux_lemma => kernel_rfl)
set_option maxRecDepth 100000 in
set_option maxHeartbeats 400000000 in
theorem row_holds : Rows.LinkNilSaid :=
  OpenClaim.holds_of_wide 8 Tryz.f8 rfl rfl rfl rfl rfl rfl rfl ⟨rfl, rfl, rfl, rfl, rfl⟩ rfl rfl rfl rfl rfl (by as_aux_lemma => kernel_rfl) Tryz.func8 joined_ok
    (of_decide_eq_true (by as_aux_lemma => kernel_rfl)) (by unfold Func.isWrapper; first | (rw [if_pos (by decide +kernel)]; kernel_rfl) | (rw [if_neg (by decide +kernel)]; exact ⟨rfl, rfl⟩))
    (fun os started H enc _ => LawT.lifted (f := 8) (fn := Tryz.f8) (s := Rows.linkNilSpec) (laid := [("unicode/utf8.acceptRanges", Rows.laid_unicode_utf8_acceptRanges), ("clarion/packet.widths", Rows.laid_clarion_packet_widths), ("clarion/frame.sizes", Rows.laid_clarion_frame_sizes), ("clarion/fec.sizes", Rows.laid_clarion_fec_sizes), ("clarion/table.sizes", Rows.laid_clarion_table_sizes), ("unicode/utf8.first", Rows.laid_unicode_utf8_first)]) (by as_aux_lemma => kernel_rfl) Tryz.func8 rfl (B := 4) (by as_aux_lemma => kernel_rfl) Tryz.underlying4
      (by rw [params]; intro t ht; simp at ht; rcases ht with rfl | rfl | rfl <;> exact ⟨by as_aux_lemma => kernel_rfl, of_decide_eq_true (by as_aux_lemma => kernel_rfl)⟩)
      (by rw [params]; intro H xs hx; match xs, hx with | [_, _, _], _ => rfl)
      (fun H enc W base args ds p hval hA _ hL => contract H enc W base args ds p hval hA hL) os started H enc
      (ChangeSpec.witness_shaped (enc := enc) (C := Tryz.checked) (os := os) (X := fun w _ => laidMetH Tryz.prog [("unicode/utf8.acceptRanges", Rows.laid_unicode_utf8_acceptRanges), ("clarion/packet.widths", Rows.laid_clarion_packet_widths), ("clarion/frame.sizes", Rows.laid_clarion_frame_sizes), ("clarion/fec.sizes", Rows.laid_clarion_fec_sizes), ("clarion/table.sizes", Rows.laid_clarion_table_sizes), ("unicode/utf8.first", Rows.laid_unicode_utf8_first)] w) false (World.laidAll Tryz.prog os [("unicode/utf8.acceptRanges", Rows.laid_unicode_utf8_acceptRanges), ("clarion/packet.widths", Rows.laid_clarion_packet_widths), ("clarion/frame.sizes", Rows.laid_clarion_frame_sizes), ("clarion/fec.sizes", Rows.laid_clarion_fec_sizes), ("clarion/table.sizes", Rows.laid_clarion_table_sizes), ("unicode/utf8.first", Rows.laid_unicode_utf8_first)]) #[.agg #[.int .i64 0, .int .i64 0, .int .i64 0, .int .i64 0, .int .i64 0, .int .i64 0, .int .i64 0, .slice none 0 0], .agg #[.int .i64 0, .int .i64 0, .int .i64 0, .int .u8 0, .string ByteArray.empty], .int .i64 0] 8 (World.laidAll_os _ _ _) (World.shaped_of_ZipB (by as_aux_lemma => kernel_rfl) (by as_aux_lemma => kernel_rfl)) (by as_aux_lemma => kernel_rfl) (by as_aux_lemma => kernel_rfl) (by as_aux_lemma => kernel_rfl) (by rw [MakeChecks.laidMetH_plain _ _ _ (by as_aux_lemma => kernel_rfl)]; exact laidMet_laidAll _ (by as_aux_lemma => kernel_rfl) (by as_aux_lemma => kernel_rfl))))
set_option maxRecDepth 100000 in
set_option maxHeartbeats 400000000 in
theorem proved : Rows.LinkNilCardSaid :=
  Claim7.holds_tied_plain_at .later [] [.data, .data, .widerDeep, .widerDeep, .widerDeep, .pinned] true Rows.linkNilCard.stood.harness false
    row_holds (fun _ h => by cases h) (by as_aux_lemma => kernel_rfl) (fun _ h => by cases h) linkNil_row_tie rfl ⟨rfl, rfl⟩ (by as_aux_lemma => kernel_rfl) rfl
    (fun f fn hf hfn => by
      obtain rfl : f = 8 := Option.some.inj ((show Tryz.prog.funcNamed Rows.linkNilCard.stood.row.func = some 8 by kernel_rfl).symm.trans hf) |>.symm
      obtain rfl : fn = Tryz.f8 := (Option.some.inj (Tryz.func8.symm.trans hfn)).symm
      exact ⟨by as_aux_lemma => kernel_rfl, fun j t ht => by
        rw [params] at ht
        have hm := Array.mem_of_getElem? ht
        simp only [List.mem_toArray, List.mem_cons, List.not_mem_nil, or_false] at hm
        rcases hm with rfl | rfl | rfl <;> exact (show Tryz.prog.wantsStandIn _ = false by as_aux_lemma => kernel_rfl)⟩)
    (by as_aux_lemma => kernel_rfl)
#print axioms proved
end Go.Proofs.YtbiiehobfnbloaaGreatDoor.LnLC
