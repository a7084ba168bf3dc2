/- FecTurned: joined. It holds of every part, every place and every turn, without a condition; the table of sizes reads as the program's text lays it (tied). -/
import Derived.Test.YtfadhgbhdoddpaaDoorFcOpn
import Derived.Test.YtfadhgbhdoddpaaDoorLawT
import Derived.Test.YtfadhgbhdoddpaaDoorFcZ
namespace Go.Proofs.YtfadhgbhdoddpaaDoor.FcZC
open Go.RowKit Go.Proofs.YtfadhgbhdoddpaaDoor.Mem Go.Proofs.YtfadhgbhdoddpaaDoor.TmA Go.Proofs.YtfadhgbhdoddpaaDoor.FcA Go.Proofs.YtfadhgbhdoddpaaDoor.FcZ Go.Proofs.YtfadhgbhdoddpaaDoor.FcOpn Go.Proofs.YtfadhgbhdoddpaaDoor.TiOpn Go.Proofs.YtfadhgbhdoddpaaDoor.Opn Go.Proofs.YtfadhgbhdoddpaaDoor.LawT
open Go.ChangeShapes Go.WideShapes Go.ChangeAt Go.Joins

set_option maxRecDepth 100000
theorem params : Tryd.f6.params = #[25, 3, 5] := by kernel_rfl
theorem contract (H0 : Type) (enc : TypeId × Value → H0) (W : World) (base : Nat) (args : Array Value) (ds : List (DataW H0)) (p : List MemPlace)
    (hval : ∀ (j : Nat) t v, Tryd.f6.params[j]? = some t → args[j]? = some v → Value.okWide Tryd.prog W .any base t v)
    (hA : DataW.TrodAll enc Tryd.prog W 0 (fun _ => true) true Tryd.f6.params.toList args.toList ds p) (hL : laidMetH Tryd.prog [("clarion/fec.sizes", Rows.laid_clarion_fec_sizes)] W) :
    Calls Tryd.prog 6 args W fun e W' => e = .returned (.bool true) ∧ Below W.heap.size W W' := by
  rw [params] at hA hval
  obtain ⟨v0, vs0, d0, ds0, p0, q0, hargs, rfl, rfl, h0, r0⟩ := trodAll_cons hA
  obtain ⟨v1, vs1, d1, ds1, p1, q1, hargs1, rfl, rfl, h1, r1⟩ := trodAll_cons r0
  obtain ⟨v2, vs2, d2, ds2, p2, q2, hargs2, rfl, rfl, h2, r2⟩ := trodAll_cons r1
  obtain ⟨rfl, rfl, rfl⟩ := trodAll_nil r2
  obtain rfl : args = #[v0, v1, v2] := by cases args; simp_all
  obtain ⟨s, rfl⟩ := fp_arg (hval 0 25 v0 rfl rfl) h0
  obtain ⟨x, rfl⟩ := int_arg (hval 1 3 v1 rfl rfl)
  obtain ⟨y, rfl, hy⟩ := u8_arg (hval 2 5 v2 rfl rfl)
  exact turned_any s x y hy W (tab_of hL rfl (List.mem_cons_self ..) (by kernel_rfl) (by kernel_rfl) Tryd.underlying57)
set_option maxRecDepth 100000 in
theorem door_met (os : Os) (args : Array Value) : laidMetH Tryd.prog [("clarion/fec.sizes", Rows.laid_clarion_fec_sizes)] ((World.doorLaid Tryd.prog 14 os).forCall (fun _ _ => 0) ⟨#[], args, []⟩).memory :=
  laidMetH_of_parts3 (fuel := 8) (laidMet_of_run' 8 (by kernel_rfl) (by kernel_rfl)) (by kernel_rfl) (by kernel_rfl)
set_option maxRecDepth 100000 in
theorem row_holds : Rows.FecTurnedSaid :=
  OpenClaim.holds_of_wide 6 Tryd.f6 rfl rfl rfl rfl rfl rfl rfl ⟨rfl, rfl, rfl, rfl, rfl⟩ rfl rfl rfl rfl rfl (by kernel_rfl) Tryd.func6 (by kernel_rfl)
    (of_decide_eq_true (by kernel_rfl)) (by unfold Func.isWrapper; first | (rw [if_pos (by decide +kernel)]; kernel_rfl) | (rw [if_neg (by decide +kernel)]; exact ⟨rfl, rfl⟩))
    (fun os started H enc _ => LawT.lifted (f := 6) (fn := Tryd.f6) (s := Rows.fecTurnedSpec) (laid := [("clarion/fec.sizes", Rows.laid_clarion_fec_sizes)]) (by kernel_rfl) Tryd.func6 rfl (B := 4) (by kernel_rfl) Tryd.underlying4
      (by rw [params]; intro t ht; simp at ht; rcases ht with rfl | rfl | rfl <;> exact ⟨by kernel_rfl, of_decide_eq_true (by kernel_rfl)⟩)
      (by rw [params]; intro H xs hx; match xs, hx with | [_, _, _], _ => rfl)
      (fun H enc W base args ds p hval hA _ hL => contract H enc W base args ds p hval hA hL) os started H enc
      (ChangeSpec.witness_shaped (enc := enc) (C := Tryd.checked) (os := os) (X := fun w _ => laidMetH Tryd.prog [("clarion/fec.sizes", Rows.laid_clarion_fec_sizes)] w) false (World.doorLaid Tryd.prog 14 os) #[.agg #[.int .i64 0, .int .i64 0, .int .i64 0, .int .i64 0, .bool false, .bool false, .int .i64 0, .string ByteArray.empty], .int .i64 0, .int .u8 0] 8 rfl (World.shaped_of_RefB (by kernel_rfl) (by kernel_rfl)) (by kernel_rfl) (by kernel_rfl) (by kernel_rfl) (door_met os _)))
set_option maxRecDepth 100000 in
theorem proved : Rows.FecTurnedCardSaid :=
  Claim7.holds_tied_plain_at .later [] [.widerDeep] true Rows.fecTurnedCard.stood.harness false
    row_holds (fun _ h => by cases h) (by kernel_rfl) (fun _ h => by cases h) fecTurned_row_tie rfl ⟨rfl, rfl⟩ (by kernel_rfl) rfl
    (fun f fn hf hfn => by
      obtain rfl : f = 6 := Option.some.inj ((show Tryd.prog.funcNamed Rows.fecTurnedCard.stood.row.func = some 6 by kernel_rfl).symm.trans hf) |>.symm
      obtain rfl : fn = Tryd.f6 := (Option.some.inj (Tryd.func6.symm.trans hfn)).symm
      exact ⟨by kernel_rfl, fun j t ht => by
        rw [params] at ht
        have hm := Array.mem_of_getElem? ht
        simp only [List.mem_toArray, List.mem_cons, List.not_mem_nil, or_false] at hm
        rcases hm with rfl | rfl | rfl <;> exact (show Tryd.prog.wantsStandIn _ = false by kernel_rfl)⟩)
    (by kernel_rfl)
#print axioms proved
end Go.Proofs.YtfadhgbhdoddpaaDoor.FcZC
