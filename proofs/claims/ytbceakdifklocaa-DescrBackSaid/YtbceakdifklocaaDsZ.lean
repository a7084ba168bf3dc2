/- Places: the document's ReadPlace and MakePlace. -/
import Derived.Test.YtbceakdifklocaaDsY
import Derived.Test.YtbceakdifklocaaDsG
namespace Go.Proofs.Ytbceakdifklocaa.DsZ
open Go.RowKit Go.Proofs.Ytbceakdifklocaa.Q Go.Proofs.Ytbceakdifklocaa.Mem Go.Proofs.Ytbceakdifklocaa.DsA Go.Proofs.Ytbceakdifklocaa.DsB Go.Proofs.Ytbceakdifklocaa.DsC Go.Proofs.Ytbceakdifklocaa.DsD Go.Proofs.Ytbceakdifklocaa.DsE Go.Proofs.Ytbceakdifklocaa.DsF Go.Proofs.Ytbceakdifklocaa.DsI Go.Proofs.Ytbceakdifklocaa.DsK Go.Proofs.Ytbceakdifklocaa.DsY Go.Proofs.Ytbceakdifklocaa.Rg Go.Proofs.Ytbceakdifklocaa.Ap

def zero5 : Array Value := #[.int .i64 0, .int .i64 0, .int .i64 0, .int .i64 0, .int .i64 0]
def arrP (a b c e : Int) (k : Nat) : Array Value := match k with
  | 0 => #[.int .i64 0, .int .i64 0, .int .i64 0, .int .i64 0, .int .i64 0]
  | 1 => #[.int .i64 a, .int .i64 0, .int .i64 0, .int .i64 0, .int .i64 0]
  | 2 => #[.int .i64 a, .int .i64 b, .int .i64 0, .int .i64 0, .int .i64 0]
  | 3 => #[.int .i64 a, .int .i64 b, .int .i64 c, .int .i64 0, .int .i64 0]
  | _ => #[.int .i64 a, .int .i64 b, .int .i64 c, .int .i64 e, .int .i64 0]
set_option maxRecDepth 100000
set_option maxHeartbeats 1600000 in
theorem rrplace_any (d : Dc) (w : World) : Calls Try.prog 27 #[.agg #[.int .i64 d.tag, .string d.body]] w fun e w' => e = .returned (.tuple #[.agg (plR d).vals, .int .i64 (plE d)]) ∧ Below w.heap.size w w' := by
  have hb := bk3 w 35 62 62 #[.int .i64 d.tag, .string d.body] #[.int .i64 0, .int .i64 0, .int .i64 0, .int .i64 0, .int .i64 0] #[.int .i64 0, .int .i64 0, .int .i64 0, .int .i64 0, .int .i64 0]
  have HB := Lib.hid hb
  clear hb
  by_cases h1 : d.tag ≠ 19
  · have hE : plE d = 14 := by simp [plE, h1]
    have hR := plR_bad d (by rw [hE]; decide)
    rw [hE, hR]
    have t1 : (d.tag != 19) = true := by simpa using h1
    clear h1 hE hR
    go_enter Try.func27, Try.ntmps27
    go_wp2_with fail
    exact bodyPost_ret (v := .tuple #[.agg #[.int .i64 0, .int .i64 0, .int .i64 0, .int .i64 0, .int .i64 0], .int .i64 14]) (by simp [results, Try.results27, go_sem]) rfl ⟨rfl, HB.out.be⟩
  have t1 : (d.tag != 19) = false := by simpa using h1
  by_cases h2 : d.body.size < 9
  · have hE : plE d = 10 := by simp only [plE, if_neg h1, if_pos h2]
    have hR := plR_bad d (by rw [hE]; decide)
    rw [hE, hR]
    have t2 : decide ((d.body.size : Int) < 9) = true := by simp; omega
    clear h1 h2 hE hR
    go_enter Try.func27, Try.ntmps27
    go_wp2_with fail
    exact bodyPost_ret (v := .tuple #[.agg #[.int .i64 0, .int .i64 0, .int .i64 0, .int .i64 0, .int .i64 0], .int .i64 10]) (by simp [results, Try.results27, go_sem]) rfl ⟨rfl, HB.out.be⟩
  have t2 : decide ((d.body.size : Int) < 9) = false := by simp; omega
  by_cases h3 : 9 < d.body.size
  · have hE : plE d = 11 := by simp only [plE, if_neg h1, if_neg h2, if_pos h3]
    have hR := plR_bad d (by rw [hE]; decide)
    rw [hE, hR]
    have t3 : decide (9 < (d.body.size : Int)) = true := by simp; omega
    clear h1 h2 h3 hE hR
    go_enter Try.func27, Try.ntmps27
    go_wp2_with fail
    exact bodyPost_ret (v := .tuple #[.agg #[.int .i64 0, .int .i64 0, .int .i64 0, .int .i64 0, .int .i64 0], .int .i64 11]) (by simp [results, Try.results27, go_sem]) rfl ⟨rfl, HB.out.be⟩
  have t3 : decide (9 < (d.body.size : Int)) = false := by simp; omega
  have hE : plE d = 0 := by simp only [plE, if_neg h1, if_neg h2, if_neg h3]
  have hR : plR d = ⟨pw d.body 0, pw d.body 2, pw d.body 4, pw d.body 6, at' d.body 8⟩ := by simp [plR, hE]
  rw [hE, hR]
  obtain ⟨s, hs⟩ : ∃ s, d.body = s := ⟨_, rfl⟩
  rw [hs]
  have hsz : s.size = 9 := by rw [← hs]; omega
  have i0 : ∀ V : World, (Instr.index 9 (.string s) (.int .i64 0)).run Try.prog V = .ok (.int .u8 (at' s 0)) V := fun V => idx_at s 0 (by omega) V
  have r0 := at_range s 0
  have i1 : ∀ V : World, (Instr.index 9 (.string s) (.int .i64 1)).run Try.prog V = .ok (.int .u8 (at' s 1)) V := fun V => idx_at s 1 (by omega) V
  have r1 := at_range s 1
  have i2 : ∀ V : World, (Instr.index 9 (.string s) (.int .i64 2)).run Try.prog V = .ok (.int .u8 (at' s 2)) V := fun V => idx_at s 2 (by omega) V
  have r2 := at_range s 2
  have i3 : ∀ V : World, (Instr.index 9 (.string s) (.int .i64 3)).run Try.prog V = .ok (.int .u8 (at' s 3)) V := fun V => idx_at s 3 (by omega) V
  have r3 := at_range s 3
  have i4 : ∀ V : World, (Instr.index 9 (.string s) (.int .i64 4)).run Try.prog V = .ok (.int .u8 (at' s 4)) V := fun V => idx_at s 4 (by omega) V
  have r4 := at_range s 4
  have i5 : ∀ V : World, (Instr.index 9 (.string s) (.int .i64 5)).run Try.prog V = .ok (.int .u8 (at' s 5)) V := fun V => idx_at s 5 (by omega) V
  have r5 := at_range s 5
  have i6 : ∀ V : World, (Instr.index 9 (.string s) (.int .i64 6)).run Try.prog V = .ok (.int .u8 (at' s 6)) V := fun V => idx_at s 6 (by omega) V
  have r6 := at_range s 6
  have i7 : ∀ V : World, (Instr.index 9 (.string s) (.int .i64 7)).run Try.prog V = .ok (.int .u8 (at' s 7)) V := fun V => idx_at s 7 (by omega) V
  have r7 := at_range s 7
  have i8 : ∀ V : World, (Instr.index 9 (.string s) (.int .i64 8)).run Try.prog V = .ok (.int .u8 (at' s 8)) V := fun V => idx_at s 8 (by omega) V
  have r8 := at_range s 8
  have p0 : pw s 0 = 256 * at' s 0 + at' s 1 := by show at' s 0 * 256 + at' s 1 = _; omega
  have p1 : pw s 2 = 256 * at' s 2 + at' s 3 := by show at' s 2 * 256 + at' s 3 = _; omega
  have p2 : pw s 4 = 256 * at' s 4 + at' s 5 := by show at' s 4 * 256 + at' s 5 = _; omega
  have p3 : pw s 6 = 256 * at' s 6 + at' s 7 := by show at' s 6 * 256 + at' s 7 = _; omega
  obtain ⟨b0, e0⟩ : ∃ b, at' s 0 = b := ⟨_, rfl⟩
  rw [e0] at i0 r0
  rw [e0] at p0
  obtain ⟨b1, e1⟩ : ∃ b, at' s 1 = b := ⟨_, rfl⟩
  rw [e1] at i1 r1
  rw [e1] at p0
  obtain ⟨b2, e2⟩ : ∃ b, at' s 2 = b := ⟨_, rfl⟩
  rw [e2] at i2 r2
  rw [e2] at p1
  obtain ⟨b3, e3⟩ : ∃ b, at' s 3 = b := ⟨_, rfl⟩
  rw [e3] at i3 r3
  rw [e3] at p1
  obtain ⟨b4, e4⟩ : ∃ b, at' s 4 = b := ⟨_, rfl⟩
  rw [e4] at i4 r4
  rw [e4] at p2
  obtain ⟨b5, e5⟩ : ∃ b, at' s 5 = b := ⟨_, rfl⟩
  rw [e5] at i5 r5
  rw [e5] at p2
  obtain ⟨b6, e6⟩ : ∃ b, at' s 6 = b := ⟨_, rfl⟩
  rw [e6] at i6 r6
  rw [e6] at p3
  obtain ⟨b7, e7⟩ : ∃ b, at' s 7 = b := ⟨_, rfl⟩
  rw [e7] at i7 r7
  rw [e7] at p3
  obtain ⟨b8, e8⟩ : ∃ b, at' s 8 = b := ⟨_, rfl⟩
  rw [e8] at i8 r8
  rw [e8]
  have q0 : IntKind.i64.wrap b0 = b0 := by rw [IntKind.wrap_i64]; omega
  have q1 : IntKind.i64.wrap b1 = b1 := by rw [IntKind.wrap_i64]; omega
  have q2 : IntKind.i64.wrap b2 = b2 := by rw [IntKind.wrap_i64]; omega
  have q3 : IntKind.i64.wrap b3 = b3 := by rw [IntKind.wrap_i64]; omega
  have q4 : IntKind.i64.wrap b4 = b4 := by rw [IntKind.wrap_i64]; omega
  have q5 : IntKind.i64.wrap b5 = b5 := by rw [IntKind.wrap_i64]; omega
  have q6 : IntKind.i64.wrap b6 = b6 := by rw [IntKind.wrap_i64]; omega
  have q7 : IntKind.i64.wrap b7 = b7 := by rw [IntKind.wrap_i64]; omega
  have q8 : IntKind.i64.wrap b8 = b8 := by rw [IntKind.wrap_i64]; omega
  have m0 : IntKind.i64.wrap (256 * b0) = 256 * b0 := by rw [IntKind.wrap_i64]; omega
  have n0 : IntKind.i64.wrap (256 * b0 + b1) = 256 * b0 + b1 := by rw [IntKind.wrap_i64]; omega
  have m1 : IntKind.i64.wrap (256 * b2) = 256 * b2 := by rw [IntKind.wrap_i64]; omega
  have n1 : IntKind.i64.wrap (256 * b2 + b3) = 256 * b2 + b3 := by rw [IntKind.wrap_i64]; omega
  have m2 : IntKind.i64.wrap (256 * b4) = 256 * b4 := by rw [IntKind.wrap_i64]; omega
  have n2 : IntKind.i64.wrap (256 * b4 + b5) = 256 * b4 + b5 := by rw [IntKind.wrap_i64]; omega
  have m3 : IntKind.i64.wrap (256 * b6) = 256 * b6 := by rw [IntKind.wrap_i64]; omega
  have n3 : IntKind.i64.wrap (256 * b6 + b7) = 256 * b6 + b7 := by rw [IntKind.wrap_i64]; omega
  rw [p0, p1, p2, p3]
  have t1' : (d.tag != 19) = false := t1
  obtain ⟨tag, body⟩ := d
  dsimp only at hs t1 t2 t3 HB ⊢
  subst hs
  have i9 : (0 : Int) ≤ 0 := Int.le_refl _
  have hsi : (body.size : Int) = 9 := by omega
  clear h1 h2 h3 hE hR t1' e0 e1 e2 e3 e4 e5 e6 e7 e8 p0 p1 p2 p3 r0 r1 r2 r3 r4 r5 r6 r7 r8 i9
  go_enter Try.func27, Try.ntmps27
  go_wp2_with fail
  go_loopw [5] (fun i wr => ∃ k : Nat, k ≤ 4 ∧ i = .int .i64 k ∧ Bk w wr [(w.heap.size + 1 + 1, 62, arrP (256 * b0 + b1) (256 * b2 + b3) (256 * b4 + b5) (256 * b6 + b7) k), (w.heap.size + 1, 62, #[.int .i64 0, .int .i64 0, .int .i64 0, .int .i64 0, .int .i64 0]), (w.heap.size, 35, #[.int .i64 tag, .string body])]) (fun i _ => 4 - (intOf i).toNat)
  case atStart => exact ⟨0, by omega, rfl, HB.out⟩
  case round =>
    obtain ⟨k, hk, rfl, hB⟩ := hrel
    clear HB t1 t2 t3
    rcases (show k = 0 ∨ k = 1 ∨ k = 2 ∨ k = 3 ∨ k = 4 by omega) with rfl | rfl | rfl | rfl | rfl
    · have t5 : decide ((0 : Int) < 4) = true := by decide
      have y0 := fun pX => Blk.cell (blk_ext (hB.nth 0 rfl) pX) 0 (v := .int .i64 0) rfl
      have y1 := fun pX => Blk.cell (blk_ext (hB.nth 0 rfl) pX) 1 (v := .int .i64 0) rfl
      have y2 := fun pX => Blk.cell (blk_ext (hB.nth 0 rfl) pX) 2 (v := .int .i64 0) rfl
      have y3 := fun pX => Blk.cell (blk_ext (hB.nth 0 rfl) pX) 3 (v := .int .i64 0) rfl
      have y4 := fun pX => Blk.cell (blk_ext (hB.nth 0 rfl) pX) 4 (v := .int .i64 0) rfl
      have x0 := fun pX => Blk.cell (blk_ext (hB.nth 2 rfl) pX) 0 (v := .int .i64 tag) rfl
      have x1 := fun pX => Blk.cell (blk_ext (hB.nth 2 rfl) pX) 1 (v := .string body) rfl
      have z := fun p => Blk.frozen (blk_ext (hB.nth 0 rfl) p) 0
      go_wp2_with fail
      refine Go.Proofs.Ytbceakdifklocaa.Q.region_ext_tail 17 (by kernel_rfl) (by kernel_rfl) ?_
      simp only [List.take_succ_cons, List.take_zero, List.drop_succ_cons, List.drop_zero]
      repeat (go_big_quiet_step (fail))
      refine wpQuiet_nil ?_
      rintro w9 ⟨pq, rfl⟩
      have HB2 := Lib.hid (hB.px pq)
      have HS := Lib.hid (Blk.set_ (HB2.out.nth 0 rfl) 0 (.int .i64 (256 * b0 + b1)))
      have HG := Lib.hid (only_set (only_refl (ext wr pq) (some (w.heap.size + 1 + 1))) 0 (.int .i64 (256 * b0 + b1)))
      have yy := y0 pq
      have zz := z pq
      clear hB x0 x1 y0 y1 y2 y3 y4 z i0 i1 i2 i3 i4 i5 i6 i7 i8
      go_wp2_with fail
      go_roundw
      case rel => exact ⟨1, by omega, by go_num, ⟨HB2.out.be.trans (below_of_only HG.out HB2.out.size (fun j hj => by injection hj with hj; omega)), fun x hx => by
        rcases List.mem_cons.1 hx with rfl | hx
        · exact HS.out
        · rcases List.mem_cons.1 hx with rfl | hx
          · exact Blk.grown (HB2.out.nth 1 rfl) HG.out (by simp)
          · rcases List.mem_cons.1 hx with rfl | hx
            · exact Blk.grown (HB2.out.nth 2 rfl) HG.out (by simp; omega)
            · cases hx⟩⟩
      case measure => simp [intOf]
    · have t5 : decide ((1 : Int) < 4) = true := by decide
      have y0 := fun pX => Blk.cell (blk_ext (hB.nth 0 rfl) pX) 0 (v := .int .i64 (256 * b0 + b1)) rfl
      have y1 := fun pX => Blk.cell (blk_ext (hB.nth 0 rfl) pX) 1 (v := .int .i64 0) rfl
      have y2 := fun pX => Blk.cell (blk_ext (hB.nth 0 rfl) pX) 2 (v := .int .i64 0) rfl
      have y3 := fun pX => Blk.cell (blk_ext (hB.nth 0 rfl) pX) 3 (v := .int .i64 0) rfl
      have y4 := fun pX => Blk.cell (blk_ext (hB.nth 0 rfl) pX) 4 (v := .int .i64 0) rfl
      have x0 := fun pX => Blk.cell (blk_ext (hB.nth 2 rfl) pX) 0 (v := .int .i64 tag) rfl
      have x1 := fun pX => Blk.cell (blk_ext (hB.nth 2 rfl) pX) 1 (v := .string body) rfl
      have z := fun p => Blk.frozen (blk_ext (hB.nth 0 rfl) p) 1
      go_wp2_with fail
      refine Go.Proofs.Ytbceakdifklocaa.Q.region_ext_tail 17 (by kernel_rfl) (by kernel_rfl) ?_
      simp only [List.take_succ_cons, List.take_zero, List.drop_succ_cons, List.drop_zero]
      repeat (go_big_quiet_step (fail))
      refine wpQuiet_nil ?_
      rintro w9 ⟨pq, rfl⟩
      have HB2 := Lib.hid (hB.px pq)
      have HS := Lib.hid (Blk.set_ (HB2.out.nth 0 rfl) 1 (.int .i64 (256 * b2 + b3)))
      have HG := Lib.hid (only_set (only_refl (ext wr pq) (some (w.heap.size + 1 + 1))) 1 (.int .i64 (256 * b2 + b3)))
      have yy := y1 pq
      have zz := z pq
      clear hB x0 x1 y0 y1 y2 y3 y4 z i0 i1 i2 i3 i4 i5 i6 i7 i8
      go_wp2_with fail
      go_roundw
      case rel => exact ⟨2, by omega, by go_num, ⟨HB2.out.be.trans (below_of_only HG.out HB2.out.size (fun j hj => by injection hj with hj; omega)), fun x hx => by
        rcases List.mem_cons.1 hx with rfl | hx
        · exact HS.out
        · rcases List.mem_cons.1 hx with rfl | hx
          · exact Blk.grown (HB2.out.nth 1 rfl) HG.out (by simp)
          · rcases List.mem_cons.1 hx with rfl | hx
            · exact Blk.grown (HB2.out.nth 2 rfl) HG.out (by simp; omega)
            · cases hx⟩⟩
      case measure => simp [intOf]
    · have t5 : decide ((2 : Int) < 4) = true := by decide
      have y0 := fun pX => Blk.cell (blk_ext (hB.nth 0 rfl) pX) 0 (v := .int .i64 (256 * b0 + b1)) rfl
      have y1 := fun pX => Blk.cell (blk_ext (hB.nth 0 rfl) pX) 1 (v := .int .i64 (256 * b2 + b3)) rfl
      have y2 := fun pX => Blk.cell (blk_ext (hB.nth 0 rfl) pX) 2 (v := .int .i64 0) rfl
      have y3 := fun pX => Blk.cell (blk_ext (hB.nth 0 rfl) pX) 3 (v := .int .i64 0) rfl
      have y4 := fun pX => Blk.cell (blk_ext (hB.nth 0 rfl) pX) 4 (v := .int .i64 0) rfl
      have x0 := fun pX => Blk.cell (blk_ext (hB.nth 2 rfl) pX) 0 (v := .int .i64 tag) rfl
      have x1 := fun pX => Blk.cell (blk_ext (hB.nth 2 rfl) pX) 1 (v := .string body) rfl
      have z := fun p => Blk.frozen (blk_ext (hB.nth 0 rfl) p) 2
      go_wp2_with fail
      refine Go.Proofs.Ytbceakdifklocaa.Q.region_ext_tail 17 (by kernel_rfl) (by kernel_rfl) ?_
      simp only [List.take_succ_cons, List.take_zero, List.drop_succ_cons, List.drop_zero]
      repeat (go_big_quiet_step (fail))
      refine wpQuiet_nil ?_
      rintro w9 ⟨pq, rfl⟩
      have HB2 := Lib.hid (hB.px pq)
      have HS := Lib.hid (Blk.set_ (HB2.out.nth 0 rfl) 2 (.int .i64 (256 * b4 + b5)))
      have HG := Lib.hid (only_set (only_refl (ext wr pq) (some (w.heap.size + 1 + 1))) 2 (.int .i64 (256 * b4 + b5)))
      have yy := y2 pq
      have zz := z pq
      clear hB x0 x1 y0 y1 y2 y3 y4 z i0 i1 i2 i3 i4 i5 i6 i7 i8
      go_wp2_with fail
      go_roundw
      case rel => exact ⟨3, by omega, by go_num, ⟨HB2.out.be.trans (below_of_only HG.out HB2.out.size (fun j hj => by injection hj with hj; omega)), fun x hx => by
        rcases List.mem_cons.1 hx with rfl | hx
        · exact HS.out
        · rcases List.mem_cons.1 hx with rfl | hx
          · exact Blk.grown (HB2.out.nth 1 rfl) HG.out (by simp)
          · rcases List.mem_cons.1 hx with rfl | hx
            · exact Blk.grown (HB2.out.nth 2 rfl) HG.out (by simp; omega)
            · cases hx⟩⟩
      case measure => simp [intOf]
    · have t5 : decide ((3 : Int) < 4) = true := by decide
      have y0 := fun pX => Blk.cell (blk_ext (hB.nth 0 rfl) pX) 0 (v := .int .i64 (256 * b0 + b1)) rfl
      have y1 := fun pX => Blk.cell (blk_ext (hB.nth 0 rfl) pX) 1 (v := .int .i64 (256 * b2 + b3)) rfl
      have y2 := fun pX => Blk.cell (blk_ext (hB.nth 0 rfl) pX) 2 (v := .int .i64 (256 * b4 + b5)) rfl
      have y3 := fun pX => Blk.cell (blk_ext (hB.nth 0 rfl) pX) 3 (v := .int .i64 0) rfl
      have y4 := fun pX => Blk.cell (blk_ext (hB.nth 0 rfl) pX) 4 (v := .int .i64 0) rfl
      have x0 := fun pX => Blk.cell (blk_ext (hB.nth 2 rfl) pX) 0 (v := .int .i64 tag) rfl
      have x1 := fun pX => Blk.cell (blk_ext (hB.nth 2 rfl) pX) 1 (v := .string body) rfl
      have z := fun p => Blk.frozen (blk_ext (hB.nth 0 rfl) p) 3
      go_wp2_with fail
      refine Go.Proofs.Ytbceakdifklocaa.Q.region_ext_tail 17 (by kernel_rfl) (by kernel_rfl) ?_
      simp only [List.take_succ_cons, List.take_zero, List.drop_succ_cons, List.drop_zero]
      repeat (go_big_quiet_step (fail))
      refine wpQuiet_nil ?_
      rintro w9 ⟨pq, rfl⟩
      have HB2 := Lib.hid (hB.px pq)
      have HS := Lib.hid (Blk.set_ (HB2.out.nth 0 rfl) 3 (.int .i64 (256 * b6 + b7)))
      have HG := Lib.hid (only_set (only_refl (ext wr pq) (some (w.heap.size + 1 + 1))) 3 (.int .i64 (256 * b6 + b7)))
      have yy := y3 pq
      have zz := z pq
      clear hB x0 x1 y0 y1 y2 y3 y4 z i0 i1 i2 i3 i4 i5 i6 i7 i8
      go_wp2_with fail
      go_roundw
      case rel => exact ⟨4, by omega, by go_num, ⟨HB2.out.be.trans (below_of_only HG.out HB2.out.size (fun j hj => by injection hj with hj; omega)), fun x hx => by
        rcases List.mem_cons.1 hx with rfl | hx
        · exact HS.out
        · rcases List.mem_cons.1 hx with rfl | hx
          · exact Blk.grown (HB2.out.nth 1 rfl) HG.out (by simp)
          · rcases List.mem_cons.1 hx with rfl | hx
            · exact Blk.grown (HB2.out.nth 2 rfl) HG.out (by simp; omega)
            · cases hx⟩⟩
      case measure => simp [intOf]
    · have t5 : decide ((4 : Int) < 4) = false := by decide
      have y0 := Blk.cell (hB.nth 0 rfl) 0 (v := .int .i64 (256 * b0 + b1)) rfl
      have y1 := Blk.cell (hB.nth 0 rfl) 1 (v := .int .i64 (256 * b2 + b3)) rfl
      have y2 := Blk.cell (hB.nth 0 rfl) 2 (v := .int .i64 (256 * b4 + b5)) rfl
      have y3 := Blk.cell (hB.nth 0 rfl) 3 (v := .int .i64 (256 * b6 + b7)) rfl
      have y4 := Blk.cell (hB.nth 0 rfl) 4 (v := .int .i64 0) rfl
      have yf0 := Blk.frozen (hB.nth 0 rfl) 0
      have yf1 := Blk.frozen (hB.nth 0 rfl) 1
      have yf2 := Blk.frozen (hB.nth 0 rfl) 2
      have yf3 := Blk.frozen (hB.nth 0 rfl) 3
      have yf4 := Blk.frozen (hB.nth 0 rfl) 4
      have z0 := Blk.cell (hB.nth 1 rfl) 0 (v := .int .i64 0) rfl
      have z1 := Blk.cell (hB.nth 1 rfl) 1 (v := .int .i64 0) rfl
      have z2 := Blk.cell (hB.nth 1 rfl) 2 (v := .int .i64 0) rfl
      have z3 := Blk.cell (hB.nth 1 rfl) 3 (v := .int .i64 0) rfl
      have z4 := Blk.cell (hB.nth 1 rfl) 4 (v := .int .i64 0) rfl
      have zf0 := Blk.frozen (hB.nth 1 rfl) 0
      have zf1 := Blk.frozen (hB.nth 1 rfl) 1
      have zf2 := Blk.frozen (hB.nth 1 rfl) 2
      have zf3 := Blk.frozen (hB.nth 1 rfl) 3
      have zf4 := Blk.frozen (hB.nth 1 rfl) 4
      have x0 := Blk.cell (hB.nth 2 rfl) 0 (v := .int .i64 tag) rfl
      have x1 := Blk.cell (hB.nth 2 rfl) 1 (v := .string body) rfl
      have l1 := hB.lt 1 rfl
      have l0 := hB.lt 0 rfl
      have HB := Lib.hid hB
      clear hB
      go_wp2_with fail
      have h1 := Blk.far (HB.out.nth 1 rfl) (p := ⟨w.heap.size + 1 + 1, 4, none⟩) (by simp) (.int .i64 b8)
      have hS := (row_set [.int .i64 (256 * b0 + b1), .int .i64 (256 * b2 + b3), .int .i64 (256 * b4 + b5), .int .i64 (256 * b6 + b7), .int .i64 (b8)] h1).1
      have hE := below_setCells (Nat.le_succ w.heap.size) [.int .i64 (256 * b0 + b1), .int .i64 (256 * b2 + b3), .int .i64 (256 * b4 + b5), .int .i64 (256 * b6 + b7), .int .i64 (b8)] 0 w _ (HB.out.be.setCell (p := ⟨w.heap.size + 1 + 1, 4, none⟩) (by show w.heap.size ≤ w.heap.size + 1 + 1; omega) (.int .i64 b8))
      refine bp_gen (fun V => Blk V (w.heap.size + 1) 62 #[.int .i64 (256 * b0 + b1), .int .i64 (256 * b2 + b3), .int .i64 (256 * b4 + b5), .int .i64 (256 * b6 + b7), .int .i64 (b8)] ∧ Below w.heap.size w V) ⟨hS, hE⟩ ?_
      intro V ⟨hV, hVE⟩
      exact bodyPost_ret (v := .tuple #[.agg #[.int .i64 (256 * b0 + b1), .int .i64 (256 * b2 + b3), .int .i64 (256 * b4 + b5), .int .i64 (256 * b6 + b7), .int .i64 (b8)], .int .i64 0]) (by simp [results, Try.results27, go_sem, Blk.cell hV 0 (v := .int .i64 (256 * b0 + b1)) rfl, Blk.cell hV 1 (v := .int .i64 (256 * b2 + b3)) rfl, Blk.cell hV 2 (v := .int .i64 (256 * b4 + b5)) rfl, Blk.cell hV 3 (v := .int .i64 (256 * b6 + b7)) rfl, Blk.cell hV 4 (v := .int .i64 (b8)) rfl]) rfl ⟨rfl, hVE⟩
end Go.Proofs.Ytbceakdifklocaa.DsZ
