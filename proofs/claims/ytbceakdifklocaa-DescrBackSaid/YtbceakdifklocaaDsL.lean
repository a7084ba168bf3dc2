/- The document's ReadSlice, where it serves. -/
import Derived.Test.YtbceakdifklocaaDsK
namespace Go.Proofs.Ytbceakdifklocaa.DsL
open Go.RowKit Go.Proofs.Ytbceakdifklocaa.Q Go.Proofs.Ytbceakdifklocaa.Mem Go.Proofs.Ytbceakdifklocaa.DsA Go.Proofs.Ytbceakdifklocaa.DsB Go.Proofs.Ytbceakdifklocaa.DsC Go.Proofs.Ytbceakdifklocaa.DsD Go.Proofs.Ytbceakdifklocaa.DsE Go.Proofs.Ytbceakdifklocaa.DsApart Go.Proofs.Ytbceakdifklocaa.DsI Go.Proofs.Ytbceakdifklocaa.DsJ Go.Proofs.Ytbceakdifklocaa.DsK

set_option maxRecDepth 100000
theorem row7 {w W : World} {B g : Nat} {T : TypeId} {u0 u1 u2 u3 u4 u5 u6 v0 v1 v2 v3 v4 v5 v6 : Value} (h : Blk W g T #[u0, u1, u2, u3, u4, u5, u6]) (hb : Below B w W) (hg : B ≤ g) :
    Blk (((((((W.setCell ⟨g, 0, none⟩ v0).setCell ⟨g, 1, none⟩ v1).setCell ⟨g, 2, none⟩ v2).setCell ⟨g, 3, none⟩ v3).setCell ⟨g, 4, none⟩ v4).setCell ⟨g, 5, none⟩ v5).setCell ⟨g, 6, none⟩ v6) g T #[v0, v1, v2, v3, v4, v5, v6] ∧
    Below B w (((((((W.setCell ⟨g, 0, none⟩ v0).setCell ⟨g, 1, none⟩ v1).setCell ⟨g, 2, none⟩ v2).setCell ⟨g, 3, none⟩ v3).setCell ⟨g, 4, none⟩ v4).setCell ⟨g, 5, none⟩ v5).setCell ⟨g, 6, none⟩ v6) := by
  have h0 : Blk (W.setCell ⟨g, 0, none⟩ v0) g T #[v0, u1, u2, u3, u4, u5, u6] := Blk.set_ h 0 v0
  have h1 : Blk ((W.setCell ⟨g, 0, none⟩ v0).setCell ⟨g, 1, none⟩ v1) g T #[v0, v1, u2, u3, u4, u5, u6] := Blk.set_ h0 1 v1
  have h2 : Blk (((W.setCell ⟨g, 0, none⟩ v0).setCell ⟨g, 1, none⟩ v1).setCell ⟨g, 2, none⟩ v2) g T #[v0, v1, v2, u3, u4, u5, u6] := Blk.set_ h1 2 v2
  have h3 : Blk ((((W.setCell ⟨g, 0, none⟩ v0).setCell ⟨g, 1, none⟩ v1).setCell ⟨g, 2, none⟩ v2).setCell ⟨g, 3, none⟩ v3) g T #[v0, v1, v2, v3, u4, u5, u6] := Blk.set_ h2 3 v3
  have h4 : Blk (((((W.setCell ⟨g, 0, none⟩ v0).setCell ⟨g, 1, none⟩ v1).setCell ⟨g, 2, none⟩ v2).setCell ⟨g, 3, none⟩ v3).setCell ⟨g, 4, none⟩ v4) g T #[v0, v1, v2, v3, v4, u5, u6] := Blk.set_ h3 4 v4
  have h5 : Blk ((((((W.setCell ⟨g, 0, none⟩ v0).setCell ⟨g, 1, none⟩ v1).setCell ⟨g, 2, none⟩ v2).setCell ⟨g, 3, none⟩ v3).setCell ⟨g, 4, none⟩ v4).setCell ⟨g, 5, none⟩ v5) g T #[v0, v1, v2, v3, v4, v5, u6] := Blk.set_ h4 5 v5
  have h6 : Blk (((((((W.setCell ⟨g, 0, none⟩ v0).setCell ⟨g, 1, none⟩ v1).setCell ⟨g, 2, none⟩ v2).setCell ⟨g, 3, none⟩ v3).setCell ⟨g, 4, none⟩ v4).setCell ⟨g, 5, none⟩ v5).setCell ⟨g, 6, none⟩ v6) g T #[v0, v1, v2, v3, v4, v5, v6] := Blk.set_ h5 6 v6
  exact ⟨h6,
   ((((((hb.setCell (p := ⟨g, 0, none⟩) hg v0).setCell (p := ⟨g, 1, none⟩) hg v1).setCell (p := ⟨g, 2, none⟩) hg v2).setCell (p := ⟨g, 3, none⟩) hg v3).setCell (p := ⟨g, 4, none⟩) hg v4).setCell (p := ⟨g, 5, none⟩) hg v5).setCell (p := ⟨g, 6, none⟩) hg v6⟩
set_option maxHeartbeats 1600000 in
theorem rread_ok (d : Dc) (w : World) (h : ¬ d.tag ≠ 119) (h2 : ¬ d.body.size < 3) (h3 : bad d.body = false) :
    Calls Try.prog 15 #[.agg #[.int .i64 d.tag, .string d.body]] w fun e w' => e = .returned (.tuple #[.agg (rd d.body).vals, .int .i64 0]) ∧ Below w.heap.size w w' := by
  have t1 : (d.tag != 119) = false := by simpa using h
  have t2 : decide ((d.body.size : Int) < 3) = false := by simp; omega
  have i0 : ∀ V : World, (Instr.index 9 (.string d.body) (.int .i64 0)).run Try.prog V = .ok (.int .u8 (at' d.body 0)) V := fun V => idx_at d.body 0 (by omega) V
  have i1 : ∀ V : World, (Instr.index 9 (.string d.body) (.int .i64 1)).run Try.prog V = .ok (.int .u8 (at' d.body 1)) V := fun V => idx_at d.body 1 (by omega) V
  have i2 : ∀ V : World, (Instr.index 9 (.string d.body) (.int .i64 2)).run Try.prog V = .ok (.int .u8 (at' d.body 2)) V := fun V => idx_at d.body 2 (by omega) V
  have hb : Blk ((w.alloc (.cells #[.int .i64 d.tag, .string d.body] 35)).alloc (.cells zeroSl.vals 38)) w.heap.size 35 #[.int .i64 d.tag, .string d.body] := Blk.alloc (Blk.new w _ _) _
  have hd : Blk ((w.alloc (.cells #[.int .i64 d.tag, .string d.body] 35)).alloc (.cells zeroSl.vals 38)) (w.heap.size + 1) 38 zeroSl.vals := Blk.newAt _ _ _ (by simp)
  have hbe := alloc2 w (.cells #[.int .i64 d.tag, .string d.body] 35) (.cells zeroSl.vals 38)
  have hz : zeroSl.vals = #[.bool false, .bool false, .int .i64 0, .int .i64 0, .int .i64 0, .int .i64 0, .string { data := #[] }] := rfl
  rw [hz] at hb hd hbe
  have f1 := fun p => Blk.cell (blk_ext hb p) 1 (v := .string d.body) rfl
  have hrd : rd d.body = ⟨decide (at' d.body 0 / 128 = 1), decide (at' d.body 0 / 32 % 2 = 1), 256 * (at' d.body 0 % 8 + 1), at' d.body 1, at' d.body 2 / 16, at' d.body 2 % 16, d.body.extract 3 d.body.size⟩ := rfl
  rw [hrd]
  have r0 := at_range d.body 0
  have r1 := at_range d.body 1
  have r2 := at_range d.body 2
  unfold bad at h3
  obtain ⟨a, ha⟩ : ∃ a, at' d.body 0 = a := ⟨_, rfl⟩
  obtain ⟨b, hbb⟩ : ∃ b, at' d.body 1 = b := ⟨_, rfl⟩
  obtain ⟨c, hc⟩ : ∃ c, at' d.body 2 = c := ⟨_, rfl⟩
  rw [ha] at i0 r0 h3
  rw [hbb] at i1 r1
  rw [hc] at i2 r2
  rw [ha, hbb, hc]
  simp only [Bool.or_eq_false_iff, decide_eq_false_iff_not] at h3
  obtain ⟨⟨⟨g1, g2⟩, g3⟩, g4⟩ := h3
  have u1 : decide (255 < (d.body.size : Int)) = false := by simp; omega
  have u2 : (a / 64 % 2 == 1) = false := by simpa using g2
  have u3 : (a / 8 % 4 != 3) = false := by simpa using g3
  have u4 : decide (3 < a % 8) = false := by simp; omega
  have q1 : IntKind.i64.wrap a = a := by rw [IntKind.wrap_i64]; omega
  have q2 : IntKind.i64.wrap b = b := by rw [IntKind.wrap_i64]; omega
  have q3 : IntKind.i64.wrap c = c := by rw [IntKind.wrap_i64]; omega
  have p1 : IntKind.i64.wrap (a.tdiv 128) = a / 128 := by rw [Int.tdiv_eq_ediv_of_nonneg (by omega), IntKind.wrap_i64]; omega
  have p2 : IntKind.i64.wrap (a.tdiv 32) = a / 32 := by rw [Int.tdiv_eq_ediv_of_nonneg (by omega), IntKind.wrap_i64]; omega
  have p3 : IntKind.i64.wrap ((a / 32).tmod 2) = a / 32 % 2 := by rw [Int.tmod_eq_emod_of_nonneg (by omega), IntKind.wrap_i64]; omega
  have p4 : IntKind.i64.wrap (a.tmod 8) = a % 8 := by rw [Int.tmod_eq_emod_of_nonneg (by omega), IntKind.wrap_i64]; omega
  have p5 : IntKind.i64.wrap (a % 8 + 1) = a % 8 + 1 := by rw [IntKind.wrap_i64]; omega
  have p6 : IntKind.i64.wrap (256 * (a % 8 + 1)) = 256 * (a % 8 + 1) := by rw [IntKind.wrap_i64]; omega
  have p7 : IntKind.i64.wrap (c.tdiv 16) = c / 16 := by rw [Int.tdiv_eq_ediv_of_nonneg (by omega), IntKind.wrap_i64]; omega
  have p8 : IntKind.i64.wrap (c.tmod 16) = c % 16 := by rw [Int.tmod_eq_emod_of_nonneg (by omega), IntKind.wrap_i64]; omega
  have e1 : (a / 128 == 1) = decide (a / 128 = 1) := by by_cases h : a / 128 = 1 <;> simp [h]
  have e2 : (a / 32 % 2 == 1) = decide (a / 32 % 2 = 1) := by by_cases h : a / 32 % 2 = 1 <;> simp [h]
  have HD := Lib.hid hd
  have HBE := Lib.hid hbe
  have HR := Lib.hid (And.intro r0 (And.intro r1 r2))
  have hs3 : (3 : Int) ≤ d.body.size := by omega
  clear h h2 g1 g2 g3 g4 ha hbb hc hd hbe hrd hb hz
  go_enter Try.func15, Try.ntmps15
  go_wp2_with fail
  refine Go.Proofs.Ytbceakdifklocaa.Q.region_ext_tail 29 (by kernel_rfl) (by kernel_rfl) ?_
  simp only [List.take_succ_cons, List.take_zero, List.drop_succ_cons, List.drop_zero]
  repeat (go_big_quiet_step (fail))
  refine wpQuiet_nil ?_
  rintro w9 ⟨pq, rfl⟩
  have hD := blk_ext HD.out pq
  have hB := HBE.out.trans ((below_ext _ pq).mono HBE.out.size)
  have g0 := Blk.cell hD 0 (v := .bool false) rfl
  have z0 := Blk.frozen hD 0
  have g1 := Blk.cell hD 1 (v := .bool false) rfl
  have z1 := Blk.frozen hD 1
  have g2 := Blk.cell hD 2 (v := .int .i64 0) rfl
  have z2 := Blk.frozen hD 2
  have g3 := Blk.cell hD 3 (v := .int .i64 0) rfl
  have z3 := Blk.frozen hD 3
  have g4 := Blk.cell hD 4 (v := .int .i64 0) rfl
  have z4 := Blk.frozen hD 4
  have g5 := Blk.cell hD 5 (v := .int .i64 0) rfl
  have z5 := Blk.frozen hD 5
  have g6 := Blk.cell hD 6 (v := .string { data := #[] }) rfl
  have z6 := Blk.frozen hD 6
  have HDD := Lib.hid hD
  have HBB := Lib.hid hB
  clear hD hB f1 i0 i1 i2 p1 p2 p3 p4 p5 p6 p7 p8 q1 q2 q3 e1 e2 t1 t2 u1 u2 u3 u4
  go_wp2_with fail
  clear g0 g1 g2 g3 g4 g5 g6 z0 z1 z2 z3 z4 z5 z6
  obtain ⟨hS, hE⟩ := row7 (v0 := (.bool (decide (a / 128 = 1)))) (v1 := (.bool (decide (a / 32 % 2 = 1)))) (v2 := (.int .i64 (256 * (a % 8 + 1)))) (v3 := (.int .i64 b)) (v4 := (.int .i64 (c / 16))) (v5 := (.int .i64 (c % 16))) (v6 := (.string (d.body.extract 3 d.body.size))) HDD.out HBB.out (by omega)
  exact bodyPost_ret (v := .tuple #[.agg #[(.bool (decide (a / 128 = 1))), (.bool (decide (a / 32 % 2 = 1))), (.int .i64 (256 * (a % 8 + 1))), (.int .i64 b), (.int .i64 (c / 16)), (.int .i64 (c % 16)), (.string (d.body.extract 3 d.body.size))], .int .i64 0]) (by simp [results, Try.results15, go_sem, Blk.cell hS 0 (v := (.bool (decide (a / 128 = 1)))) rfl, Blk.cell hS 1 (v := (.bool (decide (a / 32 % 2 = 1)))) rfl, Blk.cell hS 2 (v := (.int .i64 (256 * (a % 8 + 1)))) rfl, Blk.cell hS 3 (v := (.int .i64 b)) rfl, Blk.cell hS 4 (v := (.int .i64 (c / 16))) rfl, Blk.cell hS 5 (v := (.int .i64 (c % 16))) rfl, Blk.cell hS 6 (v := (.string (d.body.extract 3 d.body.size))) rfl]) rfl ⟨rfl, hE⟩
end Go.Proofs.Ytbceakdifklocaa.DsL
