/- Places: pair, both ReadPlace, the document's MakePlace. -/
import Derived.Test.YtbceakdifklocaaDsX
namespace Go.Proofs.Ytbceakdifklocaa.DsY
open Go.RowKit Go.Proofs.Ytbceakdifklocaa.Q Go.Proofs.Ytbceakdifklocaa.Mem Go.Proofs.Ytbceakdifklocaa.DsA Go.Proofs.Ytbceakdifklocaa.DsB Go.Proofs.Ytbceakdifklocaa.DsC Go.Proofs.Ytbceakdifklocaa.DsD Go.Proofs.Ytbceakdifklocaa.DsE Go.Proofs.Ytbceakdifklocaa.DsF Go.Proofs.Ytbceakdifklocaa.DsI Go.Proofs.Ytbceakdifklocaa.DsK Go.Proofs.Ytbceakdifklocaa.Rg Go.Proofs.Ytbceakdifklocaa.Ap

theorem or8 (a b : Int) (ha : 0 ≤ a ∧ a ≤ 255) (hb : 0 ≤ b ∧ b ≤ 255) : bits .or .i64 (a * 256) b = a * 256 + b := by
  obtain ⟨m, rfl⟩ : ∃ m : Nat, a = m := ⟨a.toNat, by omega⟩
  obtain ⟨n, rfl⟩ : ∃ n : Nat, b = n := ⟨b.toNat, by omega⟩
  have hm : m < 256 := by omega
  have hn : n < 256 := by omega
  have := (bits_nat .i64 16 (by decide) (fun n h1 h2 => by rw [IntKind.wrap_i64]; omega) (m * 256) n (by omega) (by omega)).2
  rw [show ((m * 256 : Nat) : Int) = (m : Int) * 256 by omega] at this
  rw [this]
  have e := Nat.two_pow_add_eq_or_of_lt (i := 8) hn m
  rw [show m * 256 = 2 ^ 8 * m by omega, ← e]
  omega
/-- two bytes as a number -/
def pw (s : ByteArray) (i : Nat) : Int := at' s i * 256 + at' s (i + 1)
set_option maxRecDepth 100000
theorem pair_any (s : ByteArray) (w : World) (h : 2 ≤ s.size) : Calls Try.prog 49 #[.string s] w fun e w' => e = .returned (.int .i64 (pw s 0)) ∧ Below w.heap.size w w' := by
  have i0 : ∀ V : World, (Instr.index 9 (.string s) (.int .i64 0)).run Try.prog V = .ok (.int .u8 (at' s 0)) V := fun V => idx_at s 0 (by omega) V
  have i1 : ∀ V : World, (Instr.index 9 (.string s) (.int .i64 1)).run Try.prog V = .ok (.int .u8 (at' s 1)) V := fun V => idx_at s 1 (by omega) V
  have r0 := at_range s 0
  have r1 := at_range s 1
  have HR := Lib.hid (show pw s 0 = at' s 0 * 256 + at' s 1 from rfl)
  obtain ⟨a, ha⟩ : ∃ a, at' s 0 = a := ⟨_, rfl⟩
  obtain ⟨b, hb⟩ : ∃ b, at' s 1 = b := ⟨_, rfl⟩
  rw [ha] at i0 r0
  rw [hb] at i1 r1
  rw [ha, hb] at HR
  have q1 : IntKind.i64.wrap a = a := by rw [IntKind.wrap_i64]; omega
  have q2 : IntKind.i64.wrap b = b := by rw [IntKind.wrap_i64]; omega
  have q3 : IntKind.i64.wrap (a * 256) = a * 256 := by rw [IntKind.wrap_i64]; omega
  have q4 := or8 a b r0 r1
  clear ha hb h r0 r1
  go_enter Try.func49, Try.ntmps49
  go_wp2_with fail
  refine Go.Proofs.Ytbceakdifklocaa.Q.region_ext (by kernel_rfl) (by kernel_rfl) ?_
  repeat (go_big_quiet_step (fail))
  refine wpQuiet_nil ?_
  rintro w9 ⟨pq, rfl⟩
  have hb := below_ext w pq
  clear i0 i1
  go_wp2_with fail
  go_ret
  exact ⟨by rw [HR.out]; rfl, hb⟩
theorem at_extract (s : ByteArray) (i j n : Nat) (hn : n ≤ s.size) (h : i + j < n) : at' (s.extract i n) j = at' s (i + j) := by
  unfold at'
  rw [ByteArray.data_extract, Array.getElem?_extract]
  rw [if_pos (by have : n ≤ s.data.size := hn; omega)]
theorem pw_extract (s : ByteArray) (i n : Nat) (hn : n ≤ s.size) (h : i + 2 ≤ n) : pw (s.extract i n) 0 = pw s i := by
  unfold pw
  rw [at_extract s i 0 n hn (by omega), at_extract s i 1 n hn (by omega)]
  rfl
def plE (d : Dc) : Int := if d.tag ≠ 19 then 14 else if d.body.size < 9 then 10 else if 9 < d.body.size then 11 else 0
def zeroPl : Pl := ⟨0, 0, 0, 0, 0⟩
def plR (d : Dc) : Pl := if plE d = 0 then ⟨pw d.body 0, pw d.body 2, pw d.body 4, pw d.body 6, at' d.body 8⟩ else zeroPl
theorem plR_bad (d : Dc) (h : plE d ≠ 0) : plR d = zeroPl := by unfold plR; rw [if_neg h]
theorem rplace_any (d : Dc) (w : World) : Calls Try.prog 26 #[.agg #[.int .i64 d.tag, .string d.body]] w fun e w' => e = .returned (.tuple #[.agg (plR d).vals, .int .i64 (plE d)]) ∧ Below w.heap.size w w' := by
  by_cases h1 : d.tag ≠ 19
  · have hE : plE d = 14 := by simp [plE, h1]
    have hR := plR_bad d (by rw [hE]; decide)
    rw [hE, hR]
    have t1 : (d.tag != 19) = true := by simpa using h1
    clear h1 hE hR
    go_enter Try.func26, Try.ntmps26
    go_wp2_with fail
    exact bodyPost_ret (v := .tuple #[.agg zeroPl.vals, .int .i64 14]) (by simp [results, Try.results26, go_sem, zeroPl, Pl.vals]) rfl ⟨rfl, alloc2 _ _ _⟩
  have t1 : (d.tag != 19) = false := by simpa using h1
  by_cases h2 : d.body.size < 9
  · have hE : plE d = 10 := by simp only [plE, if_neg h1, if_pos h2]
    have hR := plR_bad d (by rw [hE]; decide)
    rw [hE, hR]
    have t2 : decide ((d.body.size : Int) < 9) = true := by simp; omega
    clear h1 h2 hE hR
    go_enter Try.func26, Try.ntmps26
    go_wp2_with fail
    exact bodyPost_ret (v := .tuple #[.agg zeroPl.vals, .int .i64 10]) (by simp [results, Try.results26, go_sem, zeroPl, Pl.vals]) rfl ⟨rfl, alloc2 _ _ _⟩
  have t2 : decide ((d.body.size : Int) < 9) = false := by simp; omega
  by_cases h3 : 9 < d.body.size
  · have hE : plE d = 11 := by simp only [plE, if_neg h1, if_neg h2, if_pos h3]
    have hR := plR_bad d (by rw [hE]; decide)
    rw [hE, hR]
    have t3 : decide (9 < (d.body.size : Int)) = true := by simp; omega
    clear h1 h2 h3 hE hR
    go_enter Try.func26, Try.ntmps26
    go_wp2_with fail
    exact bodyPost_ret (v := .tuple #[.agg zeroPl.vals, .int .i64 11]) (by simp [results, Try.results26, go_sem, zeroPl, Pl.vals]) rfl ⟨rfl, alloc2 _ _ _⟩
  have t3 : decide (9 < (d.body.size : Int)) = false := by simp; omega
  have hE : plE d = 0 := by simp only [plE, if_neg h1, if_neg h2, if_neg h3]
  have hR : plR d = ⟨pw d.body 0, pw d.body 2, pw d.body 4, pw d.body 6, at' d.body 8⟩ := by simp [plR, hE]
  rw [hE, hR]
  have i8 : ∀ V : World, (Instr.index 9 (.string d.body) (.int .i64 8)).run Try.prog V = .ok (.int .u8 (at' d.body 8)) V := fun V => idx_at d.body 8 (by omega) V
  have r8 := at_range d.body 8
  have q8 : IntKind.i64.wrap (at' d.body 8) = at' d.body 8 := by rw [IntKind.wrap_i64]; omega
  have k0 := fun V => pair_any d.body V (by omega)
  have k2 := fun V => pair_any (d.body.extract 2 d.body.size) V (by rw [ByteArray.size_extract]; omega)
  have k4 := fun V => pair_any (d.body.extract 4 d.body.size) V (by rw [ByteArray.size_extract]; omega)
  have k6 := fun V => pair_any (d.body.extract 6 d.body.size) V (by rw [ByteArray.size_extract]; omega)
  rw [pw_extract d.body 2 _ (Nat.le_refl _) (by omega)] at k2
  rw [pw_extract d.body 4 _ (Nat.le_refl _) (by omega)] at k4
  rw [pw_extract d.body 6 _ (Nat.le_refl _) (by omega)] at k6
  have hb := bk2 w 30 26 #[.int .i64 d.tag, .string d.body] #[.int .i64 0, .int .i64 0, .int .i64 0, .int .i64 0, .int .i64 0]
  have s2 : (2 : Int) ≤ d.body.size := by omega
  have s4 : (4 : Int) ≤ d.body.size := by omega
  have s6 : (6 : Int) ≤ d.body.size := by omega
  have HB := Lib.hid hb
  obtain ⟨x0, e0⟩ : ∃ x, pw d.body 0 = x := ⟨_, rfl⟩
  obtain ⟨x2, e2⟩ : ∃ x, pw d.body 2 = x := ⟨_, rfl⟩
  obtain ⟨x4, e4⟩ : ∃ x, pw d.body 4 = x := ⟨_, rfl⟩
  obtain ⟨x6, e6⟩ : ∃ x, pw d.body 6 = x := ⟨_, rfl⟩
  obtain ⟨x8, e8⟩ : ∃ x, at' d.body 8 = x := ⟨_, rfl⟩
  rw [e0] at k0 ⊢
  rw [e2] at k2 ⊢
  rw [e4] at k4 ⊢
  rw [e6] at k6 ⊢
  rw [e8] at i8 q8 ⊢
  clear h1 h2 h3 hE hR r8 e0 e2 e4 e6 e8 hb
  go_enter Try.func26, Try.ntmps26
  go_wp2_with fail
  clear t1 t2 t3
  refine Go.Proofs.Ytbceakdifklocaa.Rg.region_new [(1, val (.int .i64 x0)), (4, val (.int .i64 x2)), (7, val (.int .i64 x4)), (10, val (.int .i64 x6))] 15 (by kernel_rfl) (by kernel_rfl) (by kernel_rfl) (lk_cons val_inh (lk_cons val_inh (lk_cons val_inh (lk_cons val_inh lk_nil)))) (lk_cons val_mono (lk_cons val_mono (lk_cons val_mono (lk_cons val_mono lk_nil)))) ?_
  intro σ hσ
  simp only [List.take_succ_cons, List.take_zero, List.drop_succ_cons, List.drop_zero]
  have hs1 : σ 1 = .int .i64 x0 := hσ 1 _ rfl
  have hs4 : σ 4 = .int .i64 x2 := hσ 4 _ rfl
  have hs7 : σ 7 = .int .i64 x4 := hσ 7 _ rfl
  have hs10 : σ 10 = .int .i64 x6 := hσ 10 _ rfl
  refine Go.Proofs.Ytbceakdifklocaa.Rg.wpN_take 1 (by kernel_rfl) (by kernel_rfl) (by kernel_rfl) ?_
  simp only [List.take_succ_cons, List.take_zero, List.drop_succ_cons, List.drop_zero]
  repeat (go_big_quiet_step (fail))
  refine wpQuiet_nil ?_
  refine wpN_sp _ rfl (by kernel_rfl) (spAt_val (f := 49) (args := #[.string d.body]) (by intro w0; go_simp) (fun p _ => k0 _)) ?_
  simp only [Act.put, List.setIfInBounds_toArray, List.set_cons_zero, List.set_cons_succ]
  rw [hs1]
  refine Go.Proofs.Ytbceakdifklocaa.Rg.wpN_take 2 (by kernel_rfl) (by kernel_rfl) (by kernel_rfl) ?_
  simp only [List.take_succ_cons, List.take_zero, List.drop_succ_cons, List.drop_zero]
  repeat (go_big_quiet_step (fail))
  refine wpQuiet_nil ?_
  refine wpN_sp _ rfl (by kernel_rfl) (spAt_val (f := 49) (args := #[.string (d.body.extract 2 d.body.size)]) (by intro w0; go_simp) (fun p _ => k2 _)) ?_
  simp only [Act.put, List.setIfInBounds_toArray, List.set_cons_zero, List.set_cons_succ]
  rw [hs4]
  refine Go.Proofs.Ytbceakdifklocaa.Rg.wpN_take 2 (by kernel_rfl) (by kernel_rfl) (by kernel_rfl) ?_
  simp only [List.take_succ_cons, List.take_zero, List.drop_succ_cons, List.drop_zero]
  repeat (go_big_quiet_step (fail))
  refine wpQuiet_nil ?_
  refine wpN_sp _ rfl (by kernel_rfl) (spAt_val (f := 49) (args := #[.string (d.body.extract 4 d.body.size)]) (by intro w0; go_simp) (fun p _ => k4 _)) ?_
  simp only [Act.put, List.setIfInBounds_toArray, List.set_cons_zero, List.set_cons_succ]
  rw [hs7]
  refine Go.Proofs.Ytbceakdifklocaa.Rg.wpN_take 2 (by kernel_rfl) (by kernel_rfl) (by kernel_rfl) ?_
  simp only [List.take_succ_cons, List.take_zero, List.drop_succ_cons, List.drop_zero]
  repeat (go_big_quiet_step (fail))
  refine wpQuiet_nil ?_
  refine wpN_sp _ rfl (by kernel_rfl) (spAt_val (f := 49) (args := #[.string (d.body.extract 6 d.body.size)]) (by intro w0; go_simp) (fun p _ => k6 _)) ?_
  simp only [Act.put, List.setIfInBounds_toArray, List.set_cons_zero, List.set_cons_succ]
  rw [hs10]
  refine Go.Proofs.Ytbceakdifklocaa.Rg.wpN_take 4 (by kernel_rfl) (by kernel_rfl) (by kernel_rfl) ?_
  simp only [List.take_succ_cons, List.take_zero, List.drop_succ_cons, List.drop_zero]
  repeat (go_big_quiet_step (fail))
  refine wpQuiet_nil ?_
  refine wpN_nil ?_
  rintro w9 ⟨pq, rfl⟩ _
  refine wpList_store_blk (cs' := #[.int .i64 x0, .int .i64 x2, .int .i64 x4, .int .i64 x6, .int .i64 x8]) rfl 26 _ _ rfl rfl rfl ((HB.out.px pq).nth 0 rfl) rfl rfl (by kernel_rfl) (by kernel_rfl) ?_
  intro V hV hgr hsz
  have hEnd : Below w.heap.size w V := (HB.out.px pq).be.trans (below_of_only hgr ((HB.out.px pq).size) (fun k hk => by injection hk with hk; omega))
  clear hσ hs1 hs4 hs7 hs10 k0 k2 k4 k6 i8 q8 s2 s4 s6 hgr hsz
  go_wp2_with fail
  exact bodyPost_ret (v := .tuple #[.agg #[.int .i64 x0, .int .i64 x2, .int .i64 x4, .int .i64 x6, .int .i64 x8], .int .i64 0]) (by simp [results, Try.results26, go_sem, Blk.cell hV 0 (v := .int .i64 x0) rfl, Blk.cell hV 1 (v := .int .i64 x2) rfl, Blk.cell hV 2 (v := .int .i64 x4) rfl, Blk.cell hV 3 (v := .int .i64 x6) rfl, Blk.cell hV 4 (v := .int .i64 x8) rfl]) rfl ⟨rfl, hEnd⟩
end Go.Proofs.Ytbceakdifklocaa.DsY
