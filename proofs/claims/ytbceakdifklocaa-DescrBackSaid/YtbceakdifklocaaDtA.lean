/- Places: the document's MakePlace. -/
import Derived.Test.YtbceakdifklocaaDsZ
namespace Go.Proofs.Ytbceakdifklocaa.DtA
open Go.RowKit Go.Proofs.Ytbceakdifklocaa.Q Go.Proofs.Ytbceakdifklocaa.Mem Go.Proofs.Ytbceakdifklocaa.DsA Go.Proofs.Ytbceakdifklocaa.DsB Go.Proofs.Ytbceakdifklocaa.DsC Go.Proofs.Ytbceakdifklocaa.DsD Go.Proofs.Ytbceakdifklocaa.DsE Go.Proofs.Ytbceakdifklocaa.DsF Go.Proofs.Ytbceakdifklocaa.DsI Go.Proofs.Ytbceakdifklocaa.DsK Go.Proofs.Ytbceakdifklocaa.DsY Go.Proofs.Ytbceakdifklocaa.DsZ Go.Proofs.Ytbceakdifklocaa.Rg Go.Proofs.Ytbceakdifklocaa.Ap
theorem pl_bad {x : Pl} (h : inB 65535 x.four = false ∨ in1 255 x.t = false) : x.makeE = 15 ∧ plD x = ⟨0, nob⟩ := by
  have : x.makeE = 15 := by
    unfold Pl.makeE
    rcases h with h | h <;> simp [h]
  exact ⟨this, by unfold plD; rw [this]; rfl⟩
set_option maxRecDepth 100000
set_option maxHeartbeats 1600000 in
theorem rmplace_any (x : Pl) (w : World) : Calls Try.prog 25 #[.agg x.vals] w fun e w' => e = .returned (.tuple #[.agg #[.int .i64 (plD x).tag, .string (plD x).body], .int .i64 x.makeE]) ∧ Below w.heap.size w w' := by
  have hb := bk2 w 62 35 x.vals #[.int .i64 0, .string { data := #[] }]
  have hbad := @pl_bad x
  have hgood : inB 65535 x.four = true → in1 255 x.t = true → x.makeE = 0 ∧ plD x = ⟨19, x.body⟩ := fun h1 h2 => by
    have : x.makeE = 0 := by unfold Pl.makeE; rw [h1, h2]; rfl
    exact ⟨this, by unfold plD; rw [this]; rfl⟩
  obtain ⟨n, o, s, v, t⟩ := x
  unfold Pl.vals at hb ⊢
  dsimp only [Pl.four] at hb hbad hgood ⊢
  have HBAD := Lib.hid hbad
  have HGOOD := Lib.hid hgood
  have HB0 := Lib.hid hb
  clear hb hbad hgood
  go_enter Try.func25, Try.ntmps25
  go_wp2_with fail
  go_loopw [4, 5] (fun bd i wr => ∃ (k : Nat) (b : ByteArray), k ≤ 4 ∧ bd = .string b ∧ i = .int .i64 k ∧ Hid (b = strOfNums (twos ([n, o, s, v].take k)) ∧ inB 65535 ([n, o, s, v].take k) = true) ∧ b.size ≤ 2 * k ∧ Bk w wr [(w.heap.size + 1, 35, #[.int .i64 0, .string { data := #[] }]), (w.heap.size, 62, #[.int .i64 n, .int .i64 o, .int .i64 s, .int .i64 v, .int .i64 t])]) (fun _ i _ => 4 - (intOf i).toNat)
  case atStart => exact ⟨0, nob, by omega, rfl, rfl, Lib.hid ⟨rfl, rfl⟩, by decide, HB0.out⟩
  case round =>
    clear HB0
    obtain ⟨k, b, hk, rfl, rfl, hI, hbs, hB⟩ := hrel
    by_cases hk4 : k < 4
    · have t0 : decide ((k : Int) < 4) = true := by simp; omega
      obtain ⟨y, hy, hc⟩ : ∃ y, [n, o, s, v][k]? = some y ∧ (#[.int .i64 n, .int .i64 o, .int .i64 s, .int .i64 v, .int .i64 t] : Array Value)[k]? = some (.int .i64 y) := by
        rcases (show k = 0 ∨ k = 1 ∨ k = 2 ∨ k = 3 by omega) with rfl | rfl | rfl | rfl <;> exact ⟨_, rfl, rfl⟩
      have c := Blk.cell (hB.nth 1 rfl) k hc
      have hk0 : (0 : Int) ≤ (k : Int) := Int.natCast_nonneg _
      have hk5 : (k : Int) < 5 := by omega
      have kr := fun V => rin_any y 65535 V
      have HB := Lib.hid hB
      cases hin : in1 65535 y with
      | false =>
        have hall : inB 65535 [n, o, s, v] = false := by
          cases h : inB 65535 [n, o, s, v] with
          | false => rfl
          | true => have := List.all_eq_true.1 h y (List.mem_of_getElem? hy); rw [hin] at this; cases this
        have HE := Lib.hid (HBAD.out (Or.inl hall))
        rw [hin] at kr
        have z0 := Blk.cell (hB.nth 0 rfl) 0 (v := .int .i64 0) rfl
        have z1 := Blk.cell (hB.nth 0 rfl) 1 (v := .string { data := #[] }) rfl
        have zf0 := Blk.frozen (hB.nth 0 rfl) 0
        have zf1 := Blk.frozen (hB.nth 0 rfl) 1
        clear hin hall hB hc hy
        go_wp2_with fail
        (with_reducible refine (kr _).mono ?_); rintro e1 W1 ⟨rfl, rfl⟩
        clear kr
        go_wp2_with fail
        have hS := (row_set [.int .i64 0, .string { data := #[] }] (HB.out.nth 0 rfl)).1
        have hE := below_setCells (Nat.le_succ w.heap.size) [.int .i64 0, .string { data := #[] }] 0 w _ HB.out.be
        refine bp_gen (fun V => Blk V (w.heap.size + 1) 35 #[.int .i64 0, .string { data := #[] }] ∧ Below w.heap.size w V) ⟨hS, hE⟩ ?_
        intro V ⟨hV, hVE⟩
        rw [HE.out.1, HE.out.2]
        exact bodyPost_ret (v := .tuple #[.agg #[.int .i64 0, .string { data := #[] }], .int .i64 15]) (by simp [results, Try.results25, go_sem, Blk.cell hV 0 (v := .int .i64 0) rfl, Blk.cell hV 1 (v := .string { data := #[] }) rfl]) rfl ⟨rfl, hVE⟩
      | true =>
        have hyr : 0 ≤ y ∧ y ≤ 65535 := by simpa [in1] using hin
        rw [hin] at kr
        have q1 : IntKind.i64.wrap (y.tdiv 256) = y / 256 := by rw [Int.tdiv_eq_ediv_of_nonneg (by omega), IntKind.wrap_i64]; omega
        have q2 : IntKind.i64.wrap (y.tmod 256) = y % 256 := by rw [Int.tmod_eq_emod_of_nonneg (by omega), IntKind.wrap_i64]; omega
        have hnew : b ++ strOfNums [y / 256, y % 256] = strOfNums (twos ([n, o, s, v].take (k + 1))) := by
          rw [hI.out.1, son_append, List.take_add_one, hy]
          simp [twos]
        have hin2 : inB 65535 ([n, o, s, v].take (k + 1)) = true := by
          rw [List.take_add_one, hy]; unfold inB; rw [List.all_append]; have := hI.out.2; unfold inB at this; rw [this]; simp [hin]
        have HN := Lib.hid (And.intro hnew hin2)
        have hbs2 : (b ++ strOfNums [y / 256, y % 256]).size ≤ 2 * (k + 1) := by rw [ByteArray.size_append, strOfNums_size]; simp only [List.length_cons, List.length_nil]; omega
        have hadd : ∀ U : World, (Op.stringOp .add b (strOfNums [y / 256, y % 256])).run Try.prog U = .ok (.string (b ++ strOfNums [y / 256, y % 256])) U := fun U => run_string_add_sum U _ _ (by rw [strOfNums_size]; simp only [List.length_cons, List.length_nil]; omega)
        have HTX := Lib.hid (fun V a (h : Ints V a [y / 256, y % 256]) => text_any a 2 2 [y / 256, y % 256] V rfl (by simp) h (by simp [inB, in1]; omega))
        have f := fun p => cell_ext (hB.lt 1 rfl) c p
        clear hnew hin2 hin hy hc hB
        go_wp2_with fail
        (with_reducible refine (kr _).mono ?_); rintro e1 W1 ⟨rfl, rfl⟩
        clear kr
        go_wp2_with fail
        clear c
        refine Go.Proofs.Ytbceakdifklocaa.Rg.region_new_all [(9, newS 2 3 #[.int .i64 (y / 256), .int .i64 (y % 256)] 0), (10, val (.string (strOfNums [y / 256, y % 256])))] (by kernel_rfl) (by kernel_rfl) (by kernel_rfl) (lk_cons newS_inh (lk_cons val_inh lk_nil)) (lk_cons newS_mono (lk_cons val_mono lk_nil)) ?_
        intro σ hσ
        have hσv : σ 10 = .string (strOfNums [y / 256, y % 256]) := hσ 10 _ rfl
        refine Go.Proofs.Ytbceakdifklocaa.Rg.wpN_take 9 (by kernel_rfl) (by kernel_rfl) (by kernel_rfl) ?_
        simp only [List.take_succ_cons, List.take_zero, List.drop_succ_cons, List.drop_zero]
        repeat (go_big_quiet_step (fail))
        refine wpQuiet_nil ?_
        refine wpN_sp _ rfl (by kernel_rfl) (spAt_newS 2 3 #[.int .i64 (y / 256), .int .i64 (y % 256)] (Nat.zero_le _) (by intro w0; go_simp)) ?_
        simp only [Act.put, List.setIfInBounds_toArray, List.set_cons_zero, List.set_cons_succ]
        refine wpN_sp _ rfl (by kernel_rfl) (spAt_val (f := 42) (args := #[σ 9]) (by intro w0; go_simp) (fun p hd => ?_)) ?_
        · obtain ⟨g, hg, _, hblk⟩ := dep_at hd 9 rfl (by kernel_rfl)
          rw [hg]
          exact HTX.out _ _ (ints_blk hblk rfl)
        simp only [Act.put, List.setIfInBounds_toArray, List.set_cons_zero, List.set_cons_succ]
        rw [hσv]
        refine Go.Proofs.Ytbceakdifklocaa.Rg.wpN_take 2 (by kernel_rfl) (by kernel_rfl) (by kernel_rfl) ?_
        simp only [List.take_succ_cons, List.take_zero, List.drop_succ_cons, List.drop_zero]
        repeat (go_big_quiet_step (fail))
        refine wpQuiet_nil ?_
        refine wpN_nil ?_
        rintro w9 ⟨pq, rfl⟩ _
        have hB2 := HB.out.px pq
        clear HB f hadd hσ hσv HTX q1 q2
        go_wp2_with fail
        go_roundw
        case rel => exact ⟨k + 1, _, by omega, rfl, by go_num, HN, hbs2, hB2⟩
        case measure => simp [intOf]; omega
    · obtain rfl : k = 4 := by omega
      have t0 : decide ((4 : Int) < 4) = false := by decide
      have c := Blk.cell (hB.nth 1 rfl) 4 (v := .int .i64 t) rfl
      have z0 := Blk.cell (hB.nth 0 rfl) 0 (v := .int .i64 0) rfl
      have z1 := Blk.cell (hB.nth 0 rfl) 1 (v := .string { data := #[] }) rfl
      have zf0 := Blk.frozen (hB.nth 0 rfl) 0
      have zf1 := Blk.frozen (hB.nth 0 rfl) 1
      have kr := fun V => rin_any t 255 V
      have HB := Lib.hid hB
      cases hin : in1 255 t with
      | false =>
        have HE := Lib.hid (HBAD.out (Or.inr hin))
        rw [hin] at kr
        clear hin hB
        go_wp2_with fail
        (with_reducible refine (kr _).mono ?_); rintro e1 W1 ⟨rfl, rfl⟩
        clear kr
        go_wp2_with fail
        have hS := (row_set [.int .i64 0, .string { data := #[] }] (HB.out.nth 0 rfl)).1
        have hE := below_setCells (Nat.le_succ w.heap.size) [.int .i64 0, .string { data := #[] }] 0 w _ HB.out.be
        refine bp_gen (fun V => Blk V (w.heap.size + 1) 35 #[.int .i64 0, .string { data := #[] }] ∧ Below w.heap.size w V) ⟨hS, hE⟩ ?_
        intro V ⟨hV, hVE⟩
        rw [HE.out.1, HE.out.2]
        exact bodyPost_ret (v := .tuple #[.agg #[.int .i64 0, .string { data := #[] }], .int .i64 15]) (by simp [results, Try.results25, go_sem, Blk.cell hV 0 (v := .int .i64 0) rfl, Blk.cell hV 1 (v := .string { data := #[] }) rfl]) rfl ⟨rfl, hVE⟩
      | true =>
        have hE0 := HGOOD.out hI.out.2 hin
        have HE := Lib.hid hE0
        have htr : 0 ≤ t ∧ t ≤ 255 := by simpa [in1] using hin
        rw [hin] at kr
        have kt := fun V g hg => text_new V [t] 1 g #[.int .i64 t] rfl rfl hg (by simp) (by simp [inB, in1]; omega)
        have hadd : ∀ U : World, (Op.stringOp .add b (strOfNums [t])).run Try.prog U = .ok (.string (b ++ strOfNums [t])) U := fun U => run_string_add_sum U _ _ (by rw [strOfNums_size]; simp only [List.length_cons, List.length_nil]; omega)
        have HN := Lib.hid (show Pl.body ⟨n, o, s, v, t⟩ = b ++ strOfNums [t] by rw [hI.out.1, son_append]; rfl)
        clear hin hB hE0
        go_wp2_with fail
        (with_reducible refine (kr _).mono ?_); rintro e1 W1 ⟨rfl, rfl⟩
        clear kr
        go_wp2_with fail
        (with_reducible refine (kt _ _ rfl).mono ?_); rintro e1 W1 ⟨rfl, hb1⟩
        have hB1 := HB.out.below hb1
        clear kt c z0 z1 zf0 zf1
        have z0 := Blk.cell (hB1.nth 0 rfl) 0 (v := .int .i64 0) rfl
        have z1 := Blk.cell (hB1.nth 0 rfl) 1 (v := .string { data := #[] }) rfl
        have zf0 := Blk.frozen (hB1.nth 0 rfl) 0
        have zf1 := Blk.frozen (hB1.nth 0 rfl) 1
        have HB1 := Lib.hid hB1
        clear HB hb1 hB1
        go_wp2_with fail
        have hS := (row_set [.int .i64 19, .string (b ++ strOfNums [t])] (HB1.out.nth 0 rfl)).1
        have hE := below_setCells (Nat.le_succ w.heap.size) [.int .i64 19, .string (b ++ strOfNums [t])] 0 w _ HB1.out.be
        refine bp_gen (fun V => Blk V (w.heap.size + 1) 35 #[.int .i64 19, .string (b ++ strOfNums [t])] ∧ Below w.heap.size w V) ⟨hS, hE⟩ ?_
        intro V ⟨hV, hVE⟩
        rw [HE.out.1, HE.out.2, HN.out]
        exact bodyPost_ret (v := .tuple #[.agg #[.int .i64 19, .string (b ++ strOfNums [t])], .int .i64 0]) (by simp [results, Try.results25, go_sem, Blk.cell hV 0 (v := .int .i64 19) rfl, Blk.cell hV 1 (v := .string (b ++ strOfNums [t])) rfl]) rfl ⟨rfl, hVE⟩
end Go.Proofs.Ytbceakdifklocaa.DtA
