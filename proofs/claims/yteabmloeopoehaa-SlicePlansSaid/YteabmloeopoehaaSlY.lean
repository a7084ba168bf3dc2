/- SlicePlans: the walk. -/
import Derived.Test.YteabmloeopoehaaSlX
import Derived.Test.YteabmloeopoehaaSlOpn
import Derived.Test.YteabmloeopoehaaSlT
import Derived.Test.YteabmloeopoehaaSlQ
namespace Go.Proofs.Yteabmloeopoehaa.SlY
open Go Go.RowKit Go.Proofs.Yteabmloeopoehaa.Q Go.Proofs.Yteabmloeopoehaa.Mem Go.Proofs.Yteabmloeopoehaa.Rg Go.Proofs.Yteabmloeopoehaa.Ap Go.Proofs.Yteabmloeopoehaa.ApG Go.Proofs.Yteabmloeopoehaa.St Go.Proofs.Yteabmloeopoehaa.CrB Go.Proofs.Yteabmloeopoehaa.PaA Go.Proofs.Yteabmloeopoehaa.PaK Go.Proofs.Yteabmloeopoehaa.PaP Go.Proofs.Yteabmloeopoehaa.SlM Go.Proofs.Yteabmloeopoehaa.SlA Go.Proofs.Yteabmloeopoehaa.SlB Go.Proofs.Yteabmloeopoehaa.SlC Go.Proofs.Yteabmloeopoehaa.SlP Go.Proofs.Yteabmloeopoehaa.SlR Go.Proofs.Yteabmloeopoehaa.SlS Go.Proofs.Yteabmloeopoehaa.SlW Go.Proofs.Yteabmloeopoehaa.SlX Go.Proofs.Yteabmloeopoehaa.SlT Go.Proofs.Yteabmloeopoehaa.SlOpn

theorem elemW : Elem Try.prog 34 37 3 40 := elem_of Try.underlying34 (z := .agg #[.int .i64 0, .int .i64 0, .slice none 0 0]) (by kernel_rfl) rfl (by decide)
/-- a run's burst -/
def rb (r : Rn) : Br := ⟨r.pid, r.at_, r.l.map Pc.bytes⟩
theorem plan_S : ∀ (L : List Br) (e : Int), ∀ b ∈ planL e L, ∃ b' ∈ L, b.S = b'.S
  | [], _, b, h => by cases h
  | x :: t, e, b, h => by
    rw [planL] at h
    rcases List.mem_cons.1 h with rfl | h
    · exact ⟨x, List.mem_cons_self .., rfl⟩
    · obtain ⟨b', h1, h2⟩ := plan_S t _ b h
      exact ⟨b', List.mem_cons_of_mem _ h1, h2⟩
theorem plan_len : ∀ (L : List Br) (e : Int), (planL e L).length = L.length
  | [], _ => rfl
  | x :: t, e => by rw [planL, List.length_cons, List.length_cons, plan_len t]
theorem drop_rb {L : List Rn} {q : Nat} {r : Rn} (h : L[q]? = some r) : (L.map rb).drop q = rb r :: (L.map rb).drop (q + 1) := by
  obtain ⟨h1, h2⟩ := List.getElem?_eq_some_iff.1 h
  rw [List.drop_eq_getElem_cons (by rw [List.length_map]; exact h1)]
  congr 1
  rw [List.getElem_map, h2]
theorem take_rb {L : List Rn} {q : Nat} {r : Rn} (h : L[q]? = some r) : (L.map rb).take (q + 1) = (L.map rb).take q ++ [rb r] := by
  rw [List.take_add_one, List.getElem?_map, h]; rfl
/-- the loop's state: what is wrong so far, and the end -/
structure Sta (most : Int) (L : List Rn) (q : Nat) (e en : Int) (D W : List Bu) : Prop where
  d : D.map Bu.b = (L.map rb).take q
  ok : e = 0 → 0 ≤ en ∧ en ≤ 1048900 ∧ planE most en ((L.map rb).drop q) = planR most (L.map rb) ∧ W.map Bu.b ++ planL en ((L.map rb).drop q) = planL 0 (L.map rb)
  bad : e ≠ 0 → planR most (L.map rb) = e
  len : W.length ≤ q
set_option maxRecDepth 100000
set_option maxHeartbeats 3200000 in
theorem law_any (most : Int) (a : Option Addr) (n c : Nat) (L : List Rn) (w : World) (hn : L.length = n) (hl : n ≤ 9223372036854775807) (hL : Seq enRn 3 w a L) (hin : ∀ r ∈ L, RnIn w r) :
    Calls Try.prog 4 #[.int .i64 most, .slice a n c] w fun e w' => e = .returned (.bool true) ∧ Below w.heap.size w w' := by
  have kf := few_any a n c L w hn hl hL (fun r hr => ⟨(hin r hr).1, (hin r hr).2.1⟩)
  obtain ⟨F, hF⟩ : ∃ F, fewB L = F := ⟨_, rfl⟩
  rw [hF] at kf
  have HL := Lib.hid hL
  have HN := Lib.hid hn
  have HIN := Lib.hid hin
  have HF := Lib.hid hF
  clear hL hn hin hF
  cases F with
  | false =>
    go_enter Try.func4, Try.ntmps4
    go_wp2_with fail
    (with_reducible refine (kf).mono ?_); rintro e1 W1 ⟨rfl, rfl⟩
    go_wp2_with fail
    (with_reducible refine (awake_any _).mono ?_); rintro e2 W2 ⟨rfl, hb2⟩
    go_wp2_with fail
    go_ret
    exact ⟨rfl, hb2⟩
  | true =>
    have hfw : n ≤ 8 ∧ ∀ r ∈ L, fewR r := by
      have h := HF.out
      unfold fewB at h
      simp only [Bool.and_eq_true, decide_eq_true_eq, List.all_eq_true] at h
      exact ⟨by have := h.2; rw [HN.out] at this; exact this, h.1⟩
    have hn8 := hfw.1
    have HFW := Lib.hid hfw.2
    clear hfw
    have HSM := Lib.hid (show ∀ r ∈ L, Small (rb r) from fun r hr => by
      obtain ⟨h1, h2, h3⟩ := HFW.out r hr
      refine ⟨by show (r.l.map Pc.bytes).length ≤ 8; rw [List.length_map]; exact h1, fun s hs => ?_⟩
      obtain ⟨p, hp, rfl⟩ := List.mem_map.1 hs
      exact SlQ.bytes_size p (h3 p hp) ((HIN.out r hr).2.2 p hp).2)
    go_enter Try.func4, Try.ntmps4
    go_wp2_with fail
    (with_reducible refine (kf).mono ?_); rintro e1 W1 ⟨rfl, rfl⟩
    clear kf
    by_cases hm1 : most < 1
    · have t0 : decide (most < 1) = true := decide_eq_true hm1
      have HI := Lib.hid (show Sta most L 0 1 0 [] [] from ⟨rfl, fun h => (by cases h), fun _ => if_pos hm1, by simp⟩)
      have HE := Lib.hid (show (1 : Int) ≠ 0 from by decide)
      clear hm1
      go_wp2_with fail
      go_loopw [5, 6, 7, 8, 9] (fun v1 v2 ev nv i wr => ∃ (q : Nat) (e en : Int) (D W : List Bu), q ≤ n ∧ i = .int .i64 q ∧ ev = .int .i64 e ∧ nv = .int .i64 en ∧ Hid (Sta most L q e en D W) ∧ Hid (Rws w wr 37 41 v1 v2 D W)) (fun _ _ _ _ i _ => n - (intOf i).toNat)
      case atStart => exact ⟨0, 1, 0, [], [], by omega, rfl, rfl, rfl, HI, Lib.hid (rows_nil _ _ _)⟩
      case round =>
        clear HI
        obtain ⟨q, e, en, D, W, hq, rfl, rfl, rfl, HI, HR⟩ := hrel
        by_cases hqn : q < n
        · have t1 : decide (q < n) = true := decide_eq_true hqn
          obtain ⟨r, hr⟩ : ∃ r, L[q]? = some r := ⟨_, List.getElem?_eq_getElem (by rw [HN.out]; exact hqn)⟩
          obtain ⟨b0, o0, rfl, hlt, hc⟩ := HL.out q r hr
          have k0 : (0 : Int) ≤ (q : Int) := Int.natCast_nonneg _
          have k1 : (q : Int) < (n : Int) := by omega
          have x0 := hc 0 _ rfl
          have x1 := hc 1 _ rfl
          have x2 := hc 2 _ rfl
          rw [off_eq] at x0 x1 x2
          rw [Nat.add_zero] at x0
          have hri := HIN.out r (List.mem_of_getElem? hr)
          have hfr := HFW.out r (List.mem_of_getElem? hr)
          have hsm := HSM.out r (List.mem_of_getElem? hr)
          have HDR := Lib.hid (And.intro (drop_rb hr) (take_rb hr))
          obtain ⟨pid, at_, la, lc, l⟩ := r
          dsimp only [enRn, fewR, RnIn] at x0 x1 x2 hri hfr
          obtain ⟨M, hM⟩ : ∃ M, l.length = M := ⟨_, rfl⟩
          have kt := texts_any la M lc l wr hM (by have := hfr.1; omega) (hri.1.below (Nat.le_refl _) HR.out.be) hri.2.2
          obtain ⟨S, hS⟩ : ∃ S, l.map Pc.bytes = S := ⟨_, rfl⟩
          have hSM : S.length = M := by rw [← hS, List.length_map, hM]
          rw [hM] at x2
          rw [hS] at kt
          have hM8 : M ≤ 8 := by have := hfr.1; omega
          have hsm : S.length ≤ 8 ∧ ∀ s ∈ S, s.size ≤ 5000 := by rw [← hS]; exact hsm
          rw [show rb ⟨pid, at_, la, lc, l⟩ = ⟨pid, at_, S⟩ by unfold rb; rw [← hS]] at HDR
          have CW := Lib.hid (And.intro x0 (And.intro x1 x2))
          have c2 := (HR.out.be.cell (p := ⟨b0, o0 + q * 3 + 2, none⟩) hlt).trans CW.out.2.2
          clear hc hr hri hfr hS hM x0 x1 x2
          go_wp2_with fail
          (with_reducible refine (kt).mono ?_); rintro e2 W2 ⟨v, rfl, hown, hb2⟩
          obtain ⟨a1, c3, rfl, hc3⟩ := own_cap hown
          have HO := Lib.hid (off_new (b := ⟨pid, at_, S⟩) HR.out hown hSM)
          have HR2 := Lib.hid (HR.out.below hb2)
          have f0 := fun p => ((HR2.out.below (below_ext _ p)).be.cell (p := ⟨b0, o0 + q * 3, none⟩) hlt).trans CW.out.1
          have f1 := fun p => ((HR2.out.below (below_ext _ p)).be.cell (p := ⟨b0, o0 + q * 3 + 1, none⟩) hlt).trans CW.out.2.1
          have hDq : D.length = q := by
            have := congrArg List.length HI.out.d
            rw [List.length_map, List.length_take, List.length_map, HN.out] at this
            omega
          clear kt hown hb2 HR c2
          go_wp2_with fail
          refine Go.Proofs.Yteabmloeopoehaa.Rg.region_new [(13, newS 1 37 #[.int .i64 pid, .int .i64 at_, .slice a1 M c3] 0)] 14 (by kernel_rfl) (by kernel_rfl) (by kernel_rfl) (lk_cons newS_inh lk_nil) (lk_cons newS_mono lk_nil) ?_
          intro σ hσ
          simp only [List.take_succ_cons, List.take_zero, List.drop_succ_cons, List.drop_zero]
          refine Go.Proofs.Yteabmloeopoehaa.Rg.wpN_take 13 (by kernel_rfl) (by kernel_rfl) (by kernel_rfl) ?_
          simp only [List.take_succ_cons, List.take_zero, List.drop_succ_cons, List.drop_zero]
          repeat (go_big_quiet_step (fail))
          refine wpQuiet_nil ?_
          refine Go.Proofs.Yteabmloeopoehaa.Rg.wpN_sp _ rfl (by kernel_rfl) (spAt_newS 1 37 #[.int .i64 pid, .int .i64 at_, .slice a1 M c3] (Nat.zero_le _) (by intro w0; go_simp)) ?_
          simp only [Act.put, List.setIfInBounds_toArray, List.set_cons_zero, List.set_cons_succ]
          refine Go.Proofs.Yteabmloeopoehaa.Rg.wpN_nil ?_
          rintro w9 ⟨pq, rfl⟩ hp
          obtain ⟨g9, hg9, _, hb9⟩ := hp 13 _ rfl
          rw [hg9]
          clear hp hσ
          have HR3 := HR2.out.below (below_ext _ pq)
          have HO3 := HO.out.below (below_ext _ pq)
          refine wpList_appG rfl _ _ rfl elemW rfl HR3.o1 rfl rfl (blk_news hb9) (by simp [Value.oneCell']) (by omega) (by unfold maxLen; omega) HR3.be.size ?_
          intro v9 w8 hownN hgN hatN
          have hen : enBu ⟨⟨pid, at_, S⟩, a1, c3⟩ = [.int .i64 pid, .int .i64 at_, .slice a1 M c3] := by unfold enBu; rw [hSM]
          have HR4 := Lib.hid (HR3.add1 HO3 (by rw [hen]; exact hownN) hgN hatN)
          have HO4 := Lib.hid (HO3.grown hgN hatN)
          have HD4 := Lib.hid (show (D ++ [(⟨⟨pid, at_, S⟩, a1, c3⟩ : Bu)]).map Bu.b = (L.map rb).take (q + 1) from by rw [List.map_append, HI.out.d, HDR.out.2]; rfl)
          obtain ⟨D1, hD1⟩ : ∃ D1, D ++ [(⟨⟨pid, at_, S⟩, a1, c3⟩ : Bu)] = D1 := ⟨_, rfl⟩
          rw [hD1] at HR4 HD4
          clear HR2 HO HR3 HO3 hb9 hg9 hownN hgN hatN f0 f1 hen hD1
          by_cases he : e = 0
          · subst he
            have hok := HI.out.ok rfl
            rw [HDR.out.1, planE, planL] at hok
            dsimp only at hok
            have k2 := lmany_any a1 M c3 S w8 hSM (by omega) HO4.out.1.s (by have := sum_B hsm.2; omega)
            have hNB := manyN_le hsm.2
            obtain ⟨E, hE⟩ : ∃ E, manyE S = E := ⟨_, rfl⟩
            obtain ⟨N, hNN⟩ : ∃ N, manyN S = N := ⟨_, rfl⟩
            have HEN := Lib.hid (And.intro hE hNN)
            rw [hE, hNN] at k2 hok
            rw [hNN, hSM] at hNB
            have hmx : ∀ (ts : Array TypeId) (ty : TypeId) (V : World), (Builtin.max_ ts ty #[.int .i64 en, .int .i64 at_]).run Try.prog V = .ok (.int .i64 (max at_ en)) V := fun ts ty V => by
              rw [run_max_int2]
              congr 2
              split <;> omega
            obtain ⟨m, hm⟩ : ∃ m, max at_ en = m := ⟨_, rfl⟩
            rw [hm] at hmx hok
            have HMM := Lib.hid hm
            have HOK := Lib.hid hok
            have hN3 : N ≤ 300 := by omega
            have HW := Lib.hid HI.out.len
            clear hE hNN hm hok hNB HI
            go_wp2_with fail
            (with_reducible refine (k2).mono ?_); rintro e5 W5 ⟨rfl, hb5⟩
            have HR5 := Lib.hid (HR4.out.below hb5)
            have HO5 := Lib.hid (HO4.out.below hb5)
            have k3 := many_any a1 M c3 S W5 hSM (by omega) hc3 HO5.out.1.s (fun s hs => by have := hsm.2 s hs; omega)
            rw [HEN.out.1, HEN.out.2] at k3
            clear k2 hb5 HR4 HO4
            go_wp2_with fail
            (with_reducible refine (k3).mono ?_); rintro e6 W6 ⟨rfl, hb6⟩
            have HR6 := Lib.hid (HR5.out.below hb6)
            have HO6 := Lib.hid (HO5.out.below hb6)
            have f0 := fun p => ((HR6.out.below (below_ext _ p)).be.cell (p := ⟨b0, o0 + q * 3, none⟩) hlt).trans CW.out.1
            have f1 := fun p => ((HR6.out.below (below_ext _ p)).be.cell (p := ⟨b0, o0 + q * 3 + 1, none⟩) hlt).trans CW.out.2.1
            have g1 := (HR6.out.be.cell (p := ⟨b0, o0 + q * 3 + 1, none⟩) hlt).trans CW.out.2.1
            have kr := fun V => lright_any pid at_ V
            obtain ⟨R, hR⟩ : ∃ R, decide (rightP pid at_) = R := ⟨_, rfl⟩
            rw [hR] at kr
            have HRR := Lib.hid hR
            clear k3 hb6 HR5 HO5 hR
            go_wp2_with fail
            refine Go.Proofs.Yteabmloeopoehaa.Q.region_ext (by kernel_rfl) (by kernel_rfl) ?_
            repeat (go_big_quiet_step ((go_at_call 10; refine ext_call_same (kr _))))
            refine wpQuiet_nil ?_
            rintro w7 ⟨pq7, rfl⟩
            have HR7 := Lib.hid (HR6.out.below (below_ext _ pq7))
            have HO7 := Lib.hid (HO6.out.below (below_ext _ pq7))
            have g0 := f0 pq7
            obtain ⟨W7, hW7⟩ : ∃ W7, ext W6 pq7 = W7 := ⟨_, rfl⟩
            rw [hW7] at HR7 HO7 g0 ⊢
            have HOm := Lib.hid (off_at (b' := ⟨pid, m, S⟩) HO7.out rfl)
            clear hW7 f0 f1 g1 HR6 HO6 kr HO7 hmx
            cases R with
            | false =>
              have HI9 := Lib.hid (fun x => (show Sta most L (q + 1) 15 x D1 (W ++ [(⟨⟨pid, m, S⟩, a1, c3⟩ : Bu)]) from ⟨HD4.out, fun h => (by cases h), fun _ => by
                have := HOK.out.2.2.1
                rw [if_pos (by have := HRR.out; simpa using this)] at this
                exact this.symm, by have := HW.out; simp; exact this⟩))
              have hb9 := Blk.new W7 41 #[.int .i64 pid, .int .i64 m, .slice a1 M c3]
              have hbn := (Below.refl W7.heap.size W7).alloc (Nat.le_refl _) (.cells #[.int .i64 pid, .int .i64 m, .slice a1 M c3] 41)
              have HR8 := HR7.out.below hbn
              have HO8 := HOm.out.below hbn
              have hwl : W.length ≤ 10 := by have := HW.out; omega
              clear HR7 HOm hbn
              go_wp2_with (at_builtin; refine wpList_appG rfl _ _ rfl elemB rfl HR8.o2 rfl rfl (blk_news hb9) (by simp [Value.oneCell']) (by omega) (by unfold maxLen; omega) HR8.be.size ?_)
              intro v8 w8 hownN hgN hatN
              have HR9 := Lib.hid (HR8.add2 HO8 (by rw [show enBu ⟨⟨pid, m, S⟩, a1, c3⟩ = [.int .i64 pid, .int .i64 m, .slice a1 M c3] by unfold enBu; rw [hSM]]; exact hownN) hgN (by simpa using hatN))
              clear HR8 HO8 hb9 hownN hgN hatN
              go_wp2_with fail
              go_roundw
              case measure => simp [intOf]; omega
              case rel => exact ⟨q + 1, 15, _, _, _, by omega, by go_num, rfl, rfl, Lib.hid (HI9.out _), HR9⟩
            | true =>
              have hr := of_decide_eq_true HRR.out
              have hr0 := hr.2.2.1
              clear hr
              by_cases hE0 : E = 0
              · subst hE0
                by_cases hmo : most < (N : Int)
                · have t3 : decide (most < (N : Int)) = true := decide_eq_true hmo
                  have HI9 := Lib.hid (fun x => (show Sta most L (q + 1) 17 x D1 (W ++ [(⟨⟨pid, m, S⟩, a1, c3⟩ : Bu)]) from ⟨HD4.out, fun h => (by cases h), fun _ => by
                    have := HOK.out.2.2.1
                    rw [if_neg (by have := of_decide_eq_true HRR.out; simpa using this), if_neg (by decide), if_pos hmo] at this
                    exact this.symm, by have := HW.out; simp; exact this⟩))
                  clear hmo
                  have hb9 := Blk.new W7 41 #[.int .i64 pid, .int .i64 m, .slice a1 M c3]
                  have hbn := (Below.refl W7.heap.size W7).alloc (Nat.le_refl _) (.cells #[.int .i64 pid, .int .i64 m, .slice a1 M c3] 41)
                  have HR8 := HR7.out.below hbn
                  have HO8 := HOm.out.below hbn
                  have hwl : W.length ≤ 10 := by have := HW.out; omega
                  clear HR7 HOm hbn
                  go_wp2_with (at_builtin; refine wpList_appG rfl _ _ rfl elemB rfl HR8.o2 rfl rfl (blk_news hb9) (by simp [Value.oneCell']) (by omega) (by unfold maxLen; omega) HR8.be.size ?_)
                  intro v8 w8 hownN hgN hatN
                  have HR9 := Lib.hid (HR8.add2 HO8 (by rw [show enBu ⟨⟨pid, m, S⟩, a1, c3⟩ = [.int .i64 pid, .int .i64 m, .slice a1 M c3] by unfold enBu; rw [hSM]]; exact hownN) hgN (by simpa using hatN))
                  clear HR8 HO8 hb9 hownN hgN hatN
                  go_wp2_with fail
                  go_roundw
                  case measure => simp [intOf]; omega
                  case rel => exact ⟨q + 1, 17, _, _, _, by omega, by go_num, rfl, rfl, Lib.hid (HI9.out _), HR9⟩
                · have t3 : decide (most < (N : Int)) = false := decide_eq_false hmo
                  by_cases hms : 1048576 < m
                  · have t4 : decide (1048576 < m) = true := decide_eq_true hms
                    have HI9 := Lib.hid (fun x => (show Sta most L (q + 1) 15 x D1 (W ++ [(⟨⟨pid, m, S⟩, a1, c3⟩ : Bu)]) from ⟨HD4.out, fun h => (by cases h), fun _ => by
                      have := HOK.out.2.2.1
                      rw [if_neg (by have := of_decide_eq_true HRR.out; simpa using this), if_neg (by decide), if_neg hmo, if_pos hms] at this
                      exact this.symm, by have := HW.out; simp; exact this⟩))
                    clear hmo hms
                    have hb9 := Blk.new W7 41 #[.int .i64 pid, .int .i64 m, .slice a1 M c3]
                    have hbn := (Below.refl W7.heap.size W7).alloc (Nat.le_refl _) (.cells #[.int .i64 pid, .int .i64 m, .slice a1 M c3] 41)
                    have HR8 := HR7.out.below hbn
                    have HO8 := HOm.out.below hbn
                    have hwl : W.length ≤ 10 := by have := HW.out; omega
                    clear HR7 HOm hbn
                    go_wp2_with (at_builtin; refine wpList_appG rfl _ _ rfl elemB rfl HR8.o2 rfl rfl (blk_news hb9) (by simp [Value.oneCell']) (by omega) (by unfold maxLen; omega) HR8.be.size ?_)
                    intro v8 w8 hownN hgN hatN
                    have HR9 := Lib.hid (HR8.add2 HO8 (by rw [show enBu ⟨⟨pid, m, S⟩, a1, c3⟩ = [.int .i64 pid, .int .i64 m, .slice a1 M c3] by unfold enBu; rw [hSM]]; exact hownN) hgN (by simpa using hatN))
                    clear HR8 HO8 hb9 hownN hgN hatN
                    go_wp2_with fail
                    go_roundw
                    case measure => simp [intOf]; omega
                    case rel => exact ⟨q + 1, 15, _, _, _, by omega, by go_num, rfl, rfl, Lib.hid (HI9.out _), HR9⟩
                  · have t4 : decide (1048576 < m) = false := decide_eq_false hms
                    have hm0 : 0 ≤ m := by have := HMM.out; omega
                    have hm9 : m ≤ 1048576 := by omega
                    have hN0 : (0 : Int) ≤ (N : Int) := Int.natCast_nonneg _
                    have hN9 : (N : Int) ≤ 300 := by omega
                    have HI9 := Lib.hid (show ∀ x, x = m + (N : Int) → Sta most L (q + 1) 0 x D1 (W ++ [(⟨⟨pid, m, S⟩, a1, c3⟩ : Bu)]) from by
                      rintro x rfl
                      have := HOK.out.2.2.1
                      rw [if_neg (by have := of_decide_eq_true HRR.out; simpa using this), if_neg (by decide), if_neg hmo, if_neg hms] at this
                      refine ⟨HD4.out, fun _ => ⟨by omega, by omega, this, ?_⟩, fun h => absurd rfl h, by have := HW.out; simp; exact this⟩
                      rw [← HOK.out.2.2.2, List.map_append, List.append_assoc]
                      rfl)
                    clear hmo hms
                    have hb9 := Blk.new W7 41 #[.int .i64 pid, .int .i64 m, .slice a1 M c3]
                    have hbn := (Below.refl W7.heap.size W7).alloc (Nat.le_refl _) (.cells #[.int .i64 pid, .int .i64 m, .slice a1 M c3] 41)
                    have HR8 := HR7.out.below hbn
                    have HO8 := HOm.out.below hbn
                    have hwl : W.length ≤ 10 := by have := HW.out; omega
                    clear HR7 HOm hbn
                    go_wp2_with (at_builtin; refine wpList_appG rfl _ _ rfl elemB rfl HR8.o2 rfl rfl (blk_news hb9) (by simp [Value.oneCell']) (by omega) (by unfold maxLen; omega) HR8.be.size ?_)
                    intro v8 w8 hownN hgN hatN
                    have HR9 := Lib.hid (HR8.add2 HO8 (by rw [show enBu ⟨⟨pid, m, S⟩, a1, c3⟩ = [.int .i64 pid, .int .i64 m, .slice a1 M c3] by unfold enBu; rw [hSM]]; exact hownN) hgN (by simpa using hatN))
                    clear HR8 HO8 hb9 hownN hgN hatN
                    go_wp2_with fail
                    go_roundw
                    case measure => simp [intOf]; omega
                    case rel => exact ⟨q + 1, 0, m + N, _, _, by omega, by go_num, rfl, rfl, Lib.hid (HI9.out _ rfl), HR9⟩
              · have t2 : (E == 0) = false := beq_eq_false_iff_ne.2 hE0
                have HI9 := Lib.hid (fun x => (show Sta most L (q + 1) E x D1 (W ++ [(⟨⟨pid, m, S⟩, a1, c3⟩ : Bu)]) from ⟨HD4.out, fun h => absurd h hE0, fun _ => by
                  have := HOK.out.2.2.1
                  rw [if_neg (by have := of_decide_eq_true HRR.out; simpa using this), if_pos hE0] at this
                  exact this.symm, by have := HW.out; simp; exact this⟩))
                clear hE0
                have hb9 := Blk.new W7 41 #[.int .i64 pid, .int .i64 m, .slice a1 M c3]
                have hbn := (Below.refl W7.heap.size W7).alloc (Nat.le_refl _) (.cells #[.int .i64 pid, .int .i64 m, .slice a1 M c3] 41)
                have HR8 := HR7.out.below hbn
                have HO8 := HOm.out.below hbn
                have hwl : W.length ≤ 10 := by have := HW.out; omega
                clear HR7 HOm hbn
                go_wp2_with (at_builtin; refine wpList_appG rfl _ _ rfl elemB rfl HR8.o2 rfl rfl (blk_news hb9) (by simp [Value.oneCell']) (by omega) (by unfold maxLen; omega) HR8.be.size ?_)
                intro v8 w8 hownN hgN hatN
                have HR9 := Lib.hid (HR8.add2 HO8 (by rw [show enBu ⟨⟨pid, m, S⟩, a1, c3⟩ = [.int .i64 pid, .int .i64 m, .slice a1 M c3] by unfold enBu; rw [hSM]]; exact hownN) hgN (by simpa using hatN))
                clear HR8 HO8 hb9 hownN hgN hatN
                go_wp2_with fail
                go_roundw
                case measure => simp [intOf]; omega
                case rel => exact ⟨q + 1, E, _, _, _, by omega, by go_num, rfl, rfl, Lib.hid (HI9.out _), HR9⟩
          · have t2 : (e == 0) = false := beq_eq_false_iff_ne.2 he
            have HI5 := Lib.hid (show Sta most L (q + 1) e en D1 W from ⟨HD4.out, fun h => absurd h he, HI.out.bad, by have := HI.out.len; omega⟩)
            clear he
            go_wp2_with fail
            go_roundw
            case rel => exact ⟨q + 1, e, en, _, W, by omega, by go_num, rfl, rfl, HI5, HR4⟩
            case measure => simp [intOf]; omega
        · obtain rfl : q = n := by omega
          have t1 : decide (q < q) = false := by simp
          have hDb : D.map Bu.b = L.map rb := by rw [HI.out.d, List.take_of_length_le (by rw [List.length_map, HN.out]; exact Nat.le_refl _)]
          have hDl : D.length = q := by have := congrArg List.length hDb; rw [List.length_map, List.length_map, HN.out] at this; exact this
          have hdr0 : (L.map rb).drop q = [] := List.drop_of_length_le (by rw [List.length_map, HN.out]; exact Nat.le_refl _)
          have hsmD : ∀ x ∈ D, Small x.b := fun x hx => by
            have : x.b ∈ L.map rb := by rw [← hDb]; exact List.mem_map_of_mem hx
            obtain ⟨r, hr, hr2⟩ := List.mem_map.1 this
            rw [← hr2]; exact HSM.out r hr
          obtain ⟨aD, cD, hvD, _⟩ := own_cap HR.out.o1
          subst hvD
          obtain ⟨aW, cW, hvW, _⟩ := own_cap HR.out.o2
          subst hvW
          have hqD := own_seq enBu_len HR.out.o1 rfl
          have kp := plan_any most aD D.length cD D wr rfl (by omega) hqD (fun x hx => (HR.out.d1 x hx).1) hsmD
          rw [hDb] at kp
          have hIok := HI.out.ok
          rw [hdr0] at hIok
          have HIB := Lib.hid HI.out.bad
          have HIO := Lib.hid (show e = 0 → 0 = planR most (L.map rb) ∧ W.map Bu.b = planL 0 (L.map rb) from fun h => by
            obtain ⟨_, _, h1, h2⟩ := hIok h
            rw [planE] at h1
            rw [planL, List.append_nil] at h2
            exact ⟨h1, h2⟩)
          have hbr := HR.out.be
          have HZ := Lib.hid (And.intro hDl hbr.size)
          rw [hDl]
          rw [hDl] at kp
          clear hDb hdr0 hsmD hqD hIok HI hDl
          go_wp2_with fail
          (with_reducible refine (kp).mono ?_); rintro e1 W3 ⟨hb3, v, E, rfl, hER, hEb, hEo⟩
          have hb4 := hbr.trans (hb3.mono hbr.size)
          have HER := Lib.hid hER
          clear kp hER
          by_cases he : e = 0
          · subst he
            obtain ⟨h1, h2⟩ := HIO.out rfl
            have hE0 : E = 0 := by rw [HER.out, ← h1]
            subst hE0
            obtain ⟨Dv, hDv, hownv, hDok⟩ := hEo rfl
            have hPE : planE most 0 (L.map rb) = 0 := by
              have h3 := h1.symm
              unfold planR at h3
              split at h3
              · cases h3
              · exact h3
            have hDvl : Dv.length = q := by have := congrArg List.length hDv; rw [List.length_map, plan_len, List.length_map, HN.out] at this; exact this
            have hWl : W.length = q := by have := congrArg List.length h2; rw [List.length_map, plan_len, List.length_map, HN.out] at this; exact this
            have hsmV : ∀ x ∈ Dv, Small x.b := fun x hx => by
              have : x.b ∈ planL 0 (L.map rb) := by rw [← hDv]; exact List.mem_map_of_mem hx
              obtain ⟨b', hb', e⟩ := plan_S _ _ _ this
              obtain ⟨r, hr, hr2⟩ := List.mem_map.1 hb'
              have := HSM.out r hr
              rw [hr2] at this
              unfold Small at this ⊢
              rw [e]; exact this
            obtain ⟨aV, cV, hvV, _⟩ := own_cap hownv
            subst hvV
            have hqV := own_seq enBu_len hownv hDvl
            have kc := check_any aV q cV Dv W3 hDvl (by omega) hqV hDok hsmV
            rw [hDv, plan_check most _ 0 (by decide) hPE] at kc
            have hqW := (own_seq enBu_len HR.out.o2 rfl).below (Nat.le_refl _) hb3
            rw [hWl]
            have HSV := Lib.hid (show ∀ x ∈ Dv, BuOk W3 x from hDok)
            have HSW := Lib.hid (show ∀ x ∈ W, BuOk W3 x from fun x hx => (HR.out.d2 x hx).1.below (Nat.le_refl _) hb3)
            have HQ := Lib.hid (And.intro hqV hqW)
            have HLL := Lib.hid (And.intro hDvl hWl)
            have HEQ := Lib.hid (show Dv.map Bu.b = W.map Bu.b from by rw [hDv, h2])
            have HSmV := Lib.hid hsmV
            clear hEb hEo h1 h2 HR HIO HIB HER hPE hDvl hWl hsmV hqV hqW hDok hDv hownv HZ
            go_wp2_with fail
            (with_reducible refine (kc).mono ?_); rintro e5 W5 ⟨rfl, hb5⟩
            have hb6 := hb4.trans (hb5.mono hb4.size)
            have HB := Lib.hid (And.intro hb3.size hb5)
            clear kc hb3 hb5
            go_wp2_with fail
            go_loopw [18] (fun i wi => ∃ k : Nat, k ≤ q ∧ i = .int .i64 k ∧ Below W5.heap.size W5 wi) (fun i _ => q - (intOf i).toNat)
            case atStart => exact ⟨0, by omega, rfl, Below.refl _ _⟩
            case round =>
              obtain ⟨k, hk, rfl, hb⟩ := hrel
              by_cases hkq : k < q
              · have u1 : decide (k < q) = true := decide_eq_true hkq
                obtain ⟨x, hx⟩ : ∃ x, Dv[k]? = some x := ⟨_, List.getElem?_eq_getElem (by rw [HLL.out.1]; exact hkq)⟩
                obtain ⟨y, hy⟩ : ∃ y, W[k]? = some y := ⟨_, List.getElem?_eq_getElem (by rw [HLL.out.2]; exact hkq)⟩
                have hxy : x.b = y.b := by
                  have h1 : (Dv.map Bu.b)[k]? = some x.b := by rw [List.getElem?_map, hx]; rfl
                  rw [HEQ.out, List.getElem?_map, hy] at h1
                  injection h1 with h1
                  exact h1.symm
                have hbw := HB.out.2.trans (hb.mono HB.out.2.size)
                obtain ⟨b1, o1, rfl, l1, hc1⟩ := (HQ.out.1.below (Nat.le_refl _) hbw) k x hx
                obtain ⟨b2, o2, rfl, l2, hc2⟩ := (HQ.out.2.below (Nat.le_refl _) hbw) k y hy
                have x1 := (HSV.out x (List.mem_of_getElem? hx)).below (Nat.le_refl _) hbw
                have x2 := (HSW.out y (List.mem_of_getElem? hy)).below (Nat.le_refl _) hbw
                have hsm := (HSmV.out x (List.mem_of_getElem? hx)).1
                obtain ⟨⟨pid, at_, S⟩, xa, xc⟩ := x
                obtain ⟨yb, ya, yc⟩ := y
                dsimp only at hxy
                subst hxy
                dsimp only at hsm
                have k0 : (0 : Int) ≤ (k : Int) := Int.natCast_nonneg _
                have k1 : (k : Int) < (q : Int) := by omega
                have e0 := fun p => cell_ext l1 (hc1 0 _ rfl) p
                have e1 := fun p => cell_ext l1 (hc1 1 _ rfl) p
                have e2 := fun p => cell_ext l1 (hc1 2 _ rfl) p
                have g0 := fun p => cell_ext l2 (hc2 0 _ rfl) p
                have g1 := fun p => cell_ext l2 (hc2 1 _ rfl) p
                have g2 := fun p => cell_ext l2 (hc2 2 _ rfl) p
                dsimp only at e0 e1 e2 g0 g1 g2
                rw [off_eq] at e0 e1 e2 g0 g1 g2
                rw [Nat.add_zero] at e0 g0
                have ks := fun p : Ext => same_any xa ya S.length xc S.length yc S S (ext wr p) rfl rfl (by omega) (x1.s.below (Nat.le_refl _) (below_ext wr p)) (x2.s.below (Nat.le_refl _) (below_ext wr p))
                rw [decide_eq_true (rfl : S = S)] at ks
                obtain ⟨ns, hns⟩ : ∃ ns, S.length = ns := ⟨_, rfl⟩
                rw [hns] at ks e2 g2
                clear hc1 hc2 x1 x2 hx hy hns
                go_wp2_with fail
                refine Go.Proofs.Yteabmloeopoehaa.Q.region_ext (by kernel_rfl) (by kernel_rfl) ?_
                repeat (go_big_quiet_step ((go_at_call 13; refine ext_call (ks _))))
                refine wpQuiet_nil ?_
                rintro w9 ⟨pq, rfl⟩
                have hb8 := hb.trans ((below_ext wr pq).mono hb.size)
                clear e0 e1 e2 g0 g1 g2 ks hb
                go_wp2_with fail
                go_roundw
                case rel => exact ⟨k + 1, by omega, by go_num, hb8⟩
                case measure => simp [intOf]; omega
              · obtain rfl : k = q := by omega
                have u1 : decide (k < k) = false := by simp
                have hb7 := hb6.trans (hb.mono hb6.size)
                go_wp2_with fail
                (with_reducible refine (awake_any _).mono ?_); rintro e6 W6 ⟨rfl, hb9⟩
                have hbz := hb7.trans (hb9.mono hb7.size)
                go_wp2_with fail
                go_ret
                exact ⟨rfl, hbz⟩
          · have hE0 : E = e := by rw [HER.out, HIB.out he]
            subst hE0
            have hv := hEb he
            subst hv
            have t2 : (E == 0) = false := beq_eq_false_iff_ne.2 he
            have t3 : (E == E) = true := beq_self_eq_true E
            have t4 : (E != 0) = true := by simpa using he
            clear hEo hEb
            go_wp2_with fail
            (with_reducible refine (awake_any _).mono ?_); rintro e6 W6 ⟨rfl, hb9⟩
            have hbz := hb4.trans (hb9.mono hb4.size)
            go_wp2_with fail
            go_ret
            exact ⟨rfl, hbz⟩
    · have t0 : decide (most < 1) = false := decide_eq_false hm1
      have HI := Lib.hid (show Sta most L 0 0 0 [] [] from ⟨rfl, fun _ => ⟨by decide, by decide, (if_neg hm1).symm, rfl⟩, fun h => absurd rfl h, by simp⟩)
      clear hm1
      go_wp2_with fail
      go_loopw [5, 6, 7, 8, 9] (fun v1 v2 ev nv i wr => ∃ (q : Nat) (e en : Int) (D W : List Bu), q ≤ n ∧ i = .int .i64 q ∧ ev = .int .i64 e ∧ nv = .int .i64 en ∧ Hid (Sta most L q e en D W) ∧ Hid (Rws w wr 37 41 v1 v2 D W)) (fun _ _ _ _ i _ => n - (intOf i).toNat)
      case atStart => exact ⟨0, 0, 0, [], [], by omega, rfl, rfl, rfl, HI, Lib.hid (rows_nil _ _ _)⟩
      case round =>
        clear HI
        obtain ⟨q, e, en, D, W, hq, rfl, rfl, rfl, HI, HR⟩ := hrel
        by_cases hqn : q < n
        · have t1 : decide (q < n) = true := decide_eq_true hqn
          obtain ⟨r, hr⟩ : ∃ r, L[q]? = some r := ⟨_, List.getElem?_eq_getElem (by rw [HN.out]; exact hqn)⟩
          obtain ⟨b0, o0, rfl, hlt, hc⟩ := HL.out q r hr
          have k0 : (0 : Int) ≤ (q : Int) := Int.natCast_nonneg _
          have k1 : (q : Int) < (n : Int) := by omega
          have x0 := hc 0 _ rfl
          have x1 := hc 1 _ rfl
          have x2 := hc 2 _ rfl
          rw [off_eq] at x0 x1 x2
          rw [Nat.add_zero] at x0
          have hri := HIN.out r (List.mem_of_getElem? hr)
          have hfr := HFW.out r (List.mem_of_getElem? hr)
          have hsm := HSM.out r (List.mem_of_getElem? hr)
          have HDR := Lib.hid (And.intro (drop_rb hr) (take_rb hr))
          obtain ⟨pid, at_, la, lc, l⟩ := r
          dsimp only [enRn, fewR, RnIn] at x0 x1 x2 hri hfr
          obtain ⟨M, hM⟩ : ∃ M, l.length = M := ⟨_, rfl⟩
          have kt := texts_any la M lc l wr hM (by have := hfr.1; omega) (hri.1.below (Nat.le_refl _) HR.out.be) hri.2.2
          obtain ⟨S, hS⟩ : ∃ S, l.map Pc.bytes = S := ⟨_, rfl⟩
          have hSM : S.length = M := by rw [← hS, List.length_map, hM]
          rw [hM] at x2
          rw [hS] at kt
          have hM8 : M ≤ 8 := by have := hfr.1; omega
          have hsm : S.length ≤ 8 ∧ ∀ s ∈ S, s.size ≤ 5000 := by rw [← hS]; exact hsm
          rw [show rb ⟨pid, at_, la, lc, l⟩ = ⟨pid, at_, S⟩ by unfold rb; rw [← hS]] at HDR
          have CW := Lib.hid (And.intro x0 (And.intro x1 x2))
          have c2 := (HR.out.be.cell (p := ⟨b0, o0 + q * 3 + 2, none⟩) hlt).trans CW.out.2.2
          clear hc hr hri hfr hS hM x0 x1 x2
          go_wp2_with fail
          (with_reducible refine (kt).mono ?_); rintro e2 W2 ⟨v, rfl, hown, hb2⟩
          obtain ⟨a1, c3, rfl, hc3⟩ := own_cap hown
          have HO := Lib.hid (off_new (b := ⟨pid, at_, S⟩) HR.out hown hSM)
          have HR2 := Lib.hid (HR.out.below hb2)
          have f0 := fun p => ((HR2.out.below (below_ext _ p)).be.cell (p := ⟨b0, o0 + q * 3, none⟩) hlt).trans CW.out.1
          have f1 := fun p => ((HR2.out.below (below_ext _ p)).be.cell (p := ⟨b0, o0 + q * 3 + 1, none⟩) hlt).trans CW.out.2.1
          have hDq : D.length = q := by
            have := congrArg List.length HI.out.d
            rw [List.length_map, List.length_take, List.length_map, HN.out] at this
            omega
          clear kt hown hb2 HR c2
          go_wp2_with fail
          refine Go.Proofs.Yteabmloeopoehaa.Rg.region_new [(13, newS 1 37 #[.int .i64 pid, .int .i64 at_, .slice a1 M c3] 0)] 14 (by kernel_rfl) (by kernel_rfl) (by kernel_rfl) (lk_cons newS_inh lk_nil) (lk_cons newS_mono lk_nil) ?_
          intro σ hσ
          simp only [List.take_succ_cons, List.take_zero, List.drop_succ_cons, List.drop_zero]
          refine Go.Proofs.Yteabmloeopoehaa.Rg.wpN_take 13 (by kernel_rfl) (by kernel_rfl) (by kernel_rfl) ?_
          simp only [List.take_succ_cons, List.take_zero, List.drop_succ_cons, List.drop_zero]
          repeat (go_big_quiet_step (fail))
          refine wpQuiet_nil ?_
          refine Go.Proofs.Yteabmloeopoehaa.Rg.wpN_sp _ rfl (by kernel_rfl) (spAt_newS 1 37 #[.int .i64 pid, .int .i64 at_, .slice a1 M c3] (Nat.zero_le _) (by intro w0; go_simp)) ?_
          simp only [Act.put, List.setIfInBounds_toArray, List.set_cons_zero, List.set_cons_succ]
          refine Go.Proofs.Yteabmloeopoehaa.Rg.wpN_nil ?_
          rintro w9 ⟨pq, rfl⟩ hp
          obtain ⟨g9, hg9, _, hb9⟩ := hp 13 _ rfl
          rw [hg9]
          clear hp hσ
          have HR3 := HR2.out.below (below_ext _ pq)
          have HO3 := HO.out.below (below_ext _ pq)
          refine wpList_appG rfl _ _ rfl elemW rfl HR3.o1 rfl rfl (blk_news hb9) (by simp [Value.oneCell']) (by omega) (by unfold maxLen; omega) HR3.be.size ?_
          intro v9 w8 hownN hgN hatN
          have hen : enBu ⟨⟨pid, at_, S⟩, a1, c3⟩ = [.int .i64 pid, .int .i64 at_, .slice a1 M c3] := by unfold enBu; rw [hSM]
          have HR4 := Lib.hid (HR3.add1 HO3 (by rw [hen]; exact hownN) hgN hatN)
          have HO4 := Lib.hid (HO3.grown hgN hatN)
          have HD4 := Lib.hid (show (D ++ [(⟨⟨pid, at_, S⟩, a1, c3⟩ : Bu)]).map Bu.b = (L.map rb).take (q + 1) from by rw [List.map_append, HI.out.d, HDR.out.2]; rfl)
          obtain ⟨D1, hD1⟩ : ∃ D1, D ++ [(⟨⟨pid, at_, S⟩, a1, c3⟩ : Bu)] = D1 := ⟨_, rfl⟩
          rw [hD1] at HR4 HD4
          clear HR2 HO HR3 HO3 hb9 hg9 hownN hgN hatN f0 f1 hen hD1
          by_cases he : e = 0
          · subst he
            have hok := HI.out.ok rfl
            rw [HDR.out.1, planE, planL] at hok
            dsimp only at hok
            have k2 := lmany_any a1 M c3 S w8 hSM (by omega) HO4.out.1.s (by have := sum_B hsm.2; omega)
            have hNB := manyN_le hsm.2
            obtain ⟨E, hE⟩ : ∃ E, manyE S = E := ⟨_, rfl⟩
            obtain ⟨N, hNN⟩ : ∃ N, manyN S = N := ⟨_, rfl⟩
            have HEN := Lib.hid (And.intro hE hNN)
            rw [hE, hNN] at k2 hok
            rw [hNN, hSM] at hNB
            have hmx : ∀ (ts : Array TypeId) (ty : TypeId) (V : World), (Builtin.max_ ts ty #[.int .i64 en, .int .i64 at_]).run Try.prog V = .ok (.int .i64 (max at_ en)) V := fun ts ty V => by
              rw [run_max_int2]
              congr 2
              split <;> omega
            obtain ⟨m, hm⟩ : ∃ m, max at_ en = m := ⟨_, rfl⟩
            rw [hm] at hmx hok
            have HMM := Lib.hid hm
            have HOK := Lib.hid hok
            have hN3 : N ≤ 300 := by omega
            have HW := Lib.hid HI.out.len
            clear hE hNN hm hok hNB HI
            go_wp2_with fail
            (with_reducible refine (k2).mono ?_); rintro e5 W5 ⟨rfl, hb5⟩
            have HR5 := Lib.hid (HR4.out.below hb5)
            have HO5 := Lib.hid (HO4.out.below hb5)
            have k3 := many_any a1 M c3 S W5 hSM (by omega) hc3 HO5.out.1.s (fun s hs => by have := hsm.2 s hs; omega)
            rw [HEN.out.1, HEN.out.2] at k3
            clear k2 hb5 HR4 HO4
            go_wp2_with fail
            (with_reducible refine (k3).mono ?_); rintro e6 W6 ⟨rfl, hb6⟩
            have HR6 := Lib.hid (HR5.out.below hb6)
            have HO6 := Lib.hid (HO5.out.below hb6)
            have f0 := fun p => ((HR6.out.below (below_ext _ p)).be.cell (p := ⟨b0, o0 + q * 3, none⟩) hlt).trans CW.out.1
            have f1 := fun p => ((HR6.out.below (below_ext _ p)).be.cell (p := ⟨b0, o0 + q * 3 + 1, none⟩) hlt).trans CW.out.2.1
            have g1 := (HR6.out.be.cell (p := ⟨b0, o0 + q * 3 + 1, none⟩) hlt).trans CW.out.2.1
            have kr := fun V => lright_any pid at_ V
            obtain ⟨R, hR⟩ : ∃ R, decide (rightP pid at_) = R := ⟨_, rfl⟩
            rw [hR] at kr
            have HRR := Lib.hid hR
            clear k3 hb6 HR5 HO5 hR
            go_wp2_with fail
            refine Go.Proofs.Yteabmloeopoehaa.Q.region_ext (by kernel_rfl) (by kernel_rfl) ?_
            repeat (go_big_quiet_step ((go_at_call 10; refine ext_call_same (kr _))))
            refine wpQuiet_nil ?_
            rintro w7 ⟨pq7, rfl⟩
            have HR7 := Lib.hid (HR6.out.below (below_ext _ pq7))
            have HO7 := Lib.hid (HO6.out.below (below_ext _ pq7))
            have g0 := f0 pq7
            obtain ⟨W7, hW7⟩ : ∃ W7, ext W6 pq7 = W7 := ⟨_, rfl⟩
            rw [hW7] at HR7 HO7 g0 ⊢
            have HOm := Lib.hid (off_at (b' := ⟨pid, m, S⟩) HO7.out rfl)
            clear hW7 f0 f1 g1 HR6 HO6 kr HO7 hmx
            cases R with
            | false =>
              have HI9 := Lib.hid (fun x => (show Sta most L (q + 1) 15 x D1 (W ++ [(⟨⟨pid, m, S⟩, a1, c3⟩ : Bu)]) from ⟨HD4.out, fun h => (by cases h), fun _ => by
                have := HOK.out.2.2.1
                rw [if_pos (by have := HRR.out; simpa using this)] at this
                exact this.symm, by have := HW.out; simp; exact this⟩))
              have hb9 := Blk.new W7 41 #[.int .i64 pid, .int .i64 m, .slice a1 M c3]
              have hbn := (Below.refl W7.heap.size W7).alloc (Nat.le_refl _) (.cells #[.int .i64 pid, .int .i64 m, .slice a1 M c3] 41)
              have HR8 := HR7.out.below hbn
              have HO8 := HOm.out.below hbn
              have hwl : W.length ≤ 10 := by have := HW.out; omega
              clear HR7 HOm hbn
              go_wp2_with (at_builtin; refine wpList_appG rfl _ _ rfl elemB rfl HR8.o2 rfl rfl (blk_news hb9) (by simp [Value.oneCell']) (by omega) (by unfold maxLen; omega) HR8.be.size ?_)
              intro v8 w8 hownN hgN hatN
              have HR9 := Lib.hid (HR8.add2 HO8 (by rw [show enBu ⟨⟨pid, m, S⟩, a1, c3⟩ = [.int .i64 pid, .int .i64 m, .slice a1 M c3] by unfold enBu; rw [hSM]]; exact hownN) hgN (by simpa using hatN))
              clear HR8 HO8 hb9 hownN hgN hatN
              go_wp2_with fail
              go_roundw
              case measure => simp [intOf]; omega
              case rel => exact ⟨q + 1, 15, _, _, _, by omega, by go_num, rfl, rfl, Lib.hid (HI9.out _), HR9⟩
            | true =>
              have hr := of_decide_eq_true HRR.out
              have hr0 := hr.2.2.1
              clear hr
              by_cases hE0 : E = 0
              · subst hE0
                by_cases hmo : most < (N : Int)
                · have t3 : decide (most < (N : Int)) = true := decide_eq_true hmo
                  have HI9 := Lib.hid (fun x => (show Sta most L (q + 1) 17 x D1 (W ++ [(⟨⟨pid, m, S⟩, a1, c3⟩ : Bu)]) from ⟨HD4.out, fun h => (by cases h), fun _ => by
                    have := HOK.out.2.2.1
                    rw [if_neg (by have := of_decide_eq_true HRR.out; simpa using this), if_neg (by decide), if_pos hmo] at this
                    exact this.symm, by have := HW.out; simp; exact this⟩))
                  clear hmo
                  have hb9 := Blk.new W7 41 #[.int .i64 pid, .int .i64 m, .slice a1 M c3]
                  have hbn := (Below.refl W7.heap.size W7).alloc (Nat.le_refl _) (.cells #[.int .i64 pid, .int .i64 m, .slice a1 M c3] 41)
                  have HR8 := HR7.out.below hbn
                  have HO8 := HOm.out.below hbn
                  have hwl : W.length ≤ 10 := by have := HW.out; omega
                  clear HR7 HOm hbn
                  go_wp2_with (at_builtin; refine wpList_appG rfl _ _ rfl elemB rfl HR8.o2 rfl rfl (blk_news hb9) (by simp [Value.oneCell']) (by omega) (by unfold maxLen; omega) HR8.be.size ?_)
                  intro v8 w8 hownN hgN hatN
                  have HR9 := Lib.hid (HR8.add2 HO8 (by rw [show enBu ⟨⟨pid, m, S⟩, a1, c3⟩ = [.int .i64 pid, .int .i64 m, .slice a1 M c3] by unfold enBu; rw [hSM]]; exact hownN) hgN (by simpa using hatN))
                  clear HR8 HO8 hb9 hownN hgN hatN
                  go_wp2_with fail
                  go_roundw
                  case measure => simp [intOf]; omega
                  case rel => exact ⟨q + 1, 17, _, _, _, by omega, by go_num, rfl, rfl, Lib.hid (HI9.out _), HR9⟩
                · have t3 : decide (most < (N : Int)) = false := decide_eq_false hmo
                  by_cases hms : 1048576 < m
                  · have t4 : decide (1048576 < m) = true := decide_eq_true hms
                    have HI9 := Lib.hid (fun x => (show Sta most L (q + 1) 15 x D1 (W ++ [(⟨⟨pid, m, S⟩, a1, c3⟩ : Bu)]) from ⟨HD4.out, fun h => (by cases h), fun _ => by
                      have := HOK.out.2.2.1
                      rw [if_neg (by have := of_decide_eq_true HRR.out; simpa using this), if_neg (by decide), if_neg hmo, if_pos hms] at this
                      exact this.symm, by have := HW.out; simp; exact this⟩))
                    clear hmo hms
                    have hb9 := Blk.new W7 41 #[.int .i64 pid, .int .i64 m, .slice a1 M c3]
                    have hbn := (Below.refl W7.heap.size W7).alloc (Nat.le_refl _) (.cells #[.int .i64 pid, .int .i64 m, .slice a1 M c3] 41)
                    have HR8 := HR7.out.below hbn
                    have HO8 := HOm.out.below hbn
                    have hwl : W.length ≤ 10 := by have := HW.out; omega
                    clear HR7 HOm hbn
                    go_wp2_with (at_builtin; refine wpList_appG rfl _ _ rfl elemB rfl HR8.o2 rfl rfl (blk_news hb9) (by simp [Value.oneCell']) (by omega) (by unfold maxLen; omega) HR8.be.size ?_)
                    intro v8 w8 hownN hgN hatN
                    have HR9 := Lib.hid (HR8.add2 HO8 (by rw [show enBu ⟨⟨pid, m, S⟩, a1, c3⟩ = [.int .i64 pid, .int .i64 m, .slice a1 M c3] by unfold enBu; rw [hSM]]; exact hownN) hgN (by simpa using hatN))
                    clear HR8 HO8 hb9 hownN hgN hatN
                    go_wp2_with fail
                    go_roundw
                    case measure => simp [intOf]; omega
                    case rel => exact ⟨q + 1, 15, _, _, _, by omega, by go_num, rfl, rfl, Lib.hid (HI9.out _), HR9⟩
                  · have t4 : decide (1048576 < m) = false := decide_eq_false hms
                    have hm0 : 0 ≤ m := by have := HMM.out; omega
                    have hm9 : m ≤ 1048576 := by omega
                    have hN0 : (0 : Int) ≤ (N : Int) := Int.natCast_nonneg _
                    have hN9 : (N : Int) ≤ 300 := by omega
                    have HI9 := Lib.hid (show ∀ x, x = m + (N : Int) → Sta most L (q + 1) 0 x D1 (W ++ [(⟨⟨pid, m, S⟩, a1, c3⟩ : Bu)]) from by
                      rintro x rfl
                      have := HOK.out.2.2.1
                      rw [if_neg (by have := of_decide_eq_true HRR.out; simpa using this), if_neg (by decide), if_neg hmo, if_neg hms] at this
                      refine ⟨HD4.out, fun _ => ⟨by omega, by omega, this, ?_⟩, fun h => absurd rfl h, by have := HW.out; simp; exact this⟩
                      rw [← HOK.out.2.2.2, List.map_append, List.append_assoc]
                      rfl)
                    clear hmo hms
                    have hb9 := Blk.new W7 41 #[.int .i64 pid, .int .i64 m, .slice a1 M c3]
                    have hbn := (Below.refl W7.heap.size W7).alloc (Nat.le_refl _) (.cells #[.int .i64 pid, .int .i64 m, .slice a1 M c3] 41)
                    have HR8 := HR7.out.below hbn
                    have HO8 := HOm.out.below hbn
                    have hwl : W.length ≤ 10 := by have := HW.out; omega
                    clear HR7 HOm hbn
                    go_wp2_with (at_builtin; refine wpList_appG rfl _ _ rfl elemB rfl HR8.o2 rfl rfl (blk_news hb9) (by simp [Value.oneCell']) (by omega) (by unfold maxLen; omega) HR8.be.size ?_)
                    intro v8 w8 hownN hgN hatN
                    have HR9 := Lib.hid (HR8.add2 HO8 (by rw [show enBu ⟨⟨pid, m, S⟩, a1, c3⟩ = [.int .i64 pid, .int .i64 m, .slice a1 M c3] by unfold enBu; rw [hSM]]; exact hownN) hgN (by simpa using hatN))
                    clear HR8 HO8 hb9 hownN hgN hatN
                    go_wp2_with fail
                    go_roundw
                    case measure => simp [intOf]; omega
                    case rel => exact ⟨q + 1, 0, m + N, _, _, by omega, by go_num, rfl, rfl, Lib.hid (HI9.out _ rfl), HR9⟩
              · have t2 : (E == 0) = false := beq_eq_false_iff_ne.2 hE0
                have HI9 := Lib.hid (fun x => (show Sta most L (q + 1) E x D1 (W ++ [(⟨⟨pid, m, S⟩, a1, c3⟩ : Bu)]) from ⟨HD4.out, fun h => absurd h hE0, fun _ => by
                  have := HOK.out.2.2.1
                  rw [if_neg (by have := of_decide_eq_true HRR.out; simpa using this), if_pos hE0] at this
                  exact this.symm, by have := HW.out; simp; exact this⟩))
                clear hE0
                have hb9 := Blk.new W7 41 #[.int .i64 pid, .int .i64 m, .slice a1 M c3]
                have hbn := (Below.refl W7.heap.size W7).alloc (Nat.le_refl _) (.cells #[.int .i64 pid, .int .i64 m, .slice a1 M c3] 41)
                have HR8 := HR7.out.below hbn
                have HO8 := HOm.out.below hbn
                have hwl : W.length ≤ 10 := by have := HW.out; omega
                clear HR7 HOm hbn
                go_wp2_with (at_builtin; refine wpList_appG rfl _ _ rfl elemB rfl HR8.o2 rfl rfl (blk_news hb9) (by simp [Value.oneCell']) (by omega) (by unfold maxLen; omega) HR8.be.size ?_)
                intro v8 w8 hownN hgN hatN
                have HR9 := Lib.hid (HR8.add2 HO8 (by rw [show enBu ⟨⟨pid, m, S⟩, a1, c3⟩ = [.int .i64 pid, .int .i64 m, .slice a1 M c3] by unfold enBu; rw [hSM]]; exact hownN) hgN (by simpa using hatN))
                clear HR8 HO8 hb9 hownN hgN hatN
                go_wp2_with fail
                go_roundw
                case measure => simp [intOf]; omega
                case rel => exact ⟨q + 1, E, _, _, _, by omega, by go_num, rfl, rfl, Lib.hid (HI9.out _), HR9⟩
          · have t2 : (e == 0) = false := beq_eq_false_iff_ne.2 he
            have HI5 := Lib.hid (show Sta most L (q + 1) e en D1 W from ⟨HD4.out, fun h => absurd h he, HI.out.bad, by have := HI.out.len; omega⟩)
            clear he
            go_wp2_with fail
            go_roundw
            case rel => exact ⟨q + 1, e, en, _, W, by omega, by go_num, rfl, rfl, HI5, HR4⟩
            case measure => simp [intOf]; omega
        · obtain rfl : q = n := by omega
          have t1 : decide (q < q) = false := by simp
          have hDb : D.map Bu.b = L.map rb := by rw [HI.out.d, List.take_of_length_le (by rw [List.length_map, HN.out]; exact Nat.le_refl _)]
          have hDl : D.length = q := by have := congrArg List.length hDb; rw [List.length_map, List.length_map, HN.out] at this; exact this
          have hdr0 : (L.map rb).drop q = [] := List.drop_of_length_le (by rw [List.length_map, HN.out]; exact Nat.le_refl _)
          have hsmD : ∀ x ∈ D, Small x.b := fun x hx => by
            have : x.b ∈ L.map rb := by rw [← hDb]; exact List.mem_map_of_mem hx
            obtain ⟨r, hr, hr2⟩ := List.mem_map.1 this
            rw [← hr2]; exact HSM.out r hr
          obtain ⟨aD, cD, hvD, _⟩ := own_cap HR.out.o1
          subst hvD
          obtain ⟨aW, cW, hvW, _⟩ := own_cap HR.out.o2
          subst hvW
          have hqD := own_seq enBu_len HR.out.o1 rfl
          have kp := plan_any most aD D.length cD D wr rfl (by omega) hqD (fun x hx => (HR.out.d1 x hx).1) hsmD
          rw [hDb] at kp
          have hIok := HI.out.ok
          rw [hdr0] at hIok
          have HIB := Lib.hid HI.out.bad
          have HIO := Lib.hid (show e = 0 → 0 = planR most (L.map rb) ∧ W.map Bu.b = planL 0 (L.map rb) from fun h => by
            obtain ⟨_, _, h1, h2⟩ := hIok h
            rw [planE] at h1
            rw [planL, List.append_nil] at h2
            exact ⟨h1, h2⟩)
          have hbr := HR.out.be
          have HZ := Lib.hid (And.intro hDl hbr.size)
          rw [hDl]
          rw [hDl] at kp
          clear hDb hdr0 hsmD hqD hIok HI hDl
          go_wp2_with fail
          (with_reducible refine (kp).mono ?_); rintro e1 W3 ⟨hb3, v, E, rfl, hER, hEb, hEo⟩
          have hb4 := hbr.trans (hb3.mono hbr.size)
          have HER := Lib.hid hER
          clear kp hER
          by_cases he : e = 0
          · subst he
            obtain ⟨h1, h2⟩ := HIO.out rfl
            have hE0 : E = 0 := by rw [HER.out, ← h1]
            subst hE0
            obtain ⟨Dv, hDv, hownv, hDok⟩ := hEo rfl
            have hPE : planE most 0 (L.map rb) = 0 := by
              have h3 := h1.symm
              unfold planR at h3
              split at h3
              · cases h3
              · exact h3
            have hDvl : Dv.length = q := by have := congrArg List.length hDv; rw [List.length_map, plan_len, List.length_map, HN.out] at this; exact this
            have hWl : W.length = q := by have := congrArg List.length h2; rw [List.length_map, plan_len, List.length_map, HN.out] at this; exact this
            have hsmV : ∀ x ∈ Dv, Small x.b := fun x hx => by
              have : x.b ∈ planL 0 (L.map rb) := by rw [← hDv]; exact List.mem_map_of_mem hx
              obtain ⟨b', hb', e⟩ := plan_S _ _ _ this
              obtain ⟨r, hr, hr2⟩ := List.mem_map.1 hb'
              have := HSM.out r hr
              rw [hr2] at this
              unfold Small at this ⊢
              rw [e]; exact this
            obtain ⟨aV, cV, hvV, _⟩ := own_cap hownv
            subst hvV
            have hqV := own_seq enBu_len hownv hDvl
            have kc := check_any aV q cV Dv W3 hDvl (by omega) hqV hDok hsmV
            rw [hDv, plan_check most _ 0 (by decide) hPE] at kc
            have hqW := (own_seq enBu_len HR.out.o2 rfl).below (Nat.le_refl _) hb3
            rw [hWl]
            have HSV := Lib.hid (show ∀ x ∈ Dv, BuOk W3 x from hDok)
            have HSW := Lib.hid (show ∀ x ∈ W, BuOk W3 x from fun x hx => (HR.out.d2 x hx).1.below (Nat.le_refl _) hb3)
            have HQ := Lib.hid (And.intro hqV hqW)
            have HLL := Lib.hid (And.intro hDvl hWl)
            have HEQ := Lib.hid (show Dv.map Bu.b = W.map Bu.b from by rw [hDv, h2])
            have HSmV := Lib.hid hsmV
            clear hEb hEo h1 h2 HR HIO HIB HER hPE hDvl hWl hsmV hqV hqW hDok hDv hownv HZ
            go_wp2_with fail
            (with_reducible refine (kc).mono ?_); rintro e5 W5 ⟨rfl, hb5⟩
            have hb6 := hb4.trans (hb5.mono hb4.size)
            have HB := Lib.hid (And.intro hb3.size hb5)
            clear kc hb3 hb5
            go_wp2_with fail
            go_loopw [18] (fun i wi => ∃ k : Nat, k ≤ q ∧ i = .int .i64 k ∧ Below W5.heap.size W5 wi) (fun i _ => q - (intOf i).toNat)
            case atStart => exact ⟨0, by omega, rfl, Below.refl _ _⟩
            case round =>
              obtain ⟨k, hk, rfl, hb⟩ := hrel
              by_cases hkq : k < q
              · have u1 : decide (k < q) = true := decide_eq_true hkq
                obtain ⟨x, hx⟩ : ∃ x, Dv[k]? = some x := ⟨_, List.getElem?_eq_getElem (by rw [HLL.out.1]; exact hkq)⟩
                obtain ⟨y, hy⟩ : ∃ y, W[k]? = some y := ⟨_, List.getElem?_eq_getElem (by rw [HLL.out.2]; exact hkq)⟩
                have hxy : x.b = y.b := by
                  have h1 : (Dv.map Bu.b)[k]? = some x.b := by rw [List.getElem?_map, hx]; rfl
                  rw [HEQ.out, List.getElem?_map, hy] at h1
                  injection h1 with h1
                  exact h1.symm
                have hbw := HB.out.2.trans (hb.mono HB.out.2.size)
                obtain ⟨b1, o1, rfl, l1, hc1⟩ := (HQ.out.1.below (Nat.le_refl _) hbw) k x hx
                obtain ⟨b2, o2, rfl, l2, hc2⟩ := (HQ.out.2.below (Nat.le_refl _) hbw) k y hy
                have x1 := (HSV.out x (List.mem_of_getElem? hx)).below (Nat.le_refl _) hbw
                have x2 := (HSW.out y (List.mem_of_getElem? hy)).below (Nat.le_refl _) hbw
                have hsm := (HSmV.out x (List.mem_of_getElem? hx)).1
                obtain ⟨⟨pid, at_, S⟩, xa, xc⟩ := x
                obtain ⟨yb, ya, yc⟩ := y
                dsimp only at hxy
                subst hxy
                dsimp only at hsm
                have k0 : (0 : Int) ≤ (k : Int) := Int.natCast_nonneg _
                have k1 : (k : Int) < (q : Int) := by omega
                have e0 := fun p => cell_ext l1 (hc1 0 _ rfl) p
                have e1 := fun p => cell_ext l1 (hc1 1 _ rfl) p
                have e2 := fun p => cell_ext l1 (hc1 2 _ rfl) p
                have g0 := fun p => cell_ext l2 (hc2 0 _ rfl) p
                have g1 := fun p => cell_ext l2 (hc2 1 _ rfl) p
                have g2 := fun p => cell_ext l2 (hc2 2 _ rfl) p
                dsimp only at e0 e1 e2 g0 g1 g2
                rw [off_eq] at e0 e1 e2 g0 g1 g2
                rw [Nat.add_zero] at e0 g0
                have ks := fun p : Ext => same_any xa ya S.length xc S.length yc S S (ext wr p) rfl rfl (by omega) (x1.s.below (Nat.le_refl _) (below_ext wr p)) (x2.s.below (Nat.le_refl _) (below_ext wr p))
                rw [decide_eq_true (rfl : S = S)] at ks
                obtain ⟨ns, hns⟩ : ∃ ns, S.length = ns := ⟨_, rfl⟩
                rw [hns] at ks e2 g2
                clear hc1 hc2 x1 x2 hx hy hns
                go_wp2_with fail
                refine Go.Proofs.Yteabmloeopoehaa.Q.region_ext (by kernel_rfl) (by kernel_rfl) ?_
                repeat (go_big_quiet_step ((go_at_call 13; refine ext_call (ks _))))
                refine wpQuiet_nil ?_
                rintro w9 ⟨pq, rfl⟩
                have hb8 := hb.trans ((below_ext wr pq).mono hb.size)
                clear e0 e1 e2 g0 g1 g2 ks hb
                go_wp2_with fail
                go_roundw
                case rel => exact ⟨k + 1, by omega, by go_num, hb8⟩
                case measure => simp [intOf]; omega
              · obtain rfl : k = q := by omega
                have u1 : decide (k < k) = false := by simp
                have hb7 := hb6.trans (hb.mono hb6.size)
                go_wp2_with fail
                (with_reducible refine (awake_any _).mono ?_); rintro e6 W6 ⟨rfl, hb9⟩
                have hbz := hb7.trans (hb9.mono hb7.size)
                go_wp2_with fail
                go_ret
                exact ⟨rfl, hbz⟩
          · have hE0 : E = e := by rw [HER.out, HIB.out he]
            subst hE0
            have hv := hEb he
            subst hv
            have t2 : (E == 0) = false := beq_eq_false_iff_ne.2 he
            have t3 : (E == E) = true := beq_self_eq_true E
            have t4 : (E != 0) = true := by simpa using he
            clear hEo hEb
            go_wp2_with fail
            (with_reducible refine (awake_any _).mono ?_); rintro e6 W6 ⟨rfl, hb9⟩
            have hbz := hb4.trans (hb9.mono hb4.size)
            go_wp2_with fail
            go_ret
            exact ⟨rfl, hbz⟩
end Go.Proofs.Yteabmloeopoehaa.SlY
