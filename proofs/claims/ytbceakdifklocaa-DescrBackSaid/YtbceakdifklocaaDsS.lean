/- descr.Parse. -/
import Derived.Test.YtbceakdifklocaaDsR
import Derived.WalkMore
namespace Go.Proofs.Ytbceakdifklocaa.DsS
open Go.RowKit Go.Proofs.Ytbceakdifklocaa.Q Go.Proofs.Ytbceakdifklocaa.Mem Go.Proofs.Ytbceakdifklocaa.DsA Go.Proofs.Ytbceakdifklocaa.DsB Go.Proofs.Ytbceakdifklocaa.DsC Go.Proofs.Ytbceakdifklocaa.DsD Go.Proofs.Ytbceakdifklocaa.DsE Go.Proofs.Ytbceakdifklocaa.DsApart Go.Proofs.Ytbceakdifklocaa.DsI Go.Proofs.Ytbceakdifklocaa.DsK Go.Proofs.Ytbceakdifklocaa.DsP Go.Proofs.Ytbceakdifklocaa.DsQ Go.Proofs.Ytbceakdifklocaa.DsR Go.Proofs.Ytbceakdifklocaa.Rg Go.Proofs.Ytbceakdifklocaa.Ap
set_option maxRecDepth 100000
/-- at the label -/
def At (s : ByteArray) (w : World) (a : Act) (W : World) : Prop := ∃ (A : List Dc) (p : Nat) (t : ByteArray) (v u5 u6 u7 u8 u9 u10 u11 u12 u13 u14 u15 u16 u17 u18 u19 u20 u21 u22 u23 u24 u25 u26 u27 u28 u29 u30 u31 u32 u33 u34 u35 u36 u37 u38 u39 u40 : Value),
  a = { tmps := #[.string t, undef, .slice none 0 0, .int .i64 0, v, u5, u6, u7, u8, u9, u10, u11, u12, u13, u14, u15, u16, u17, u18, u19, u20, u21, u22, u23, u24, u25, u26, u27, u28, u29, u30, u31, u32, u33, u34, u35, u36, u37, u38, u39, u40], defers := [] } ∧ p + t.size = s.size ∧ t = str (s.data.toList.drop p) ∧ 2 * A.length ≤ p ∧ W.ownsRow w.heap.size 30 2 v A.length (flat enD A) ∧ Mid s.data.toList A p ∧ Below w.heap.size w W
def left (a : Act) (_ : World) : Nat := match a.tmps.getD 0 undef with | .string t => t.size | _ => 0
theorem isEmpty_iff (t : ByteArray) : t.toList.isEmpty = decide (t.size = 0) := by
  rw [ByteArray.toList_eq]
  obtain ⟨⟨l⟩⟩ := t
  cases l <;> simp [ByteArray.size]
theorem str_data (l : List UInt8) : (str l).data.toList = l := rfl
set_option maxHeartbeats 3200000 in
theorem parse_new (s : ByteArray) (w : World) :
    Calls Try.prog 19 #[.string s] w fun e w' => ∃ a' c', e = .returned (.tuple #[.slice a' (prsL s).length c', .int .i64 (prsE s)]) ∧ (Ds w' a' (prsL s) ∧ Fresh w a') ∧ Below w.heap.size w w' := by
  obtain ⟨R, hR⟩ : ∃ R : Ending → World → Prop, R = (fun e w' => ∃ a' c', e = .returned (.tuple #[.slice a' (prsL s).length c', .int .i64 (prsE s)]) ∧ (Ds w' a' (prsL s) ∧ Fresh w a') ∧ Below w.heap.size w w') := ⟨_, rfl⟩
  rw [← hR]
  have HR := Lib.hid hR
  clear hR
  have hll : s.data.toList.length = s.size := Array.length_toList
  by_cases h : 4095 < s.size
  · have e1 : prsL s = [] := by unfold prsL; rw [if_pos h]
    have e2 : prsE s = 11 := by unfold prsE; rw [if_pos h]
    have HE := Lib.hid (And.intro e1 e2)
    have t0 : decide (4095 < (s.size : Int)) = true := by simp; omega
    clear h hll e1 e2
    go_enter Try.func19, Try.ntmps19
    go_wp2_with fail
    go_step3
    go_wp2_with fail
    rw [HR.out, HE.out.1, HE.out.2]
    exact ⟨none, 0, rfl, ⟨fun i x hi => by simp at hi, fun b o e => by cases e⟩, Below.refl _ _⟩
  have t0 : decide (4095 < (s.size : Int)) = false := by simp; omega
  have HN := Lib.hid (show prs s.data.toList = none → prsL s = [] ∧ prsE s = 10 from fun e => by unfold prsL prsE; rw [if_neg h, if_neg h, e]; exact ⟨rfl, rfl⟩)
  have HY := Lib.hid (show ∀ A, prs s.data.toList = some A → prsL s = A ∧ prsE s = 0 from fun A e => by unfold prsL prsE; rw [if_neg h, if_neg h, e]; exact ⟨rfl, rfl⟩)
  have hs4 : s.size ≤ 4095 := by omega
  clear h
  go_enter Try.func19, Try.ntmps19
  go_wp2_with fail
  refine wp_scope_one 0 (At s w) left rfl ?_ ?_
  · rintro a W ⟨A, p, t, v, u5, u6, u7, u8, u9, u10, u11, u12, u13, u14, u15, u16, u17, u18, u19, u20, u21, u22, u23, u24, u25, u26, u27, u28, u29, u30, u31, u32, u33, u34, u35, u36, u37, u38, u39, u40, rfl, hp, ht, hA, hown, hM, hb⟩
    have HT := Lib.hid ht
    have HM := Lib.hid hM
    clear ht hM t0
    have hat : ∀ (i : Nat) (x : UInt8), t.data.toList[i]? = some x → s.data.toList[p + i]? = some x := fun i x hi => by
      rw [HT.out, str_data, List.getElem?_drop] at hi; exact hi
    by_cases h0 : t.size = 0
    · have t1 : t.toList.isEmpty = true := by rw [isEmpty_iff]; simpa using h0
      have HE := Lib.hid (HY.out A (mid_end (by rw [hll, ← hp, h0]; exact HM.out)))
      obtain ⟨a', c', rfl⟩ := own_form hown
      have HO := Lib.hid (seq_ds (own_seq enD_len hown rfl))
      have HF := Lib.hid (show Fresh w a' from fun b o e => (hown.lt b (by rw [e]; rfl)).1)
      clear hown hat h0
      go_wp2_with fail
      rw [HR.out, HE.out.1, HE.out.2]
      exact ⟨a', c', rfl, ⟨HO.out, HF.out⟩, hb⟩
    · have t1 : t.toList.isEmpty = false := by rw [isEmpty_iff]; simpa using h0
      by_cases h1 : t.size < 2
      · have t2 : decide ((t.size : Int) < 2) = true := by simp; omega
        have HE := Lib.hid (HN.out (mid_one HM.out (by rw [hll]; omega)))
        clear hown hat h0 h1
        go_wp2_with fail
        rw [HR.out, HE.out.1, HE.out.2]
        exact ⟨none, 0, rfl, ⟨fun i x hi => by simp at hi, fun b o e => by cases e⟩, hb⟩
      · have t2 : decide ((t.size : Int) < 2) = false := by simp; omega
        obtain ⟨x, hx, hx'⟩ := byte_at t 0 (by omega)
        obtain ⟨n, hn, hn'⟩ := byte_at t 1 (by omega)
        have ht := hat 0 x hx
        have hn2 := hat 1 n hn
        rw [Nat.add_zero] at ht
        have i0 : ∀ V : World, (Instr.index 9 (.string t) (.int .i64 0)).run Try.prog V = .ok (.int .u8 (x.toNat : Int)) V := fun V => by rw [← hx']; exact idx_at t 0 (by omega) V
        have i1 : ∀ V : World, (Instr.index 9 (.string t) (.int .i64 1)).run Try.prog V = .ok (.int .u8 (n.toNat : Int)) V := fun V => by rw [← hn']; exact idx_at t 1 (by omega) V
        have hn8 := n.toNat_lt
        have ht8 := x.toNat_lt
        obtain ⟨N, hN⟩ : ∃ N, n.toNat = N := ⟨_, rfl⟩
        obtain ⟨T, hT⟩ : ∃ T, x.toNat = T := ⟨_, rfl⟩
        rw [hN] at i1 hn8
        rw [hT] at i0 ht8
        have q2 : IntKind.i64.wrap (N : Int) = N := by rw [IntKind.wrap_i64]; omega
        have q3 : IntKind.i64.wrap (2 + (N : Int)) = 2 + (N : Int) := by rw [IntKind.wrap_i64]; omega
        have q5 : IntKind.i64.wrap (T : Int) = T := by rw [IntKind.wrap_i64]; omega
        by_cases hs : t.size < 2 + N
        · have t3 : decide ((t.size : Int) < 2 + (N : Int)) = true := by simp; omega
          have HE := Lib.hid (HN.out (mid_short HM.out ht hn2 (by rw [hll, hN]; omega)))
          clear hown hat h0 h1 hx hn hx' hn' ht hn2 hN hT hs
          go_wp2_with fail
          rw [HR.out, HE.out.1, HE.out.2]
          exact ⟨none, 0, rfl, ⟨fun i x hi => by simp at hi, fun b o e => by cases e⟩, hb⟩
        · have t3 : decide ((t.size : Int) < 2 + (N : Int)) = false := by simp; omega
          have HI2 := Lib.hid (mid_step HM.out ht hn2 (by rw [hll, hN]; omega))
          rw [hN, hT] at HI2
          have hy1 : (2 : Int) ≤ 2 + (N : Int) := by omega
          have hy2 : (2 : Int) + (N : Int) ≤ (t.size : Int) := by omega
          have hy3 : (0 : Int) ≤ 2 + (N : Int) := by omega
          clear hat h0 h1 hx hn hx' hn' ht hn2 hN hT
          go_wp2_with fail
          refine Go.Proofs.Ytbceakdifklocaa.Rg.region_new [(8, newS 1 30 #[.int .i64 (T : Int), .string (t.extract 2 (2 + N))] 0)] 9 (by kernel_rfl) (by kernel_rfl) (by kernel_rfl) (lk_cons newS_inh lk_nil) (lk_cons newS_mono lk_nil) ?_
          intro σ hσ
          simp only [List.take_succ_cons, List.take_zero, List.drop_succ_cons, List.drop_zero]
          refine Go.Proofs.Ytbceakdifklocaa.Rg.wpN_take 8 (by kernel_rfl) (by kernel_rfl) (by kernel_rfl) ?_
          simp only [List.take_succ_cons, List.take_zero, List.drop_succ_cons, List.drop_zero]
          repeat (go_big_quiet_step (fail))
          refine wpQuiet_nil ?_
          refine Go.Proofs.Ytbceakdifklocaa.Rg.wpN_sp _ rfl (by kernel_rfl) (spAt_newS 1 30 #[.int .i64 (T : Int), .string (t.extract 2 (2 + N))] (Nat.zero_le _) (by intro w0; go_simp)) ?_
          simp only [Act.put, List.setIfInBounds_toArray, List.set_cons_zero, List.set_cons_succ]
          refine Go.Proofs.Ytbceakdifklocaa.Rg.wpN_nil ?_
          rintro w9 ⟨pq, rfl⟩ hp
          obtain ⟨g9, hg9, _, hb9⟩ := hp 8 _ rfl
          rw [hg9]
          clear hp hσ
          have hown0 := own_below hown (below_ext _ pq)
          have hb0 := hb.trans ((below_ext _ pq).mono hb.size)
          have hsz0 := hb0.size
          refine wpList_app rfl _ _ rfl elemD rfl hown0 rfl rfl (blk_news hb9) (by simp [Value.oneCell']) (by omega) (by unfold maxLen; omega) hsz0 ?_
          intro v9 w8 hown9 hb8
          have hb7 := hb0.trans hb8
          clear hown0 hb0 hb8 hb9 hg9 hsz0
          go_wp2_with fail
          have hn2 : (A ++ [(⟨(T : Int), str ((s.data.toList.drop (p + 2)).take N)⟩ : Dc)]).length = A.length + 1 := by simp
          have hcell : t.extract 2 (2 + N) = str ((s.data.toList.drop (p + 2)).take N) := by
            rw [ext_str, HT.out, str_data, List.drop_drop]
          have hown3 : w8.ownsRow w.heap.size 30 2 v9 (A ++ [(⟨(T : Int), str ((s.data.toList.drop (p + 2)).take N)⟩ : Dc)]).length (flat enD (A ++ [(⟨(T : Int), str ((s.data.toList.drop (p + 2)).take N)⟩ : Dc)])) := by
            rw [flat_app, hn2, ← hcell]; exact hown9
          have hsz : (t.extract (2 + N) t.size).size = t.size - (2 + N) := by rw [ByteArray.size_extract]; omega
          have hrest : t.extract (2 + N) t.size = str (s.data.toList.drop (p + 2 + N)) := by
            have := ext_str t (2 + N) (t.size - (2 + N))
            rw [show 2 + N + (t.size - (2 + N)) = t.size by omega] at this
            rw [this, List.take_of_length_le (by rw [List.length_drop]; exact Nat.le_of_eq (by rw [show t.data.toList.length = t.size from Array.length_toList])), HT.out, str_data, List.drop_drop, ← Nat.add_assoc]
          go_step3
          exact ⟨rfl, ⟨A ++ [(⟨(T : Int), str ((s.data.toList.drop (p + 2)).take N)⟩ : Dc)], p + 2 + N, t.extract (2 + N) t.size, v9, _, _, _, _, _, _, _, _, _, _, _, _, _, _, _, _, _, _, _, _, _, _, _, _, _, _, _, _, _, _, _, _, _, _, _, _, rfl, by omega, hrest, by omega, hown3, HI2.out, hb7⟩, by show (t.extract (2 + N) t.size).size < t.size; omega⟩
  · intro body
    go_wp2_with fail
    go_step3
    rename_i hK
    refine hK _ _ ?_
    exact body _ _ ⟨[], 0, s, .slice none 0 0, _, _, _, _, _, _, _, _, _, _, _, _, _, _, _, _, _, _, _, _, _, _, _, _, _, _, _, _, _, _, _, _, _, _, _, _, rfl, by omega, by rw [List.drop_zero, str_of], by simp, World.ownsRow_nil _ _ _ _, mid0 _, Below.refl _ _⟩
theorem parse_any (s : ByteArray) (w : World) :
    Calls Try.prog 19 #[.string s] w fun e w' => ∃ a' c', e = .returned (.tuple #[.slice a' (prsL s).length c', .int .i64 (prsE s)]) ∧ Ds w' a' (prsL s) ∧ Below w.heap.size w w' :=
  (parse_new s w).mono fun _ _ ⟨a', c', h1, h2, h3⟩ => ⟨a', c', h1, h2.1, h3⟩
end Go.Proofs.Ytbceakdifklocaa.DsS
