/- Both Parse. -/
import Derived.Test.YtbceakdifklocaaDsQ
import Derived.Test.YtbceakdifklocaaDsK
import Derived.ScopeJumps
namespace Go.Proofs.Ytbceakdifklocaa.DsR
open Go.RowKit Go.Proofs.Ytbceakdifklocaa.Q Go.Proofs.Ytbceakdifklocaa.Mem Go.Proofs.Ytbceakdifklocaa.DsA Go.Proofs.Ytbceakdifklocaa.DsB Go.Proofs.Ytbceakdifklocaa.DsC Go.Proofs.Ytbceakdifklocaa.DsD Go.Proofs.Ytbceakdifklocaa.DsE Go.Proofs.Ytbceakdifklocaa.DsApart Go.Proofs.Ytbceakdifklocaa.DsI Go.Proofs.Ytbceakdifklocaa.DsK Go.Proofs.Ytbceakdifklocaa.DsP Go.Proofs.Ytbceakdifklocaa.DsQ Go.Proofs.Ytbceakdifklocaa.Rg Go.Proofs.Ytbceakdifklocaa.Ap

/-- which descriptors bytes are -/
def prs : List UInt8 → Option (List Dc)
  | [] => some []
  | [_] => none
  | t :: n :: r => if r.length < n.toNat then none else (prs (r.drop n.toNat)).map (⟨(t.toNat : Int), str (r.take n.toNat)⟩ :: ·)
termination_by s => s.length
decreasing_by simp; omega
def prsE (s : ByteArray) : Int := if 4095 < s.size then 11 else if (prs s.data.toList).isSome then 0 else 10
def prsL (s : ByteArray) : List Dc := if 4095 < s.size then [] else (prs s.data.toList).getD []
/-- what is done, and what is left: A are read, p bytes are gone -/
def Mid (l : List UInt8) (A : List Dc) (p : Nat) : Prop := prs l = (prs (l.drop p)).map (A ++ ·)
theorem mid0 (l : List UInt8) : Mid l [] 0 := by unfold Mid; simp
theorem mid_end {l : List UInt8} {A : List Dc} (h : Mid l A l.length) : prs l = some A := by
  unfold Mid at h; rw [List.drop_length, prs] at h; simpa using h
theorem byte_at (s : ByteArray) (i : Nat) (h : i < s.size) : ∃ b : UInt8, s.data.toList[i]? = some b ∧ at' s i = (b.toNat : Int) := by
  have h' : i < s.data.size := h
  refine ⟨s.data[i], by simp, ?_⟩
  unfold at'
  rw [Array.getElem?_eq_getElem h']; rfl
theorem mid_one {l : List UInt8} {A : List Dc} {p : Nat} (h : Mid l A p) (h1 : p + 1 = l.length) : prs l = none := by
  unfold Mid at h
  have : (l.drop p).length = 1 := by simp; omega
  match hd : l.drop p, this with
  | [x], _ => rw [h, hd, prs]; rfl
theorem drop_two {l : List UInt8} {p : Nat} {t n : UInt8} (ht : l[p]? = some t) (hn : l[p + 1]? = some n) : l.drop p = t :: n :: l.drop (p + 2) := by
  have h1 := (List.getElem?_eq_some_iff.1 ht).1
  have h2 := (List.getElem?_eq_some_iff.1 hn).1
  rw [List.drop_eq_getElem_cons h1, List.drop_eq_getElem_cons h2, (List.getElem?_eq_some_iff.1 ht).2, (List.getElem?_eq_some_iff.1 hn).2]
theorem mid_short {l : List UInt8} {A : List Dc} {p : Nat} {t n : UInt8} (h : Mid l A p) (ht : l[p]? = some t) (hn : l[p + 1]? = some n) (hs : l.length < p + 2 + n.toNat) : prs l = none := by
  unfold Mid at h
  have h2 := (List.getElem?_eq_some_iff.1 hn).1
  rw [h, drop_two ht hn, prs, if_pos (by rw [List.length_drop]; omega)]; rfl
theorem mid_step {l : List UInt8} {A : List Dc} {p : Nat} {t n : UInt8} (h : Mid l A p) (ht : l[p]? = some t) (hn : l[p + 1]? = some n) (hs : ¬ l.length < p + 2 + n.toNat) :
    Mid l (A ++ [⟨(t.toNat : Int), str ((l.drop (p + 2)).take n.toNat)⟩]) (p + 2 + n.toNat) := by
  unfold Mid at h ⊢
  have h2 := (List.getElem?_eq_some_iff.1 hn).1
  rw [h, drop_two ht hn, prs, if_neg (by rw [List.length_drop]; omega), List.drop_drop]
  cases prs (List.drop (p + 2 + n.toNat) l) <;> simp
theorem ext_str (s : ByteArray) (i m : Nat) : s.extract i (i + m) = str ((s.data.toList.drop i).take m) := by
  apply ba_ext
  simp [str, ByteArray.data_extract, Array.toList_extract, List.extract_eq_take_drop]

set_option maxRecDepth 100000
theorem rparse_long (s : ByteArray) (w : World) (h : 4095 < s.size) :
    Calls Try.prog 23 #[.string s] w fun e w' => e = .returned (.tuple #[.slice none 0 0, .int .i64 11]) ∧ Below w.heap.size w w' := by
  obtain ⟨R, hR⟩ : ∃ R : Ending → World → Prop, R = (fun e w' => e = .returned (.tuple #[.slice none 0 0, .int .i64 11]) ∧ Below w.heap.size w w') := ⟨_, rfl⟩
  rw [← hR]
  have HR := Lib.hid hR
  have t0 : decide (4095 < (s.size : Int)) = true := by simp; omega
  clear h hR
  go_enter Try.func23, Try.ntmps23
  go_wp2_with fail
  rw [HR.out]
  exact ⟨rfl, Below.refl _ _⟩
set_option maxHeartbeats 1600000 in
theorem rparse_go (s : ByteArray) (w : World) (h : ¬ 4095 < s.size) :
    Calls Try.prog 23 #[.string s] w fun e w' => ∃ a' c', e = .returned (.tuple #[.slice a' (prsL s).length c', .int .i64 (prsE s)]) ∧ Ds w' a' (prsL s) ∧ Below w.heap.size w w' := by
  obtain ⟨R, hR⟩ : ∃ R : Ending → World → Prop, R = (fun e w' => ∃ a' c', e = .returned (.tuple #[.slice a' (prsL s).length c', .int .i64 (prsE s)]) ∧ Ds w' a' (prsL s) ∧ Below w.heap.size w w') := ⟨_, rfl⟩
  rw [← hR]
  have HR := Lib.hid hR
  have t0 : decide (4095 < (s.size : Int)) = false := by simp; omega
  have HN := Lib.hid (show prs s.data.toList = none → prsL s = [] ∧ prsE s = 10 from fun e => by unfold prsL prsE; rw [if_neg h, if_neg h, e]; exact ⟨rfl, rfl⟩)
  have HY := Lib.hid (show ∀ A, prs s.data.toList = some A → prsL s = A ∧ prsE s = 0 from fun A e => by unfold prsL prsE; rw [if_neg h, if_neg h, e]; exact ⟨rfl, rfl⟩)
  have hs4 : s.size ≤ 4095 := by omega
  clear hR h
  go_enter Try.func23, Try.ntmps23
  go_wp2_with fail
  go_loopw [4, 5] (fun o i wr => ∃ (A : List Dc) (p : Nat), p ≤ s.size ∧ i = .int .i64 p ∧ 2 * A.length ≤ p ∧ wr.ownsRow w.heap.size 35 2 o A.length (flat enD A) ∧ Hid (Mid s.data.toList A p) ∧ Below w.heap.size w wr) (fun _ i _ => s.size - (intOf i).toNat)
  case atStart => exact ⟨[], 0, by omega, rfl, by simp, World.ownsRow_nil _ _ _ _, Lib.hid (mid0 _), Below.refl _ _⟩
  case round =>
    obtain ⟨A, p, hp, rfl, hA, hown, hI, hb⟩ := hrel
    have hll : s.data.toList.length = s.size := Array.length_toList
    by_cases hps : p < s.size
    · have t1 : decide ((p : Int) < (s.size : Int)) = true := by simp; omega
      have q1 : IntKind.i64.wrap ((p : Int) + 1) = (p : Int) + 1 := by rw [IntKind.wrap_i64]; omega
      by_cases hp1 : p + 1 < s.size
      · have t2 : decide ((s.size : Int) ≤ (p : Int) + 1) = false := by simp; omega
        obtain ⟨t, ht, ht'⟩ := byte_at s p hps
        obtain ⟨n, hn, hn'⟩ := byte_at s (p + 1) hp1
        have i0 : ∀ V : World, (Instr.index 9 (.string s) (.int .i64 (p : Int))).run Try.prog V = .ok (.int .u8 (t.toNat : Int)) V := fun V => by rw [← ht']; exact idx_at s p hps V
        have i1 : ∀ V : World, (Instr.index 9 (.string s) (.int .i64 ((p : Int) + 1))).run Try.prog V = .ok (.int .u8 (n.toNat : Int)) V := fun V => by rw [← hn', show (p : Int) + 1 = ((p + 1 : Nat) : Int) by omega]; exact idx_at s (p + 1) hp1 V
        have hn8 := n.toNat_lt
        have ht8 := t.toNat_lt
        obtain ⟨N, hN⟩ : ∃ N, n.toNat = N := ⟨_, rfl⟩
        obtain ⟨T, hT⟩ : ∃ T, t.toNat = T := ⟨_, rfl⟩
        rw [hN] at i1 hn8
        rw [hT] at i0 ht8
        have q2 : IntKind.i64.wrap (N : Int) = N := by rw [IntKind.wrap_i64]; omega
        have q3 : IntKind.i64.wrap ((p : Int) + 2) = (p : Int) + 2 := by rw [IntKind.wrap_i64]; omega
        have q4 : IntKind.i64.wrap ((p : Int) + 2 + N) = (p : Int) + 2 + N := by rw [IntKind.wrap_i64]; omega
        have q5 : IntKind.i64.wrap (T : Int) = T := by rw [IntKind.wrap_i64]; omega
        by_cases hs : s.size < p + 2 + N
        · have t3 : decide ((s.size : Int) < (p : Int) + 2 + N) = true := by simp; omega
          have HE := Lib.hid (HN.out (mid_short hI.out ht hn (by rw [hll, hN]; exact hs)))
          clear hN hT ht hn ht' hn' hs
          go_wp2_with fail
          rw [HR.out, HE.out.1, HE.out.2]
          exact ⟨none, 0, rfl, fun i x hi => by simp at hi, hb⟩
        · have t3 : decide ((s.size : Int) < (p : Int) + 2 + N) = false := by simp; omega
          have HI2 := Lib.hid (mid_step hI.out ht hn (by rw [hll, hN]; exact hs))
          rw [hN, hT] at HI2
          have hx1 : (0 : Int) ≤ (p : Int) + 2 := by omega
          have hx2 : (p : Int) + 2 ≤ (p : Int) + 2 + N := by omega
          have hx3 : (p : Int) + 2 + N ≤ (s.size : Int) := by omega
          have hp0 : (0 : Int) ≤ (p : Int) := Int.natCast_nonneg _
          have hpI : (p : Int) < (s.size : Int) := by omega
          clear hN hT ht hn ht' hn'
          go_wp2_with fail
          refine Go.Proofs.Ytbceakdifklocaa.Rg.region_new [(14, newS 1 35 #[.int .i64 (T : Int), .string (s.extract (p + 2) (p + 2 + N))] 0)] 15 (by kernel_rfl) (by kernel_rfl) (by kernel_rfl) (lk_cons newS_inh lk_nil) (lk_cons newS_mono lk_nil) ?_
          intro σ hσ
          simp only [List.take_succ_cons, List.take_zero, List.drop_succ_cons, List.drop_zero]
          refine Go.Proofs.Ytbceakdifklocaa.Rg.wpN_take 14 (by kernel_rfl) (by kernel_rfl) (by kernel_rfl) ?_
          simp only [List.take_succ_cons, List.take_zero, List.drop_succ_cons, List.drop_zero]
          repeat (go_big_quiet_step (fail))
          refine wpQuiet_nil ?_
          refine Go.Proofs.Ytbceakdifklocaa.Rg.wpN_sp _ rfl (by kernel_rfl) (spAt_newS 1 35 #[.int .i64 (T : Int), .string (s.extract (p + 2) (p + 2 + N))] (Nat.zero_le _) (by intro w0; go_simp)) ?_
          simp only [Act.put, List.setIfInBounds_toArray, List.set_cons_zero, List.set_cons_succ]
          refine Go.Proofs.Ytbceakdifklocaa.Rg.wpN_nil ?_
          rintro w9 ⟨pq, rfl⟩ hp
          obtain ⟨g9, hg9, _, hb9⟩ := hp 14 _ rfl
          rw [hg9]
          clear hp hσ
          have hown0 := own_below hown (below_ext _ pq)
          have hb0 := hb.trans ((below_ext _ pq).mono hb.size)
          have hsz0 := hb0.size
          refine wpList_app rfl _ _ rfl elemR rfl hown0 rfl rfl (blk_news hb9) (by simp [Value.oneCell']) (by omega) (by unfold maxLen; omega) hsz0 ?_
          intro v9 w8 hown9 hb8
          have hb7 := hb0.trans hb8
          clear hown0 hb0 hb8 hb9 hg9 hsz0
          have hown3 : w8.ownsRow w.heap.size 35 2 v9 (A ++ [(⟨(T : Int), str ((s.data.toList.drop (p + 2)).take N)⟩ : Dc)]).length (flat enD (A ++ [(⟨(T : Int), str ((s.data.toList.drop (p + 2)).take N)⟩ : Dc)])) := by
            rw [flat_app, List.length_append, ← ext_str]; exact hown9
          have hA2 : 2 * (A ++ [(⟨(T : Int), str ((s.data.toList.drop (p + 2)).take N)⟩ : Dc)]).length ≤ p + 2 + N := by rw [List.length_append, List.length_singleton]; omega
          clear hown hb hown9 i0 i1 hI
          go_wp2_with fail
          go_roundw
          case rel => exact ⟨A ++ [(⟨(T : Int), str ((s.data.toList.drop (p + 2)).take N)⟩ : Dc)], p + 2 + N, by omega, by go_num, hA2, hown3, HI2, hb7⟩
          case measure => simp [intOf]; omega
      · have t2 : decide ((s.size : Int) ≤ (p : Int) + 1) = true := by simp; omega
        have HE := Lib.hid (HN.out (mid_one hI.out (by rw [hll]; omega)))
        go_wp2_with fail
        rw [HR.out, HE.out.1, HE.out.2]
        exact ⟨none, 0, rfl, fun i x hi => by simp at hi, hb⟩
    · have hps' : p = s.size := by omega
      have t1 : decide ((p : Int) < (s.size : Int)) = false := by simp; omega
      have HE := Lib.hid (HY.out A (mid_end (by rw [hll, ← hps']; exact hI.out)))
      obtain ⟨a', c', rfl⟩ := own_form hown
      have HO := Lib.hid (seq_ds (own_seq enD_len hown rfl))
      clear hown
      go_wp2_with fail
      rw [HR.out, HE.out.1, HE.out.2]
      exact ⟨a', c', rfl, HO.out, hb⟩
theorem rparse_any (s : ByteArray) (w : World) :
    Calls Try.prog 23 #[.string s] w fun e w' => ∃ a' c', e = .returned (.tuple #[.slice a' (prsL s).length c', .int .i64 (prsE s)]) ∧ Ds w' a' (prsL s) ∧ Below w.heap.size w w' := by
  by_cases h : 4095 < s.size
  · have e1 : prsL s = [] := by unfold prsL; rw [if_pos h]
    have e2 : prsE s = 11 := by unfold prsE; rw [if_pos h]
    rw [e1, e2]
    exact (rparse_long s w h).mono fun e w' ⟨h1, h2⟩ => ⟨none, 0, h1, fun i x hi => by simp at hi, h2⟩
  · exact rparse_go s w h

/-- a scope whose one label is fallen into: its body is walked once -/
theorem wp_scope_one {P : Program} {Q : Exit → Act → World → Prop} {a : Act} {w : World} {c body : Code} (l : Nat) (J : Act → World → Prop) (μ : Act → World → Nat) (hf : findLabel c l = some (Code.skip.seq body))
    (pass : ∀ a w, J a w → body.wp P (Exit.jump l (fun a' w' => J a' w' ∧ μ a' w' < μ a w) Q) a w)
    (first : (∀ a w, J a w → body.wp P (Exit.jump l J Q) a w) → c.wp P (Exit.jump l J Q) a w) : (Code.scope c).wp P Q a w :=
  wp_scope_jumps l J μ hf (first fun a w h => Code.wp_mono (fun e a' w' hq => by cases e <;> first | exact hq | exact ⟨hq.1, hq.2.1⟩) (pass a w h))
    (fun a w h => wp_seq (wp_skip (pass a w h)))
end Go.Proofs.Ytbceakdifklocaa.DsR
