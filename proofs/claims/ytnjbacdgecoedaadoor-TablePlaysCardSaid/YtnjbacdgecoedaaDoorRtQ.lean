/- The document's table: Out. -/
import Derived.Test.YtnjbacdgecoedaaDoorRtP
namespace Go.Proofs.YtnjbacdgecoedaaDoor.RtQ
open Go Go.RowKit Go.Proofs.YtnjbacdgecoedaaDoor.Q Go.Proofs.YtnjbacdgecoedaaDoor.Mem Go.Proofs.YtnjbacdgecoedaaDoor.Rg Go.Proofs.YtnjbacdgecoedaaDoor.Ap Go.Proofs.YtnjbacdgecoedaaDoor.ApG Go.Proofs.YtnjbacdgecoedaaDoor.St Go.Proofs.YtnjbacdgecoedaaDoor.BiW Go.Proofs.YtnjbacdgecoedaaDoor.TlS Go.Proofs.YtnjbacdgecoedaaDoor.TbM Go.Proofs.YtnjbacdgecoedaaDoor.TbN Go.Proofs.YtnjbacdgecoedaaDoor.TbO Go.Proofs.YtnjbacdgecoedaaDoor.TbP Go.Proofs.YtnjbacdgecoedaaDoor.TbQ Go.Proofs.YtnjbacdgecoedaaDoor.TbR Go.Proofs.YtnjbacdgecoedaaDoor.TbT Go.Proofs.YtnjbacdgecoedaaDoor.TbU Go.Proofs.YtnjbacdgecoedaaDoor.RtM Go.Proofs.YtnjbacdgecoedaaDoor.RtN Go.Proofs.YtnjbacdgecoedaaDoor.RtO Go.Proofs.YtnjbacdgecoedaaDoor.RtP

set_option maxRecDepth 100000
theorem take_below {L : List Nat} (hs : L.Pairwise (· < ·)) (p : Nat) : ∀ z ∈ L.take (below L p), z < p := by
  induction L with
  | nil => intro z hz; simp at hz
  | cons x t ih =>
    intro z hz
    have ht := List.pairwise_cons.1 hs
    unfold below at hz
    rw [List.countP_cons] at hz
    by_cases hx : x < p
    · simp only [hx, decide_true, if_true, List.take_succ_cons] at hz
      rcases List.mem_cons.1 hz with rfl | hz
      · exact hx
      · exact ih ht.2 z hz
    · simp only [hx, decide_false, Bool.false_eq_true, if_false, Nat.add_zero] at hz
      have h0 : t.countP (fun z => decide (z < p)) = 0 := by
        rw [List.countP_eq_zero]
        intro y hy
        have := ht.1 y hy
        simp; omega
      rw [h0, List.take_zero] at hz
      cases hz
theorem in_drop {L : List Nat} (hs : L.Pairwise (· < ·)) {p q : Nat} (hq : q ∈ L) (hp : p ≤ q) : q ∈ L.drop (below L p) := by
  have : q ∈ L.take (below L p) ++ L.drop (below L p) := by rw [List.take_append_drop]; exact hq
  rcases List.mem_append.1 this with h | h
  · have := take_below hs p q h; omega
  · exact h
theorem nxt_is {S : Tb} (hs : S.st.Pairwise (· < ·)) {p q : Nat} (hq : q ∈ S.st) (hpq : p < q) (hm : ∀ z ∈ S.st, p < z → q ≤ z) : nxt S p = some q := by
  have hd := in_drop hs hq (show p + 1 ≤ q by omega)
  unfold nxt
  have hsd : (S.st.drop (below S.st (p + 1))).Pairwise (· < ·) := hs.sublist (List.drop_sublist _ _)
  have hlow := drop_below hs (p + 1)
  have hmem : ∀ z ∈ S.st.drop (below S.st (p + 1)), z ∈ S.st := fun z hz => List.mem_of_mem_drop hz
  cases hL : S.st.drop (below S.st (p + 1)) with
  | nil => rw [hL] at hd; cases hd
  | cons x t =>
    rw [hL] at hd hsd hlow hmem
    have hx := hm x (hmem x (List.mem_cons_self ..)) (by have := hlow x (List.mem_cons_self ..); omega)
    rcases List.mem_cons.1 hd with rfl | hd
    · rfl
    · have := (List.pairwise_cons.1 hsd).1 q hd
      omega
theorem nxt_no {S : Tb} (hs : S.st.Pairwise (· < ·)) {p : Nat} (hm : ∀ z ∈ S.st, ¬ p < z) : nxt S p = none := by
  cases h : nxt S p with
  | none => rfl
  | some q => exact absurd (nxt_gt hs h) (hm q (nxt_mem h))
theorem dN_end (S : Tb) : dN S (191 * S.R) = 0 := by
  have h1 := fsN_le (knS S (191 * S.R))
  rw [kn_size] at h1
  have h2 : kn S (191 * S.R) 4080 = 0 := by
    rcases kn_in S 4080 (191 * S.R) with h | h
    · omega
    · exact h
  unfold dN
  omega
theorem outAt_last {S : Tb} (hok : Ok S) : outAt S (191 * S.R) = [] :=
  outAt_end (Nat.le_refl _) (by rw [dN_end]; omega) (nxt_no hok.up (fun z hz => by have := hok.lt z hz; omega))
def fsts (A : List (Nat × Nat)) : List Nat := A.map (·.1)
def snds (A : List (Nat × Nat)) : List Nat := A.map (·.2)
set_option maxHeartbeats 3200000 in
theorem rout_any (w : World) (B gx g1 g2 g3 : Nat) (S : Tb) (h : RtIn w B gx g1 g2 g3 S) (hok : Ok S) :
    Calls Tryd.prog 29 #[.pointer (some ⟨gx, 0, none⟩)] w fun e w' => Below w.heap.size w w' ∧ ∃ v1 v2, e = .returned (.tuple #[v1, v2]) ∧ w'.ownsRow w.heap.size 3 1 v1 (outAt S 0).length (ints (fsts (outAt S 0))) ∧ w'.ownsRow w.heap.size 3 1 v2 (outAt S 0).length (ints (snds (outAt S 0))) := by
  have HH := Lib.hid h
  have HOK := Lib.hid hok
  obtain ⟨R, hRR⟩ : ∃ R, S.R = R := ⟨_, rfl⟩
  have HR := Lib.hid hRR
  have hR9 : R ≤ 1024 := by have := hok.R; omega
  have j2 : (0 : Int) ≤ (R : Int) := Int.natCast_nonneg _
  have j3 : (R : Int) ≤ 1024 := by omega
  clear h hok hRR
  go_enter Tryd.func29, Tryd.ntmps29
  go_wp2_with fail
  go_loopw [4, 5, 6] (fun v1 v2 av wr => ∃ (p : Nat) (A : List (Nat × Nat)), av = .int .i64 p ∧ p ≤ 191 * R ∧ A.length ≤ p ∧ Hid (A ++ outAt S p = outAt S 0) ∧ wr.ownsRow w.heap.size 3 1 v1 A.length (ints (fsts A)) ∧ wr.ownsRow w.heap.size 3 1 v2 A.length (ints (snds A)) ∧
    Hid (∀ r, v1.ownBlock = some r → v2.ownBlock ≠ some r) ∧ Below w.heap.size w wr) (fun _ _ av _ => 191 * R - (intOf av).toNat)
  case atStart => exact ⟨0, [], rfl, by omega, by simp, Lib.hid rfl, World.ownsRow_nil _ _ _ _, World.ownsRow_nil _ _ _ _, Lib.hid (fun r h => (by cases h)), Below.refl _ _⟩
  case round =>
    obtain ⟨p, A, rfl, hp, hAl, HA, hown1, hown2, HNE, hb⟩ := hrel
    have q0 : (0 : Int) ≤ (p : Int) := Int.natCast_nonneg _
    have HT := Lib.hid (HH.out.below hb)
    have c0 := Blk.cell HT.out.box 0 (v := .int .i64 (S.R : Int)) rfl
    rw [HR.out] at c0
    have hbs := hb.size
    by_cases hpR : p < 191 * R
    · have t0 : decide ((p : Int) < 191 * (R : Int)) = true := decide_eq_true (by omega)
      have kf := rfirst_any wr B gx g1 g2 g3 p S HT.out HOK.out.R HOK.out.R0 (by rw [HR.out]; exact hp)
      have hpd := dN_in S p (by rw [HR.out]; exact hp)
      rw [HR.out] at hpd
      by_cases hd : 0 < dN S p
      · have HN := Lib.hid (outAt_yes HOK.out (by rw [HR.out]; exact hp) hd)
        obtain ⟨n, hn⟩ : ∃ n, dN S p = n := ⟨_, rfl⟩
        rw [hn] at kf hpd hd HN
        have t1 : decide ((0 : Int) < (n : Int)) = true := decide_eq_true (by omega)
        have t2 : decide (0 < n) = true := decide_eq_true hd
        have q1 : (0 : Int) ≤ (n : Int) := Int.natCast_nonneg _
        have q2 : (p : Int) + (n : Int) ≤ 300000 := by omega
        clear hn
        go_wp2_with fail
        (with_reducible refine (kf).mono ?_); rintro e1 W1 ⟨rfl, hb1⟩
        have hb2 := hb.trans (hb1.mono hbs)
        have ho1 := own_below hown1 hb1
        have ho2 := own_below hown2 hb1
        have hz2 := hb2.size
        clear kf hown1 hown2 hb1 HT c0 hb
        go_wp2_with (at_builtin; (refine ApG.wpList_appG rfl _ _ rfl TbQ.elemN rfl (ho1.alloc (.cells #[.int .i64 (p : Int)] 3)) rfl rfl (blk_news (Blk.new W1 3 #[.int .i64 (p : Int)])) (by simp [Value.oneCell']) (by omega) (by unfold maxLen; omega) (by simp; omega) ?_))
        intro v9 w8 hp9 hg9 hat9
        have hbA : Below w.heap.size w w8 := (hb2.alloc hz2 _).grown hg9 (by simp; omega) (fun r er => (ho1.lt r er).1)
        have hq9 := own_other (ho2.alloc (.cells #[.int .i64 (p : Int)] 3)) hg9 HNE.out
        have hne9 := apart_symm (apart_step hat9 (fun r hr => by have := (ho2.lt r hr).2; simp; omega) HNE.out)
        have hbs8 := hbA.size
        clear ho1 ho2 hb2 hg9 hat9
        go_wp2_with (at_builtin; (refine ApG.wpList_appG rfl _ _ rfl TbQ.elemN rfl (hq9.alloc (.cells #[.int .i64 (n : Int)] 3)) rfl rfl (blk_news (Blk.new w8 3 #[.int .i64 (n : Int)])) (by simp [Value.oneCell']) (by omega) (by unfold maxLen; omega) (by simp; omega) ?_))
        intro v7 w7 hq7 hg7 hat7
        have hbB : Below w.heap.size w w7 := (hbA.alloc hbs8 _).grown hg7 (by simp; omega) (fun r er => (hq9.lt r er).1)
        have hp7 := own_other (hp9.alloc (.cells #[.int .i64 (n : Int)] 3)) hg7 (apart_symm hne9)
        have hne7 := apart_step hat7 (fun r hr => by have := (hp9.lt r hr).2; simp; omega) (apart_symm hne9)
        have HNE7 := Lib.hid hne7
        clear hp9 hq9 hbA hg7 hat7 hne7 hne9
        go_wp2_with fail
        go_roundw
        case rel => exact ⟨p + n, A ++ [(p, n)], congrArg (Value.int .i64) (by omega), by omega, by simp; omega, Lib.hid (by rw [← HA.out, HN.out, List.append_assoc]; rfl), by rw [List.length_append, show fsts (A ++ [(p, n)]) = fsts A ++ [p] by simp [fsts], ints_snoc]; exact hp7, by rw [List.length_append, show snds (A ++ [(p, n)]) = snds A ++ [n] by simp [snds], ints_snoc]; exact hq7, HNE7, hbB⟩
        case measure => simp [intOf]; omega
      · have hd0 : dN S p = 0 := by omega
        have HDD := Lib.hid hd
        rw [hd0] at kf
        clear hd hd0 hpd HT
        go_wp2_with fail
        (with_reducible refine (kf).mono ?_); rintro e1 W1 ⟨rfl, hb1⟩
        have hb2 := hb.trans (hb1.mono hbs)
        have ho1 := own_below hown1 hb1
        have ho2 := own_below hown2 hb1
        have HT1 := Lib.hid (HH.out.below hb2)
        clear kf hown1 hown2 hb1 c0 hb hbs
        go_wp2_with fail
        go_loopw [6] (fun av wr => ∃ q : Nat, av = .int .i64 q ∧ p < q ∧ q ≤ 191 * R ∧ Hid (∀ z ∈ S.st, p < z → q ≤ z) ∧ W1 = wr) (fun av _ => 191 * R - (intOf av).toNat)
        case atStart => exact ⟨p + 1, congrArg (Value.int .i64) (by omega), by omega, by omega, Lib.hid (fun z _ h => h), by trivial⟩
        case round =>
          obtain ⟨q, rfl, hpq, hq, HM, rfl⟩ := hrel
          have q5 : (0 : Int) ≤ (q : Int) := Int.natCast_nonneg _
          have d0 := Blk.cell HT1.out.box 0 (v := .int .i64 (S.R : Int)) rfl
          have d1 := Blk.cell HT1.out.box 3 (v := .slice (some ⟨g3, 0, none⟩) (191 * S.R) (191 * S.R)) rfl
          rw [HR.out] at d0 d1
          by_cases hqR : q < 191 * R
          · have u0 : decide ((q : Int) < 191 * (R : Int)) = true := decide_eq_true (by omega)
            have d2 := HT1.out.st.cell q (by rw [HR.out]; exact hqR)
            have q6 : (q : Int) < ((191 * R : Nat) : Int) := by omega
            have q7 : (q : Int) ≤ 300000 := by omega
            by_cases hin : q ∈ S.st
            · rw [decide_eq_true hin] at d2
              have HO := Lib.hid (show A ++ outAt S q = outAt S 0 from by
                rw [← outAt_next HOK.out (by rw [HR.out]; exact hp) HDD.out (nxt_is HOK.out.up hin hpq HM.out)]; exact HA.out)
              clear hin
              go_wp2_with fail
              go_roundw
              case rel => exact ⟨q, A, rfl, hq, by omega, HO, ho1, ho2, HNE, hb2⟩
              case measure => simp [intOf]; omega
            · rw [decide_eq_false hin] at d2
              have HM2 := Lib.hid (show ∀ z ∈ S.st, p < z → q + 1 ≤ z from fun z hz h => by
                have := HM.out z hz h
                rcases Nat.eq_or_lt_of_le this with e | e
                · subst e; exact absurd hz hin
                · exact e)
              clear hin
              go_wp2_with fail
              go_roundw
              case rel => exact ⟨q + 1, by go_num, by omega, by omega, HM2, by trivial⟩
              case measure => simp [intOf]; omega
          · obtain rfl : q = 191 * R := by omega
            have u0 : decide (((191 * R : Nat) : Int) < 191 * (R : Int)) = false := decide_eq_false (by omega)
            have u1 : decide (191 * (R : Int) < 191 * (R : Int)) = false := decide_eq_false (by omega)
            have HO := Lib.hid (show A ++ outAt S (191 * R) = outAt S 0 from by
              have h1 : nxt S p = none := nxt_no HOK.out.up (fun z hz h => by
                have h2 := HM.out z hz h
                have h3 := HOK.out.lt z hz
                rw [HR.out] at h3
                omega)
              have h2 := outAt_end (S := S) (by rw [HR.out]; exact hp) HDD.out h1
              have h3 := outAt_last HOK.out
              rw [HR.out] at h3
              rw [h3, ← h2]; exact HA.out)
            go_wp2_with fail
            go_roundw
            case rel => exact ⟨191 * R, A, congrArg (Value.int .i64) (by omega), by omega, by omega, HO, ho1, ho2, HNE, hb2⟩
            case measure => simp [intOf]; omega
    · obtain rfl : p = 191 * R := by omega
      have t0 : decide (((191 * R : Nat) : Int) < 191 * (R : Int)) = false := decide_eq_false (by omega)
      have t1 : decide (191 * (R : Int) < 191 * (R : Int)) = false := decide_eq_false (by omega)
      have HX := Lib.hid (show A = outAt S 0 from by
        have h1 := outAt_last HOK.out
        rw [HR.out] at h1
        have := HA.out
        rw [h1, List.append_nil] at this
        exact this)
      go_wp2_with fail
      go_ret2
      rw [← HX.out]
      exact ⟨hb, _, _, rfl, hown1, hown2⟩
end Go.Proofs.YtnjbacdgecoedaaDoor.RtQ
