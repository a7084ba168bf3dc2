/- clarionlaw18.some: the walk. -/
import Derived.Test.YtbceakdifklocaaDuC
namespace Go.Proofs.Ytbceakdifklocaa.DwA
open Go Go.RowKit Go.Proofs.Ytbceakdifklocaa.Q Go.Proofs.Ytbceakdifklocaa.Mem Go.Proofs.Ytbceakdifklocaa.DsA Go.Proofs.Ytbceakdifklocaa.DsB Go.Proofs.Ytbceakdifklocaa.DsC Go.Proofs.Ytbceakdifklocaa.DsD Go.Proofs.Ytbceakdifklocaa.DsE Go.Proofs.Ytbceakdifklocaa.DsP Go.Proofs.Ytbceakdifklocaa.DuA Go.Proofs.Ytbceakdifklocaa.DuB Go.Proofs.Ytbceakdifklocaa.DuC Go.Proofs.Ytbceakdifklocaa.Rg Go.Proofs.Ytbceakdifklocaa.Ap
theorem lvs_at (iv : Value) {PS : List (Value × Value)} {k : Nat} {q : Value × Value} (h : PS[k]? = some q) : (lvs iv PS)[1 + 2 * k]? = some q.1 ∧ (lvs iv PS)[2 + 2 * k]? = some q.2 := by
  have h0 := flat_get en2_len h (j := 0) rfl
  have h1 := flat_get en2_len h (j := 1) rfl
  unfold flat at h0 h1
  unfold lvs
  constructor
  · rw [show 1 + 2 * k = k * 2 + 0 + 1 by omega, List.getElem?_cons_succ]; exact h0
  · rw [show 2 + 2 * k = k * 2 + 1 + 1 by omega, List.getElem?_cons_succ]; exact h1
def fewTo (LL : List (List Dc)) (k : Nat) : Prop := ∀ i L, LL[i]? = some L → 1 ≤ i → i < 1 + 2 * k → few L = true
set_option maxRecDepth 100000
set_option maxHeartbeats 1600000 in
theorem some_any (a p o : Int) (iv : Value) (ea : Option Addr) (n ec : Nat) (PS : List (Value × Value)) (LL : List (List Dc)) (w : World) (hn : PS.length = n) (hl : n ≤ 9223372036854775807) (hps : Lps w (lvs iv PS) LL) (hsm : ∀ L ∈ LL, L.length ≤ 9223372036854775807) (hE : Seq en2 2 w ea PS) :
    Calls Try.prog 32 #[.agg #[.int .i64 a, .int .i64 p, .int .i64 o, iv, .slice ea n ec]] w fun e w' => (∃ b, e = .returned (.bool b) ∧ (b = true → n ≤ 10 ∧ ∀ L ∈ LL, few L = true)) ∧ Below w.heap.size w w' := by
  have HE := Lib.hid hE
  have HP := Lib.hid hps
  have HN := Lib.hid hn
  have HS := Lib.hid hsm
  obtain ⟨ia, im, ic, rfl⟩ := hps.sl (v := iv) (by simp [lvs])
  have HB := Lib.hid (bk1 w 82 #[.int .i64 a, .int .i64 p, .int .i64 o, .slice ia im ic, .slice ea n ec])
  clear hE hps hn hsm
  go_enter Try.func32, Try.ntmps32
  go_wp2_with fail
  go_loopw [3] (fun i wr => ∃ k : Nat, k ≤ n ∧ i = .int .i64 k ∧ Hid (fewTo LL k) ∧ Bk w wr [(w.heap.size, 82, #[.int .i64 a, .int .i64 p, .int .i64 o, .slice ia im ic, .slice ea n ec])]) (fun i _ => n - (intOf i).toNat)
  case atStart => exact ⟨0, by omega, rfl, Lib.hid (fun i L _ h1 h2 => by omega), HB.out⟩
  case round =>
    obtain ⟨k, hk, rfl, hF, hB⟩ := hrel
    have HBk := Lib.hid hB
    have z0 := Blk.cell (hB.nth 0 rfl) 0 (v := .int .i64 a) rfl
    have z1 := Blk.cell (hB.nth 0 rfl) 1 (v := .int .i64 p) rfl
    have z2 := Blk.cell (hB.nth 0 rfl) 2 (v := .int .i64 o) rfl
    have z3 := Blk.cell (hB.nth 0 rfl) 3 (v := .slice ia im ic) rfl
    have z4 := Blk.cell (hB.nth 0 rfl) 4 (v := .slice ea n ec) rfl
    have hP := HP.out.below hB.be
    by_cases hkn : k < n
    · have t0 : decide ((k : Int) < (n : Int)) = true := by simp; omega
      obtain ⟨q, hq⟩ : ∃ q, PS[k]? = some q := ⟨_, List.getElem?_eq_getElem (by rw [HN.out]; exact hkn)⟩
      obtain ⟨b1, o1, rfl, l1, hc⟩ := HE.out.below (Nat.le_refl _) hB.be k _ hq
      obtain ⟨r1, r2⟩ := lvs_at (.slice ia im ic) hq
      have hlen := hP.1
      have x1 := (List.getElem?_eq_some_iff.1 r1).1
      have x2 := (List.getElem?_eq_some_iff.1 r2).1
      obtain ⟨L1, hL1⟩ : ∃ L, LL[1 + 2 * k]? = some L := ⟨_, List.getElem?_eq_getElem (by omega)⟩
      obtain ⟨L2, hL2⟩ : ∃ L, LL[2 + 2 * k]? = some L := ⟨_, List.getElem?_eq_getElem (by omega)⟩
      obtain ⟨a1, n1, c1, e1, rfl, d1⟩ := hP.2 _ _ _ r1 hL1
      obtain ⟨a2, n2, c2, e2, rfl, d2⟩ := hP.2 _ _ _ r2 hL2
      obtain ⟨v1, v2⟩ := q
      dsimp only at e1 e2
      subst e1 e2
      have y0 : wr.cell? ⟨b1, o1 + k * 2, none⟩ = some (.slice a1 L1.length c1) := hc 0 _ rfl
      have y1 : wr.cell? ⟨b1, o1 + k * 2 + 1, none⟩ = some (.slice a2 L2.length c2) := hc 1 _ rfl
      have kf1 := few_any a1 c1 L1 wr (HS.out _ (List.mem_of_getElem? hL1)) d1
      have kf2 := few_any a2 c2 L2 wr (HS.out _ (List.mem_of_getElem? hL2)) d2
      have k0 : (0 : Int) ≤ (k : Int) := Int.natCast_nonneg _
      have k1 : (k : Int) < (n : Int) := by omega
      have HNX := Lib.hid (show few L1 = true → few L2 = true → fewTo LL (k + 1) from fun f1 f2 i L hL h1 h2 => by
        rcases Nat.lt_or_ge i (1 + 2 * k) with h | h
        · exact hF.out i L hL h1 h
        · rcases Nat.lt_or_ge (1 + 2 * k) i with h' | h'
          · obtain rfl : i = 2 + 2 * k := by omega
            rw [hL2] at hL; injection hL with hL; subst hL; exact f2
          · obtain rfl : i = 1 + 2 * k := by omega
            rw [hL1] at hL; injection hL with hL; subst hL; exact f1)
      obtain ⟨f1, hf1⟩ : ∃ x, few L1 = x := ⟨_, rfl⟩
      obtain ⟨f2, hf2⟩ : ∃ x, few L2 = x := ⟨_, rfl⟩
      rw [hf1] at kf1 HNX
      rw [hf2] at kf2 HNX
      clear hc l1 hq r1 r2 hlen x1 x2 hL1 hL2 d1 d2 hP hf1 hf2 hF hB
      cases f1 with
      | false =>
        go_wp2_with fail
        (with_reducible refine (kf1).mono ?_); rintro e1 W1 ⟨rfl, rfl⟩
        go_wp2_with fail
        go_ret
        exact ⟨⟨false, rfl, fun h => by cases h⟩, HBk.out.be⟩
      | true =>
        cases f2 with
        | false =>
          go_wp2_with fail
          (with_reducible refine (kf1).mono ?_); rintro e1 W1 ⟨rfl, rfl⟩
          go_wp2_with fail
          (with_reducible refine (kf2).mono ?_); rintro e1 W2 ⟨rfl, rfl⟩
          go_wp2_with fail
          go_ret
          exact ⟨⟨false, rfl, fun h => by cases h⟩, HBk.out.be⟩
        | true =>
          have HF2 := Lib.hid (HNX.out rfl rfl)
          go_wp2_with fail
          (with_reducible refine (kf1).mono ?_); rintro e1 W1 ⟨rfl, rfl⟩
          go_wp2_with fail
          (with_reducible refine (kf2).mono ?_); rintro e1 W2 ⟨rfl, rfl⟩
          clear z0 z1 z2 z3 z4 y0 y1 kf1 kf2
          go_wp2_with fail
          go_roundw
          case rel => exact ⟨k + 1, by omega, by go_num, HF2, HBk.out⟩
          case measure => simp [intOf]; omega
    · obtain rfl : k = n := by omega
      have t0 : decide ((k : Int) < (k : Int)) = false := by simp
      have hlen := hP.1
      rw [lvs_len, HN.out] at hlen
      obtain ⟨L0, hL0⟩ : ∃ L, LL[0]? = some L := ⟨_, List.getElem?_eq_getElem (by omega)⟩
      obtain ⟨a0, n0, c0, e0, rfl, d0⟩ := hP.2 0 (.slice ia im ic) L0 rfl hL0
      obtain ⟨rfl, rfl, rfl⟩ : ia = a0 ∧ im = L0.length ∧ ic = c0 := by simpa using e0
      have kf := few_any ia ic L0 wr (HS.out _ (List.mem_of_getElem? hL0)) d0
      have HA := Lib.hid (show few L0 = true → ∀ L ∈ LL, few L = true from fun f L hL => by
        obtain ⟨i, hi⟩ := List.getElem?_of_mem hL
        rcases Nat.eq_zero_or_pos i with h | h
        · subst h; rw [hL0] at hi; injection hi with hi; subst hi; exact f
        · exact hF.out i L hi h (by have := (List.getElem?_eq_some_iff.1 hi).1; omega))
      obtain ⟨f0, hf0⟩ : ∃ x, few L0 = x := ⟨_, rfl⟩
      rw [hf0] at kf HA
      clear hlen hL0 d0 hP hf0 hF hB e0
      by_cases h10 : k ≤ 10
      · have t1 : decide ((k : Int) ≤ 10) = true := by simp; omega
        go_wp2_with fail
        (with_reducible refine (kf).mono ?_); rintro e1 W1 ⟨rfl, rfl⟩
        go_wp2_with fail
        go_ret
        exact ⟨⟨f0, rfl, fun h => ⟨h10, HA.out h⟩⟩, HBk.out.be⟩
      · have t1 : decide ((k : Int) ≤ 10) = false := by simp; omega
        go_wp2_with fail
        go_ret
        exact ⟨rfl, HBk.out.be⟩
end Go.Proofs.Ytbceakdifklocaa.DwA
