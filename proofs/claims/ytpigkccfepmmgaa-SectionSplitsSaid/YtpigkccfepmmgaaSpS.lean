/- SectionSplits: the walk. -/
import Derived.Test.YtpigkccfepmmgaaRpA
import Derived.Test.YtpigkccfepmmgaaRpB
import Derived.Test.YtpigkccfepmmgaaRpC
namespace Go.Proofs.Ytpigkccfepmmgaa.SpS
open Go Go.RowKit Go.Proofs.Ytpigkccfepmmgaa.Q Go.Proofs.Ytpigkccfepmmgaa.Mem Go.Proofs.Ytpigkccfepmmgaa.Rg Go.Proofs.Ytpigkccfepmmgaa.Ap Go.Proofs.Ytpigkccfepmmgaa.St Go.Proofs.Ytpigkccfepmmgaa.SeA Go.Proofs.Ytpigkccfepmmgaa.SeE Go.Proofs.Ytpigkccfepmmgaa.SeEq Go.Proofs.Ytpigkccfepmmgaa.SpA Go.Proofs.Ytpigkccfepmmgaa.SpB Go.Proofs.Ytpigkccfepmmgaa.RpA Go.Proofs.Ytpigkccfepmmgaa.RpB Go.Proofs.Ytpigkccfepmmgaa.RpC
set_option maxRecDepth 100000
set_option maxHeartbeats 3200000 in
theorem splits_any (x y z : Int) (b : ByteArray) (a : Option Addr) (n c : Nat) (L : List Sc) (w : World) (hn : L.length = n) (hL : Seq enSc 8 w a L) :
    Calls Try.prog 4 #[.agg #[.int .i64 x, .int .i64 y, .int .i64 z], .string b, .slice a n c] w fun e w' => e = .returned (.bool true) ∧ Below w.heap.size w w' := by
  have kaw := fun V => awake_any V
  have HB := Lib.hid (bk1 w 35 #[.int .i64 x, .int .i64 y, .int .i64 z])
  by_cases h1 : 9000 < b.size
  · have t1 : decide (9000 < (b.size : Int)) = true := by simp; omega
    clear h1 hL hn
    go_enter Try.func4, Try.ntmps4
    go_wp2_with fail
    (with_reducible refine (kaw _).mono ?_); rintro e1 W1 ⟨rfl, hb1⟩
    have hE := (HB.out.below hb1).be
    go_wp2_with fail
    go_ret
    exact ⟨rfl, hE⟩
  have t1 : decide (9000 < (b.size : Int)) = false := by simp; omega
  by_cases h2 : 20 < n
  · have t2 : decide (20 < (n : Int)) = true := by simp; omega
    have t2' : decide (20 < n) = true := by simp; omega
    clear h1 h2 hL hn
    go_enter Try.func4, Try.ntmps4
    go_wp2_with fail
    (with_reducible refine (kaw _).mono ?_); rintro e1 W1 ⟨rfl, hb1⟩
    have hE := (HB.out.below hb1).be
    go_wp2_with fail
    go_ret
    exact ⟨rfl, hE⟩
  have t2 : decide (20 < (n : Int)) = false := by simp; omega
  have t2' : decide (20 < n) = false := by simp; omega
  have ks := fun V => split_any x y z b V (by omega)
  have kr := fun V => rsplit_any x y z b V (by omega)
  have hAl : (splL x y z b).length ≤ 3 := by
    unfold splL
    split
    · rw [List.length_map, List.length_range]; unfold many; omega
    · simp
  obtain ⟨A, hA⟩ : ∃ A, splL x y z b = A := ⟨_, rfl⟩
  obtain ⟨E, hE⟩ : ∃ E, splE x y z b = E := ⟨_, rfl⟩
  rw [hA, hE] at ks kr
  rw [hA] at hAl
  have HAL := Lib.hid hAl
  have HN := Lib.hid hn
  have HL := Lib.hid hL
  have h20 : n ≤ 20 := by omega
  clear hA hE h1 h2 hn hL hAl
  go_enter Try.func4, Try.ntmps4
  go_wp2_with fail
  go_loopw [7] (fun i wr => ∃ k : Nat, k ≤ n ∧ i = .int .i64 k ∧ Bk w wr [(w.heap.size, 35, #[.int .i64 x, .int .i64 y, .int .i64 z])]) (fun i _ => n - (intOf i).toNat)
  case atStart => exact ⟨0, by omega, rfl, HB.out⟩
  case round =>
    obtain ⟨k, hk, rfl, hB⟩ := hrel
    by_cases hkn : k < n
    · have t0 : decide ((k : Int) < (n : Int)) = true := by simp; omega
      obtain ⟨s, hs⟩ : ∃ s, L[k]? = some s := ⟨_, List.getElem?_eq_getElem (by rw [HN.out]; exact hkn)⟩
      have kf := fun V => few_any s.body V
      obtain ⟨tt, p, e, v, nn, m, l, bb⟩ := s
      dsimp only at kf
      obtain ⟨b1, o1, rfl, hlt, c0, c1, c2, c3, c4, c5, c6, c7⟩ := seq_cells (HL.out.below (Nat.le_refl _) hB.be) hs
      have k0 : (0 : Int) ≤ (k : Int) := Int.natCast_nonneg _
      have k1 : (k : Int) < (n : Int) := by omega
      have HB2 := Lib.hid hB
      obtain ⟨F, hF⟩ : ∃ F, fewB bb = F := ⟨_, rfl⟩
      rw [hF] at kf
      clear hs hlt hB hF
      cases F with
      | true =>
        go_wp2_with fail
        (with_reducible refine (kf _).mono ?_); rintro e1 W1 ⟨rfl, rfl⟩
        clear kf c0 c1 c2 c3 c4 c5 c6 c7
        go_wp2_with fail
        go_roundw
        case rel => exact ⟨k + 1, by omega, by go_num, HB2.out⟩
        case measure => simp [intOf]; omega
      | false =>
        go_wp2_with fail
        (with_reducible refine (kf _).mono ?_); rintro e1 W1 ⟨rfl, rfl⟩
        clear kf c0 c1 c2 c3 c4 c5 c6 c7
        go_wp2_with fail
        (with_reducible refine (kaw _).mono ?_); rintro e1 W2 ⟨rfl, hb2⟩
        have hEn := (HB2.out.below hb2).be
        go_wp2_with fail
        go_ret
        exact ⟨rfl, hEn⟩
    · obtain rfl : k = n := by omega
      have t0 : decide ((k : Int) < (k : Int)) = false := by simp
      have HB2 := Lib.hid hB
      have z0 := Blk.cell (HB2.out.nth 0 rfl) 0 (v := .int .i64 x) rfl
      have z1 := Blk.cell (HB2.out.nth 0 rfl) 1 (v := .int .i64 y) rfl
      have z2 := Blk.cell (HB2.out.nth 0 rfl) 2 (v := .int .i64 z) rfl
      clear hB
      obtain ⟨wo, rfl⟩ : ∃ wo : World, wo = wr := ⟨_, rfl⟩
      go_wp2_with fail
      (with_reducible refine (ks _).mono ?_); rintro e1 W1 ⟨⟨a1, n1, q1, rfl, hn1, hS1, -⟩, hb1⟩
      have HB3 := Lib.hid (HB2.out.below hb1)
      have HN1 := Lib.hid hn1
      have n3 : (n1 : Int) ≤ 3 := by have := HAL.out; omega
      have HS1 := Lib.hid hS1
      clear hn1 hS1 hb1 ks z0 z1 z2
      have z0 := Blk.cell (HB3.out.nth 0 rfl) 0 (v := .int .i64 x) rfl
      have z1 := Blk.cell (HB3.out.nth 0 rfl) 1 (v := .int .i64 y) rfl
      have z2 := Blk.cell (HB3.out.nth 0 rfl) 2 (v := .int .i64 z) rfl
      go_wp2_with fail
      (with_reducible refine (kr _).mono ?_); rintro e1 W2 ⟨⟨a2, n2, q2, rfl, hn2, hS2⟩, hb2⟩
      obtain rfl : n1 = n2 := by rw [← hn2, HN1.out]
      have HB4 := Lib.hid (HB3.out.below hb2)
      have HS3 := Lib.hid (HS1.out.below (Nat.le_refl _) hb2)
      have HS4 := Lib.hid hS2
      clear hn2 hS2 hb2 kr z0 z1 z2
      go_wp2_with fail
      go_loopw [12] (fun i wr => ∃ j : Nat, j ≤ n1 ∧ i = .int .i64 j ∧ Below W2.heap.size W2 wr) (fun i _ => n1 - (intOf i).toNat)
      case atStart => exact ⟨0, by omega, rfl, Below.refl _ _⟩
      case round =>
        obtain ⟨j, hj, rfl, hb⟩ := hrel
        by_cases hjn : j < n1
        · have t0 : decide ((j : Int) < (n1 : Int)) = true := by simp; omega
          obtain ⟨s, hs⟩ : ∃ s, A[j]? = some s := ⟨_, List.getElem?_eq_getElem (by rw [HN1.out]; exact hjn)⟩
          have kp := fun V => plain_any s V
          have hq := fun V => eqTR s s V
          rw [decide_eq_true rfl] at hq
          obtain ⟨tt, p, e, v, nn, m, l, bb⟩ := s
          obtain ⟨b1, o1, rfl, hlt, c0, c1, c2, c3, c4, c5, c6, c7⟩ := seq_cells (HS3.out.below (Nat.le_refl _) hb) hs
          obtain ⟨b2, o2, rfl, hlt2, d0, d1, d2, d3, d4, d5, d6, d7⟩ := seq_cells (HS4.out.below (Nat.le_refl _) hb) hs
          unfold Sc.vals at kp hq
          dsimp only at kp hq
          have c0 := fun pX => cell_ext hlt c0 pX
          have c1 := fun pX => cell_ext hlt c1 pX
          have c2 := fun pX => cell_ext hlt c2 pX
          have c3 := fun pX => cell_ext hlt c3 pX
          have c4 := fun pX => cell_ext hlt c4 pX
          have c5 := fun pX => cell_ext hlt c5 pX
          have c6 := fun pX => cell_ext hlt c6 pX
          have c7 := fun pX => cell_ext hlt c7 pX
          have d0 := fun pX => cell_ext hlt2 d0 pX
          have d1 := fun pX => cell_ext hlt2 d1 pX
          have d2 := fun pX => cell_ext hlt2 d2 pX
          have d3 := fun pX => cell_ext hlt2 d3 pX
          have d4 := fun pX => cell_ext hlt2 d4 pX
          have d5 := fun pX => cell_ext hlt2 d5 pX
          have d6 := fun pX => cell_ext hlt2 d6 pX
          have d7 := fun pX => cell_ext hlt2 d7 pX
          have k0 : (0 : Int) ≤ (j : Int) := Int.natCast_nonneg _
          have k1 : (j : Int) < (n1 : Int) := by omega
          have HBb := Lib.hid hb
          clear hs hlt hlt2 hb
          go_wp2_with fail
          refine Go.Proofs.Ytpigkccfepmmgaa.Q.region_ext (by kernel_rfl) (by kernel_rfl) ?_
          repeat (go_big_quiet_step ((go_at_call 12; refine ext_call (kp _))))
          refine wpQuiet_nil ?_
          rintro w9 ⟨pq, rfl⟩
          have hb2 := HBb.out.trans ((below_ext wr pq).mono HBb.out.size)
          clear c0 c1 c2 c3 c4 c5 c6 c7 d0 d1 d2 d3 d4 d5 d6 d7 hq kp
          go_wp2_with fail
          go_roundw
          case rel => exact ⟨j + 1, by omega, by go_num, hb2⟩
          case measure => simp [intOf]; omega
        · obtain rfl : j = n1 := by omega
          have t0 : decide ((j : Int) < (j : Int)) = false := by simp
          have HB5 := Lib.hid (HB4.out.below hb)
          have kj := join_any a k c L _ HN.out (by omega) (HL.out.below (Nat.le_refl _) HB5.out.be)
          clear hb
          obtain ⟨JE, hJE⟩ : ∃ JE, joE L = JE := ⟨_, rfl⟩
          obtain ⟨JS, hJS⟩ : ∃ JS, joS L = JS := ⟨_, rfl⟩
          have HJ := Lib.hid (And.intro hJE hJS)
          rw [hJE, hJS] at kj
          clear hJE hJS
          go_wp2_with fail
          (with_reducible refine (kj).mono ?_); rintro e1 W3 ⟨rfl, hb3⟩
          have HB6 := Lib.hid (HB5.out.below hb3)
          have kp := plains_any a k c L _ HN.out (by omega) (HL.out.below (Nat.le_refl _) HB6.out.be)
          clear kj hb3
          go_wp2_with fail
          (with_reducible refine (kp).mono ?_); rintro e1 W4 ⟨⟨a4, c4, rfl, hS5⟩, hb4⟩
          have HB7 := Lib.hid (HB6.out.below hb4)
          have kj2 := rjoin_any a4 k c4 L _ HN.out (by omega) hS5
          rw [HJ.out.1, HJ.out.2] at kj2
          clear kp hb4 hS5
          go_wp2_with fail
          (with_reducible refine (kj2).mono ?_); rintro e1 W5 ⟨rfl, hb5⟩
          have HB8 := Lib.hid (HB7.out.below hb5)
          clear kj2 hb5
          go_wp2_with fail
          (with_reducible refine (kaw _).mono ?_); rintro e1 W6 ⟨rfl, hb6⟩
          have hEn := (HB8.out.below hb6).be
          go_wp2_with fail
          go_ret
          exact ⟨rfl, hEn⟩
end Go.Proofs.Ytpigkccfepmmgaa.SpS
