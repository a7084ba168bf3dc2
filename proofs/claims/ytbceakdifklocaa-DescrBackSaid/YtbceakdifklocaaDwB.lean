/- clarionlaw18.alike of two Ints that are the same: the walk. -/
import Derived.Test.YtbceakdifklocaaDuC
namespace Go.Proofs.Ytbceakdifklocaa.DwB
open Go Go.RowKit Go.Proofs.Ytbceakdifklocaa.Q Go.Proofs.Ytbceakdifklocaa.Mem Go.Proofs.Ytbceakdifklocaa.DsA Go.Proofs.Ytbceakdifklocaa.DsB Go.Proofs.Ytbceakdifklocaa.DsC Go.Proofs.Ytbceakdifklocaa.DsD Go.Proofs.Ytbceakdifklocaa.DsE Go.Proofs.Ytbceakdifklocaa.DsP Go.Proofs.Ytbceakdifklocaa.DuA Go.Proofs.Ytbceakdifklocaa.DuB Go.Proofs.Ytbceakdifklocaa.DuC Go.Proofs.Ytbceakdifklocaa.Rg Go.Proofs.Ytbceakdifklocaa.Ap
theorem eqR (x : Dc) (w : World) : (Op.equalIn 10000 35 (.agg #[.int .i64 x.tag, .string x.body]) (.agg #[.int .i64 x.tag, .string x.body])).run Try.prog w = .ok true w := by
  have hS : Try.prog.underlying 35 = some (.struct (Try.prog.fieldsOf 35)) := by kernel_rfl
  have hp : Try.prog.stoodInHeld 35 = false := by kernel_rfl
  rw [show (10000 : Nat) = 9999 + 1 from rfl, run_equalIn_agg w 9999 35 _ _ hS hp]
  simp only [Program.fieldsOf, Try.underlying35]
  go_simp
set_option maxRecDepth 100000
set_option maxHeartbeats 1600000 in
theorem alike_any (a p o : Int) (l1 l2 : Option Addr) (n c1 c2 : Nat) (VS1 VS2 : List Value) (LL : List (List Dc)) (w : World) (hn : LL.length = n) (hb : n ≤ 100000) (h1 : Lps w VS1 LL) (h2 : Lps w VS2 LL) (e1 : Seq en1 1 w l1 VS1) (e2 : Seq en1 1 w l2 VS2) (hsm : ∀ L ∈ LL, L.length ≤ 100000) :
    Calls Try.prog 36 #[.agg #[.int .i64 a, .int .i64 p, .int .i64 o, .slice l1 n c1], .agg #[.int .i64 a, .int .i64 p, .int .i64 o, .slice l2 n c2]] w fun e w' => e = .returned (.bool true) ∧ Below w.heap.size w w' := by
  have HB := Lib.hid (bk2 w 91 91 #[.int .i64 a, .int .i64 p, .int .i64 o, .slice l1 n c1] #[.int .i64 a, .int .i64 p, .int .i64 o, .slice l2 n c2])
  have H1 := Lib.hid h1
  have H2 := Lib.hid h2
  have E1 := Lib.hid e1
  have E2 := Lib.hid e2
  have HN := Lib.hid hn
  have HS := Lib.hid hsm
  clear h1 h2 e1 e2 hn hsm
  go_enter Try.func36, Try.ntmps36
  go_wp2_with fail
  go_loopw [5] (fun i wr => ∃ k : Nat, k ≤ n ∧ i = .int .i64 k ∧ Bk w wr [(w.heap.size + 1, 91, #[.int .i64 a, .int .i64 p, .int .i64 o, .slice l2 n c2]), (w.heap.size, 91, #[.int .i64 a, .int .i64 p, .int .i64 o, .slice l1 n c1])]) (fun i _ => n - (intOf i).toNat)
  case atStart => exact ⟨0, by omega, rfl, HB.out⟩
  case round =>
    obtain ⟨k, hk, rfl, hB⟩ := hrel
    have HBk := Lib.hid hB
    by_cases hkn : k < n
    · have t0 : decide ((k : Int) < (n : Int)) = true := by simp; omega
      obtain ⟨L, hL⟩ : ∃ L, LL[k]? = some L := ⟨_, List.getElem?_eq_getElem (by rw [HN.out]; exact hkn)⟩
      have q1 := H1.out.below hB.be
      have q2 := H2.out.below hB.be
      obtain ⟨u1, hu1⟩ : ∃ v, VS1[k]? = some v := ⟨_, List.getElem?_eq_getElem (by have := q1.1; have := HN.out; omega)⟩
      obtain ⟨u2, hu2⟩ : ∃ v, VS2[k]? = some v := ⟨_, List.getElem?_eq_getElem (by have := q2.1; have := HN.out; omega)⟩
      obtain ⟨a1, m1, d1, rfl, rfl, s1⟩ := q1.2 _ _ _ hu1 hL
      obtain ⟨a2, m2, d2, rfl, hm2, s2⟩ := q2.2 _ _ _ hu2 hL
      subst hm2
      obtain ⟨b1, o1, rfl, r1, y1⟩ := E1.out.below (Nat.le_refl _) hB.be k _ hu1
      obtain ⟨b2, o2, rfl, r2, y2⟩ := E2.out.below (Nat.le_refl _) hB.be k _ hu2
      have y1 := y1 0 _ rfl
      have y2 := y2 0 _ rfl
      rw [off_eq, Nat.mul_one, Nat.add_zero] at y1 y2
      have x1 := fun pX => cell_ext r1 y1 pX
      have x2 := fun pX => cell_ext r2 y2 pX
      have z0 := fun pX => Blk.cell (blk_ext (hB.nth 1 rfl) pX) 0 (v := .int .i64 a) rfl
      have z1 := fun pX => Blk.cell (blk_ext (hB.nth 1 rfl) pX) 1 (v := .int .i64 p) rfl
      have z2 := fun pX => Blk.cell (blk_ext (hB.nth 1 rfl) pX) 2 (v := .int .i64 o) rfl
      have z3 := fun pX => Blk.cell (blk_ext (hB.nth 1 rfl) pX) 3 (v := .slice (some ⟨b1, o1, none⟩) n c1) rfl
      have v0 := fun pX => Blk.cell (blk_ext (hB.nth 0 rfl) pX) 0 (v := .int .i64 a) rfl
      have v1 := fun pX => Blk.cell (blk_ext (hB.nth 0 rfl) pX) 1 (v := .int .i64 p) rfl
      have v2 := fun pX => Blk.cell (blk_ext (hB.nth 0 rfl) pX) 2 (v := .int .i64 o) rfl
      have v3 := fun pX => Blk.cell (blk_ext (hB.nth 0 rfl) pX) 3 (v := .slice (some ⟨b2, o2, none⟩) n c2) rfl
      have k0 : (0 : Int) ≤ (k : Int) := Int.natCast_nonneg _
      have k1 : (k : Int) < (n : Int) := by omega
      have S1 := Lib.hid s1
      have S2 := Lib.hid s2
      have zc := Blk.cell (hB.nth 1 rfl) 3 (v := .slice (some ⟨b1, o1, none⟩) n c1) rfl
      have HY := Lib.hid (And.intro (And.intro r1 y1) (And.intro r2 y2))
      have hLs : L.length ≤ 100000 := HS.out L (List.mem_of_getElem? hL)
      clear q1 q2 hu1 hu2 r1 r2 y1 y2 s1 s2 hL
      go_wp2_with fail
      refine Go.Proofs.Ytbceakdifklocaa.Q.region_ext (by kernel_rfl) (by kernel_rfl) ?_
      repeat (go_big_quiet_step (fail))
      refine wpQuiet_nil ?_
      rintro w9 ⟨pq, rfl⟩
      have HB2 := Lib.hid (HBk.out.px pq)
      have hbx := below_ext wr pq
      have HY2 := Lib.hid (show ((ext wr pq).cell? ⟨b1, o1 + k, none⟩ = some (.slice a1 L.length d1) ∧ b1 < (ext wr pq).heap.size) ∧ ((ext wr pq).cell? ⟨b2, o2 + k, none⟩ = some (.slice a2 L.length d2) ∧ b2 < (ext wr pq).heap.size) from ⟨⟨x1 pq, by have := HY.out.1.1; have := hbx.size; omega⟩, ⟨x2 pq, by have := HY.out.2.1; have := hbx.size; omega⟩⟩)
      have T1 := Lib.hid (S1.out.below (Nat.le_refl _) hbx)
      have T2 := Lib.hid (S2.out.below (Nat.le_refl _) hbx)
      obtain ⟨wo, hwo⟩ : ∃ wo, ext wr pq = wo := ⟨_, rfl⟩
      rw [hwo] at HB2 HY2 T1 T2 ⊢
      clear hwo hbx x1 x2 z0 z1 z2 z3 v0 v1 v2 v3 zc
      go_wp2_with fail
      go_loopw [6] (fun i wr => ∃ j : Nat, j ≤ L.length ∧ i = .int .i64 j ∧ Bk w wr [(w.heap.size + 1, 91, #[.int .i64 a, .int .i64 p, .int .i64 o, .slice (some ⟨b2, o2, none⟩) n c2]), (w.heap.size, 91, #[.int .i64 a, .int .i64 p, .int .i64 o, .slice (some ⟨b1, o1, none⟩) n c1])] ∧ Below wo.heap.size wo wr) (fun i _ => L.length - (intOf i).toNat)
      case atStart => exact ⟨0, by omega, rfl, HB2.out, Below.refl _ _⟩
      case round =>
        obtain ⟨j, hj, rfl, hB3, hbw⟩ := hrel
        have HB3 := Lib.hid hB3
        have HBW := Lib.hid hbw
        have g1 : wr.cell? ⟨b1, o1 + k, none⟩ = some (.slice a1 L.length d1) := (hbw.cell (p := ⟨b1, _, none⟩) HY2.out.1.2).trans HY2.out.1.1
        have g2 : wr.cell? ⟨b2, o2 + k, none⟩ = some (.slice a2 L.length d2) := (hbw.cell (p := ⟨b2, _, none⟩) HY2.out.2.2).trans HY2.out.2.1
        have hws := hbw.size
        have zc := Blk.cell (hB3.nth 1 rfl) 3 (v := .slice (some ⟨b1, o1, none⟩) n c1) rfl
        by_cases hjl : j < L.length
        · have t0 : decide ((j : Int) < (L.length : Int)) = true := by simp; omega
          obtain ⟨x, hx⟩ : ∃ x, L[j]? = some x := ⟨_, List.getElem?_eq_getElem hjl⟩
          obtain ⟨ab, ao, rfl, al, ac0, ac1⟩ := T1.out.below (Nat.le_refl _) hbw j x hx
          obtain ⟨bb, bo, rfl, bl', bc0, bc1⟩ := T2.out.below (Nat.le_refl _) hbw j x hx
          have f0 := fun pX => cell_ext al ac0 pX
          have f1 := fun pX => cell_ext al ac1 pX
          have f2 := fun pX => cell_ext bl' bc0 pX
          have f3 := fun pX => cell_ext bl' bc1 pX
          have x1 := fun pX => cell_ext (Nat.lt_of_lt_of_le HY2.out.1.2 hws) g1 pX
          have x2 := fun pX => cell_ext (Nat.lt_of_lt_of_le HY2.out.2.2 hws) g2 pX
          have z0 := fun pX => Blk.cell (blk_ext (hB3.nth 1 rfl) pX) 0 (v := .int .i64 a) rfl
          have z1 := fun pX => Blk.cell (blk_ext (hB3.nth 1 rfl) pX) 1 (v := .int .i64 p) rfl
          have z2 := fun pX => Blk.cell (blk_ext (hB3.nth 1 rfl) pX) 2 (v := .int .i64 o) rfl
          have z3 := fun pX => Blk.cell (blk_ext (hB3.nth 1 rfl) pX) 3 (v := .slice (some ⟨b1, o1, none⟩) n c1) rfl
          have v0 := fun pX => Blk.cell (blk_ext (hB3.nth 0 rfl) pX) 0 (v := .int .i64 a) rfl
          have v1 := fun pX => Blk.cell (blk_ext (hB3.nth 0 rfl) pX) 1 (v := .int .i64 p) rfl
          have v2 := fun pX => Blk.cell (blk_ext (hB3.nth 0 rfl) pX) 2 (v := .int .i64 o) rfl
          have v3 := fun pX => Blk.cell (blk_ext (hB3.nth 0 rfl) pX) 3 (v := .slice (some ⟨b2, o2, none⟩) n c2) rfl
          have hq := fun V => eqR x V
          have j0 : (0 : Int) ≤ (j : Int) := Int.natCast_nonneg _
          have j1 : (j : Int) < (L.length : Int) := by omega
          clear hx ac0 ac1 bc0 bc1 al bl' hB3 hbw
          go_wp2_with fail
          refine Go.Proofs.Ytbceakdifklocaa.Q.region_ext (by kernel_rfl) (by kernel_rfl) ?_
          repeat (go_big_quiet_step (fail))
          refine wpQuiet_nil ?_
          rintro w9 ⟨pq, rfl⟩
          have hB9 := HB3.out.px pq
          have hb9 := HBW.out.trans ((below_ext wr pq).mono HBW.out.size)
          clear f0 f1 f2 f3 x1 x2 z0 z1 z2 z3 v0 v1 v2 v3 zc g1 g2 hq
          go_wp2_with fail
          go_roundw
          case rel => exact ⟨j + 1, by omega, by go_num, hB9, hb9⟩
          case measure => simp [intOf]; omega
        · obtain rfl : j = L.length := by omega
          have t0 : decide ((L.length : Int) < (L.length : Int)) = false := by simp
          clear hB3 hbw
          go_wp2_with fail
          clear zc g1 g2
          go_roundw
          case rel => exact ⟨k + 1, by omega, by go_num, HB3.out⟩
          case measure => simp [intOf]; omega
    · obtain rfl : k = n := by omega
      have t0 : decide ((k : Int) < (k : Int)) = false := by simp
      have z0 := Blk.cell (HBk.out.nth 1 rfl) 0 (v := .int .i64 a) rfl
      have z1 := Blk.cell (HBk.out.nth 1 rfl) 1 (v := .int .i64 p) rfl
      have z2 := Blk.cell (HBk.out.nth 1 rfl) 2 (v := .int .i64 o) rfl
      have z3 := Blk.cell (HBk.out.nth 1 rfl) 3 (v := .slice l1 k c1) rfl
      clear hB
      go_wp2_with fail
      go_ret
      exact ⟨rfl, HBk.out.be⟩
end Go.Proofs.Ytbceakdifklocaa.DwB
