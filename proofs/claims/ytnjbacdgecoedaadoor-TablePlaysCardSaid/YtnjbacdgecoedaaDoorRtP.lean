/- The document's table: first. -/
import Derived.Test.YtnjbacdgecoedaaDoorRtO
namespace Go.Proofs.YtnjbacdgecoedaaDoor.RtP
open Go Go.RowKit Go.Proofs.YtnjbacdgecoedaaDoor.Q Go.Proofs.YtnjbacdgecoedaaDoor.Mem Go.Proofs.YtnjbacdgecoedaaDoor.Rg Go.Proofs.YtnjbacdgecoedaaDoor.Ap Go.Proofs.YtnjbacdgecoedaaDoor.ApG Go.Proofs.YtnjbacdgecoedaaDoor.St Go.Proofs.YtnjbacdgecoedaaDoor.BiW Go.Proofs.YtnjbacdgecoedaaDoor.DgB Go.Proofs.YtnjbacdgecoedaaDoor.DgC Go.Proofs.YtnjbacdgecoedaaDoor.DgF Go.Proofs.YtnjbacdgecoedaaDoor.DgG Go.Proofs.YtnjbacdgecoedaaDoor.TlS Go.Proofs.YtnjbacdgecoedaaDoor.TbM Go.Proofs.YtnjbacdgecoedaaDoor.TbN Go.Proofs.YtnjbacdgecoedaaDoor.TbO Go.Proofs.YtnjbacdgecoedaaDoor.TbP Go.Proofs.YtnjbacdgecoedaaDoor.TbQ Go.Proofs.YtnjbacdgecoedaaDoor.TbR Go.Proofs.YtnjbacdgecoedaaDoor.TbT Go.Proofs.YtnjbacdgecoedaaDoor.TbU Go.Proofs.YtnjbacdgecoedaaDoor.RtM Go.Proofs.YtnjbacdgecoedaaDoor.RtN Go.Proofs.YtnjbacdgecoedaaDoor.RtO

set_option maxRecDepth 100000
theorem atI_nat (S : Tb) (q : Nat) : atI S q = (decide (q < 191 * S.R) && S.is q) := by
  unfold atI
  by_cases h : q < 191 * S.R
  · rw [if_pos (by omega), decide_eq_true h, Int.toNat_natCast]; rfl
  · rw [if_neg (by omega), decide_eq_false h]; rfl
theorem conv_b {w : World} {B gx g1 g2 g3 : Nat} {S : Tb} (h : RtIn w B gx g1 g2 g3 S) (p k c : Nat) (hk : p + k ≤ 255 * S.R) : (convert 40 9 (.slice (some ⟨g1, p, none⟩) k c)).run Tryd.prog w = .ok (.string (str (bytesL S p k))) w := by
  have := run_convert_bytes_back (P := Tryd.prog) w 40 9 5 ⟨g1, p, none⟩ c (bytesL S p k) Tryd.underlying40 Tryd.underlying5 Tryd.underlying9 (fun j hj => by
    rw [bytesL_len] at hj
    rw [show (⟨g1, p, none⟩ : Addr).add j = ⟨g1, p + j, none⟩ by unfold Addr.add; split <;> simp_all, h.b.cell (p + j) (by omega)]
    simp [bytesL, u8v])
  rw [bytesL_len] at this
  exact this
set_option maxHeartbeats 3200000 in
theorem rfirst_any (w : World) (B gx g1 g2 g3 p : Nat) (S : Tb) (h : RtIn w B gx g1 g2 g3 S) (hR : S.R ≤ 1024) (hR0 : 0 < S.R) (hp : p ≤ 191 * S.R) :
    Calls Tryd.prog 39 #[.pointer (some ⟨gx, 0, none⟩), .int .i64 p] w fun e w' => e = .returned (.int .i64 (dN S p : Int)) ∧ Below w.heap.size w w' := by
  have HH := Lib.hid h
  have c0 := Blk.cell h.box 0 (v := .int .i64 (S.R : Int)) rfl
  have c1 := Blk.cell h.box 1 (v := .slice (some ⟨g1, 0, none⟩) (255 * S.R) (255 * S.R)) rfl
  have c2 := Blk.cell h.box 2 (v := .slice (some ⟨g2, 0, none⟩) (255 * S.R) (255 * S.R)) rfl
  obtain ⟨R, hRR⟩ : ∃ R, S.R = R := ⟨_, rfl⟩
  obtain ⟨D, hDD⟩ : ∃ D, 255 * S.R = D := ⟨_, rfl⟩
  have HD := Lib.hid (And.intro hDD hRR)
  have HDR := Lib.hid (show D = 255 * R from by rw [← hDD, hRR])
  rw [hDD] at c1 c2
  rw [hRR] at c0 hp hR hR0
  have j0 : (0 : Int) ≤ (p : Int) := Int.natCast_nonneg _
  have j1 : (p : Int) ≤ 300000 := by omega
  have j2 : (0 : Int) ≤ (R : Int) := Int.natCast_nonneg _
  have j3 : (R : Int) ≤ 1024 := by omega
  have j4 : p ≤ D := by have := HDR.out; omega
  have j5 : (p : Int) ≤ (D : Int) := by omega
  have j6 : D ≤ 300000 := by have := HDR.out; omega
  have j7 : (p : Int) < (D : Int) := by have := HDR.out; omega
  have j8 : ¬ (D = p) := by omega
  have j9 : ¬ (p = D) := by omega
  have j10 : (p == D) = false := beq_eq_false_iff_ne.2 j9
  clear h hRR hDD
  go_enter Tryd.func39, Tryd.ntmps39
  go_wp2_with fail
  go_loopw [5] (fun i wr => ∃ k : Nat, k ≤ 4080 ∧ p + k ≤ 191 * R ∧ i = .int .i64 ((p + k : Nat) : Int) ∧ Hid (k + kn S (p + k) (4080 - k) = kn S p 4080) ∧ w = wr) (fun i _ => 191 * R - (intOf i).toNat)
  case atStart => exact ⟨0, by omega, by omega, by simp, Lib.hid (by simp), by trivial⟩
  case round =>
    obtain ⟨k, hk, hpk, rfl, HK, rfl⟩ := hrel
    have q1 : (0 : Int) ≤ (k : Int) := Int.natCast_nonneg _
    have hcast : ((p + k : Nat) : Int) = (p : Int) + (k : Int) := by omega
    rw [hcast]
    have q2 : (p : Int) + (k : Int) ≤ 300000 := by omega
    have q5 : (p : Int) + (k : Int) ≤ (D : Int) := by have := HDR.out; omega
    clear hcast
    by_cases h1 : p + k < 191 * R
    · have t0 : decide ((p : Int) + (k : Int) < 191 * (R : Int)) = true := decide_eq_true (by omega)
      by_cases h2 : k < 4080
      · have t6 : decide ((p : Int) + (k : Int) < (p : Int) + 4080) = true := decide_eq_true (by omega)
        have c3 := HH.out.is.cell (p + k) (by have := HDR.out; rw [HD.out.1]; omega)
        have q3 : (p : Int) + (k : Int) < (D : Int) := by have := HDR.out; omega
        have hstep : kn S (p + k) (4080 - k) = if S.is (p + k) then kn S (p + k + 1) (4080 - (k + 1)) + 1 else 0 := by
          rw [show 4080 - k = 4080 - (k + 1) + 1 by omega, kn, atI_nat, decide_eq_true (by rw [HD.out.2]; exact h1), Bool.true_and]
        obtain ⟨b, hb⟩ : ∃ b, S.is (p + k) = b := ⟨_, rfl⟩
        rw [hb] at c3 hstep
        clear hb
        cases b with
        | true =>
          rw [if_pos rfl] at hstep
          have HX := Lib.hid (show k + 1 + kn S (p + (k + 1)) (4080 - (k + 1)) = kn S p 4080 from by
            have := HK.out
            rw [hstep] at this
            rw [show p + (k + 1) = p + k + 1 by omega]
            omega)
          clear hstep
          go_wp2_with fail
          go_roundw
          case rel => exact ⟨k + 1, by omega, by omega, congrArg (Value.int .i64) (by omega), HX, by trivial⟩
          case measure => simp [intOf]; omega
        | false =>
          rw [if_neg (by decide)] at hstep
          have HKK := Lib.hid (show kn S p 4080 = k from by have := HK.out; omega)
          clear hstep
          have hcv := conv_b HH.out p k (D - p) (by have := HDR.out; rw [HD.out.1]; omega)
          have HSS := Lib.hid (show dN S p = fsN (str (bytesL S p k)) from by unfold dN knS; rw [HKK.out])
          have hsz : (str (bytesL S p k)).size = k := by rw [← bl_len, bl_str, bytesL_len]
          obtain ⟨s, hs⟩ : ∃ s, str (bytesL S p k) = s := ⟨_, rfl⟩
          rw [hs] at hcv HSS hsz
          have hsb : s.size ≤ 1099511627776 := by omega
          have kp := fun V => rpeek_any s V hsb
          have hpk := fun h => pk_ok (s := s) h
          have HD := Lib.hid (show fsN s = if pkE s = 0 ∧ (pkH s).length ≤ s.size ∧ dgE (s.extract 0 (pkH s).length.toNat) = 0 then (pkH s).length.toNat else 0 from rfl)
          obtain ⟨E, hE⟩ : ∃ E, pkE s = E := ⟨_, rfl⟩
          obtain ⟨H, hH⟩ : ∃ H, pkH s = H := ⟨_, rfl⟩
          rw [hE, hH] at kp hpk HD
          clear hE hH hs hsz
          obtain ⟨ver, header, len, proto⟩ := H
          unfold Hd.vals at kp
          dsimp only at kp hpk HD
          by_cases hE0 : E = 0
          · subst hE0
            obtain ⟨_, h20, hhl, h4080⟩ := hpk rfl
            clear hpk
            obtain ⟨n, rfl⟩ := Int.eq_ofNat_of_zero_le (show 0 ≤ len by omega)
            by_cases hls : n ≤ s.size
            · have t1 : decide (s.size < n) = false := decide_eq_false (by omega)
              have t2 : decide ((s.size : Int) < (n : Int)) = false := decide_eq_false (by omega)
              have hx : (s.extract 0 n).size ≤ 1099511627776 := by rw [ByteArray.size_extract]; omega
              have kc := fun V => rcheck_any (s.extract 0 n) V hx
              rw [Int.toNat_natCast] at HD
              obtain ⟨C, hC⟩ : ∃ C, dgE (s.extract 0 n) = C := ⟨_, rfl⟩
              rw [hC] at kc HD
              have n1 : (n : Int) ≤ (s.size : Int) := by omega
              have n2 : (0 : Int) ≤ (n : Int) := Int.natCast_nonneg _
              clear hC hx
              by_cases hC0 : C = 0
              · subst hC0
                have HX := Lib.hid (show fsN s = n from by rw [HD.out, if_pos ⟨rfl, by omega, rfl⟩])
                clear hls HD h20 hhl
                go_wp2_with fail
                (with_reducible refine (kp _).mono ?_); rintro e1 W1 ⟨rfl, hb1⟩
                have hbk := Blk.new W1 99 #[.int .i64 ver, .int .i64 header, .int .i64 (n : Int), .int .i64 proto]
                have c0 := Blk.cell (hbk) 0 (v := .int .i64 ver) rfl
                have c1 := Blk.cell (hbk) 1 (v := .int .i64 header) rfl
                have c2 := Blk.cell (hbk) 2 (v := .int .i64 (n : Int)) rfl
                have c3 := Blk.cell (hbk) 3 (v := .int .i64 proto) rfl
                have hb0 := hb1.alloc hb1.size (.cells #[.int .i64 ver, .int .i64 header, .int .i64 (n : Int), .int .i64 proto] 99)
                go_wp2_with fail
                (with_reducible refine (kc _).mono ?_); rintro e2 W2 ⟨rfl, hb3⟩
                have hbk2 := Blk.below hbk hb3 hbk.lt
                have d0 := Blk.cell (hbk2) 0 (v := .int .i64 ver) rfl
                have d1 := Blk.cell (hbk2) 1 (v := .int .i64 header) rfl
                have d2 := Blk.cell (hbk2) 2 (v := .int .i64 (n : Int)) rfl
                have d3 := Blk.cell (hbk2) 3 (v := .int .i64 proto) rfl
                have hb2 := hb0.trans (hb3.mono hb0.size)
                clear kp kc c0 c1 c2 c3 hb3
                go_wp2_with fail
                go_ret
                exact ⟨by rw [HSS.out, HX.out]; rfl, hb2⟩
              · have t4 : (C == 0) = false := beq_eq_false_iff_ne.2 hC0
                have t5 : (C != 0) = true := by simpa using hC0
                have HX := Lib.hid (show fsN s = 0 from by rw [HD.out, if_neg (fun h => hC0 h.2.2)])
                clear hls HD h20 hhl
                go_wp2_with fail
                (with_reducible refine (kp _).mono ?_); rintro e1 W1 ⟨rfl, hb1⟩
                have hbk := Blk.new W1 99 #[.int .i64 ver, .int .i64 header, .int .i64 (n : Int), .int .i64 proto]
                have c0 := Blk.cell (hbk) 0 (v := .int .i64 ver) rfl
                have c1 := Blk.cell (hbk) 1 (v := .int .i64 header) rfl
                have c2 := Blk.cell (hbk) 2 (v := .int .i64 (n : Int)) rfl
                have c3 := Blk.cell (hbk) 3 (v := .int .i64 proto) rfl
                have hb0 := hb1.alloc hb1.size (.cells #[.int .i64 ver, .int .i64 header, .int .i64 (n : Int), .int .i64 proto] 99)
                go_wp2_with fail
                (with_reducible refine (kc _).mono ?_); rintro e2 W2 ⟨rfl, hb3⟩
                have hb2 := hb0.trans (hb3.mono hb0.size)
                clear kp kc c0 c1 c2 c3 hb3
                go_wp2_with fail
                go_ret
                exact ⟨by rw [HSS.out, HX.out]; rfl, hb2⟩
            · have t1 : decide (s.size < n) = true := decide_eq_true (by omega)
              have t2 : decide ((s.size : Int) < (n : Int)) = true := decide_eq_true (by omega)
              have HX := Lib.hid (show fsN s = 0 from by rw [HD.out, if_neg (fun h => hls (by have := h.2.1; omega))])
              clear hls HD h20 hhl
              go_wp2_with fail
              (with_reducible refine (kp _).mono ?_); rintro e1 W1 ⟨rfl, hb1⟩
              have hbk := Blk.new W1 99 #[.int .i64 ver, .int .i64 header, .int .i64 (n : Int), .int .i64 proto]
              have c0 := Blk.cell (hbk) 0 (v := .int .i64 ver) rfl
              have c1 := Blk.cell (hbk) 1 (v := .int .i64 header) rfl
              have c2 := Blk.cell (hbk) 2 (v := .int .i64 (n : Int)) rfl
              have c3 := Blk.cell (hbk) 3 (v := .int .i64 proto) rfl
              have hb2 := hb1.alloc hb1.size (.cells #[.int .i64 ver, .int .i64 header, .int .i64 (n : Int), .int .i64 proto] 99)
              clear kp
              go_wp2_with fail
              go_ret
              exact ⟨by rw [HSS.out, HX.out]; rfl, hb2⟩
          · have t4 : (E == 0) = false := beq_eq_false_iff_ne.2 hE0
            have t5 : (E != 0) = true := by simpa using hE0
            have HX := Lib.hid (show fsN s = 0 from by rw [HD.out, if_neg (fun h => hE0 h.1)])
            clear HD hpk
            go_wp2_with fail
            (with_reducible refine (kp _).mono ?_); rintro e1 W1 ⟨rfl, hb1⟩
            have hb2 := hb1.alloc hb1.size (.cells #[.int .i64 ver, .int .i64 header, .int .i64 len, .int .i64 proto] 99)
            clear kp
            go_wp2_with fail
            go_ret
            exact ⟨by rw [HSS.out, HX.out]; rfl, hb2⟩
      · have t6 : decide ((p : Int) + (k : Int) < (p : Int) + 4080) = false := decide_eq_false (by omega)
        have HKK := Lib.hid (show kn S p 4080 = k from by
          obtain rfl : k = 4080 := by omega
          exact kn_full HK.out)
        have hcv := conv_b HH.out p k (D - p) (by have := HDR.out; rw [HD.out.1]; omega)
        have HSS := Lib.hid (show dN S p = fsN (str (bytesL S p k)) from by unfold dN knS; rw [HKK.out])
        have hsz : (str (bytesL S p k)).size = k := by rw [← bl_len, bl_str, bytesL_len]
        obtain ⟨s, hs⟩ : ∃ s, str (bytesL S p k) = s := ⟨_, rfl⟩
        rw [hs] at hcv HSS hsz
        have hsb : s.size ≤ 1099511627776 := by omega
        have kp := fun V => rpeek_any s V hsb
        have hpk := fun h => pk_ok (s := s) h
        have HD := Lib.hid (show fsN s = if pkE s = 0 ∧ (pkH s).length ≤ s.size ∧ dgE (s.extract 0 (pkH s).length.toNat) = 0 then (pkH s).length.toNat else 0 from rfl)
        obtain ⟨E, hE⟩ : ∃ E, pkE s = E := ⟨_, rfl⟩
        obtain ⟨H, hH⟩ : ∃ H, pkH s = H := ⟨_, rfl⟩
        rw [hE, hH] at kp hpk HD
        clear hE hH hs hsz
        obtain ⟨ver, header, len, proto⟩ := H
        unfold Hd.vals at kp
        dsimp only at kp hpk HD
        by_cases hE0 : E = 0
        · subst hE0
          obtain ⟨_, h20, hhl, h4080⟩ := hpk rfl
          clear hpk
          obtain ⟨n, rfl⟩ := Int.eq_ofNat_of_zero_le (show 0 ≤ len by omega)
          by_cases hls : n ≤ s.size
          · have t1 : decide (s.size < n) = false := decide_eq_false (by omega)
            have t2 : decide ((s.size : Int) < (n : Int)) = false := decide_eq_false (by omega)
            have hx : (s.extract 0 n).size ≤ 1099511627776 := by rw [ByteArray.size_extract]; omega
            have kc := fun V => rcheck_any (s.extract 0 n) V hx
            rw [Int.toNat_natCast] at HD
            obtain ⟨C, hC⟩ : ∃ C, dgE (s.extract 0 n) = C := ⟨_, rfl⟩
            rw [hC] at kc HD
            have n1 : (n : Int) ≤ (s.size : Int) := by omega
            have n2 : (0 : Int) ≤ (n : Int) := Int.natCast_nonneg _
            clear hC hx
            by_cases hC0 : C = 0
            · subst hC0
              have HX := Lib.hid (show fsN s = n from by rw [HD.out, if_pos ⟨rfl, by omega, rfl⟩])
              clear hls HD h20 hhl
              go_wp2_with fail
              (with_reducible refine (kp _).mono ?_); rintro e1 W1 ⟨rfl, hb1⟩
              have hbk := Blk.new W1 99 #[.int .i64 ver, .int .i64 header, .int .i64 (n : Int), .int .i64 proto]
              have c0 := Blk.cell (hbk) 0 (v := .int .i64 ver) rfl
              have c1 := Blk.cell (hbk) 1 (v := .int .i64 header) rfl
              have c2 := Blk.cell (hbk) 2 (v := .int .i64 (n : Int)) rfl
              have c3 := Blk.cell (hbk) 3 (v := .int .i64 proto) rfl
              have hb0 := hb1.alloc hb1.size (.cells #[.int .i64 ver, .int .i64 header, .int .i64 (n : Int), .int .i64 proto] 99)
              go_wp2_with fail
              (with_reducible refine (kc _).mono ?_); rintro e2 W2 ⟨rfl, hb3⟩
              have hbk2 := Blk.below hbk hb3 hbk.lt
              have d0 := Blk.cell (hbk2) 0 (v := .int .i64 ver) rfl
              have d1 := Blk.cell (hbk2) 1 (v := .int .i64 header) rfl
              have d2 := Blk.cell (hbk2) 2 (v := .int .i64 (n : Int)) rfl
              have d3 := Blk.cell (hbk2) 3 (v := .int .i64 proto) rfl
              have hb2 := hb0.trans (hb3.mono hb0.size)
              clear kp kc c0 c1 c2 c3 hb3
              go_wp2_with fail
              go_ret
              exact ⟨by rw [HSS.out, HX.out]; rfl, hb2⟩
            · have t4 : (C == 0) = false := beq_eq_false_iff_ne.2 hC0
              have t5 : (C != 0) = true := by simpa using hC0
              have HX := Lib.hid (show fsN s = 0 from by rw [HD.out, if_neg (fun h => hC0 h.2.2)])
              clear hls HD h20 hhl
              go_wp2_with fail
              (with_reducible refine (kp _).mono ?_); rintro e1 W1 ⟨rfl, hb1⟩
              have hbk := Blk.new W1 99 #[.int .i64 ver, .int .i64 header, .int .i64 (n : Int), .int .i64 proto]
              have c0 := Blk.cell (hbk) 0 (v := .int .i64 ver) rfl
              have c1 := Blk.cell (hbk) 1 (v := .int .i64 header) rfl
              have c2 := Blk.cell (hbk) 2 (v := .int .i64 (n : Int)) rfl
              have c3 := Blk.cell (hbk) 3 (v := .int .i64 proto) rfl
              have hb0 := hb1.alloc hb1.size (.cells #[.int .i64 ver, .int .i64 header, .int .i64 (n : Int), .int .i64 proto] 99)
              go_wp2_with fail
              (with_reducible refine (kc _).mono ?_); rintro e2 W2 ⟨rfl, hb3⟩
              have hb2 := hb0.trans (hb3.mono hb0.size)
              clear kp kc c0 c1 c2 c3 hb3
              go_wp2_with fail
              go_ret
              exact ⟨by rw [HSS.out, HX.out]; rfl, hb2⟩
          · have t1 : decide (s.size < n) = true := decide_eq_true (by omega)
            have t2 : decide ((s.size : Int) < (n : Int)) = true := decide_eq_true (by omega)
            have HX := Lib.hid (show fsN s = 0 from by rw [HD.out, if_neg (fun h => hls (by have := h.2.1; omega))])
            clear hls HD h20 hhl
            go_wp2_with fail
            (with_reducible refine (kp _).mono ?_); rintro e1 W1 ⟨rfl, hb1⟩
            have hbk := Blk.new W1 99 #[.int .i64 ver, .int .i64 header, .int .i64 (n : Int), .int .i64 proto]
            have c0 := Blk.cell (hbk) 0 (v := .int .i64 ver) rfl
            have c1 := Blk.cell (hbk) 1 (v := .int .i64 header) rfl
            have c2 := Blk.cell (hbk) 2 (v := .int .i64 (n : Int)) rfl
            have c3 := Blk.cell (hbk) 3 (v := .int .i64 proto) rfl
            have hb2 := hb1.alloc hb1.size (.cells #[.int .i64 ver, .int .i64 header, .int .i64 (n : Int), .int .i64 proto] 99)
            clear kp
            go_wp2_with fail
            go_ret
            exact ⟨by rw [HSS.out, HX.out]; rfl, hb2⟩
        · have t4 : (E == 0) = false := beq_eq_false_iff_ne.2 hE0
          have t5 : (E != 0) = true := by simpa using hE0
          have HX := Lib.hid (show fsN s = 0 from by rw [HD.out, if_neg (fun h => hE0 h.1)])
          clear HD hpk
          go_wp2_with fail
          (with_reducible refine (kp _).mono ?_); rintro e1 W1 ⟨rfl, hb1⟩
          have hb2 := hb1.alloc hb1.size (.cells #[.int .i64 ver, .int .i64 header, .int .i64 len, .int .i64 proto] 99)
          clear kp
          go_wp2_with fail
          go_ret
          exact ⟨by rw [HSS.out, HX.out]; rfl, hb2⟩
    · have t0 : decide ((p : Int) + (k : Int) < 191 * (R : Int)) = false := decide_eq_false (by omega)
      have HKK := Lib.hid (show kn S p 4080 = k from by
        have h9 := HK.out
        have : kn S (p + k) (4080 - k) = 0 := by
          cases h0 : 4080 - k with
          | zero => rfl
          | succ f => rw [kn, atI_nat, decide_eq_false (by rw [HD.out.2]; exact h1)]; rfl
        omega)
      have hcv := conv_b HH.out p k (D - p) (by have := HDR.out; rw [HD.out.1]; omega)
      have HSS := Lib.hid (show dN S p = fsN (str (bytesL S p k)) from by unfold dN knS; rw [HKK.out])
      have hsz : (str (bytesL S p k)).size = k := by rw [← bl_len, bl_str, bytesL_len]
      obtain ⟨s, hs⟩ : ∃ s, str (bytesL S p k) = s := ⟨_, rfl⟩
      rw [hs] at hcv HSS hsz
      have hsb : s.size ≤ 1099511627776 := by omega
      have kp := fun V => rpeek_any s V hsb
      have hpk := fun h => pk_ok (s := s) h
      have HD := Lib.hid (show fsN s = if pkE s = 0 ∧ (pkH s).length ≤ s.size ∧ dgE (s.extract 0 (pkH s).length.toNat) = 0 then (pkH s).length.toNat else 0 from rfl)
      obtain ⟨E, hE⟩ : ∃ E, pkE s = E := ⟨_, rfl⟩
      obtain ⟨H, hH⟩ : ∃ H, pkH s = H := ⟨_, rfl⟩
      rw [hE, hH] at kp hpk HD
      clear hE hH hs hsz
      obtain ⟨ver, header, len, proto⟩ := H
      unfold Hd.vals at kp
      dsimp only at kp hpk HD
      by_cases hE0 : E = 0
      · subst hE0
        obtain ⟨_, h20, hhl, h4080⟩ := hpk rfl
        clear hpk
        obtain ⟨n, rfl⟩ := Int.eq_ofNat_of_zero_le (show 0 ≤ len by omega)
        by_cases hls : n ≤ s.size
        · have t1 : decide (s.size < n) = false := decide_eq_false (by omega)
          have t2 : decide ((s.size : Int) < (n : Int)) = false := decide_eq_false (by omega)
          have hx : (s.extract 0 n).size ≤ 1099511627776 := by rw [ByteArray.size_extract]; omega
          have kc := fun V => rcheck_any (s.extract 0 n) V hx
          rw [Int.toNat_natCast] at HD
          obtain ⟨C, hC⟩ : ∃ C, dgE (s.extract 0 n) = C := ⟨_, rfl⟩
          rw [hC] at kc HD
          have n1 : (n : Int) ≤ (s.size : Int) := by omega
          have n2 : (0 : Int) ≤ (n : Int) := Int.natCast_nonneg _
          clear hC hx
          by_cases hC0 : C = 0
          · subst hC0
            have HX := Lib.hid (show fsN s = n from by rw [HD.out, if_pos ⟨rfl, by omega, rfl⟩])
            clear hls HD h20 hhl
            go_wp2_with fail
            (with_reducible refine (kp _).mono ?_); rintro e1 W1 ⟨rfl, hb1⟩
            have hbk := Blk.new W1 99 #[.int .i64 ver, .int .i64 header, .int .i64 (n : Int), .int .i64 proto]
            have c0 := Blk.cell (hbk) 0 (v := .int .i64 ver) rfl
            have c1 := Blk.cell (hbk) 1 (v := .int .i64 header) rfl
            have c2 := Blk.cell (hbk) 2 (v := .int .i64 (n : Int)) rfl
            have c3 := Blk.cell (hbk) 3 (v := .int .i64 proto) rfl
            have hb0 := hb1.alloc hb1.size (.cells #[.int .i64 ver, .int .i64 header, .int .i64 (n : Int), .int .i64 proto] 99)
            go_wp2_with fail
            (with_reducible refine (kc _).mono ?_); rintro e2 W2 ⟨rfl, hb3⟩
            have hbk2 := Blk.below hbk hb3 hbk.lt
            have d0 := Blk.cell (hbk2) 0 (v := .int .i64 ver) rfl
            have d1 := Blk.cell (hbk2) 1 (v := .int .i64 header) rfl
            have d2 := Blk.cell (hbk2) 2 (v := .int .i64 (n : Int)) rfl
            have d3 := Blk.cell (hbk2) 3 (v := .int .i64 proto) rfl
            have hb2 := hb0.trans (hb3.mono hb0.size)
            clear kp kc c0 c1 c2 c3 hb3
            go_wp2_with fail
            go_ret
            exact ⟨by rw [HSS.out, HX.out]; rfl, hb2⟩
          · have t4 : (C == 0) = false := beq_eq_false_iff_ne.2 hC0
            have t5 : (C != 0) = true := by simpa using hC0
            have HX := Lib.hid (show fsN s = 0 from by rw [HD.out, if_neg (fun h => hC0 h.2.2)])
            clear hls HD h20 hhl
            go_wp2_with fail
            (with_reducible refine (kp _).mono ?_); rintro e1 W1 ⟨rfl, hb1⟩
            have hbk := Blk.new W1 99 #[.int .i64 ver, .int .i64 header, .int .i64 (n : Int), .int .i64 proto]
            have c0 := Blk.cell (hbk) 0 (v := .int .i64 ver) rfl
            have c1 := Blk.cell (hbk) 1 (v := .int .i64 header) rfl
            have c2 := Blk.cell (hbk) 2 (v := .int .i64 (n : Int)) rfl
            have c3 := Blk.cell (hbk) 3 (v := .int .i64 proto) rfl
            have hb0 := hb1.alloc hb1.size (.cells #[.int .i64 ver, .int .i64 header, .int .i64 (n : Int), .int .i64 proto] 99)
            go_wp2_with fail
            (with_reducible refine (kc _).mono ?_); rintro e2 W2 ⟨rfl, hb3⟩
            have hb2 := hb0.trans (hb3.mono hb0.size)
            clear kp kc c0 c1 c2 c3 hb3
            go_wp2_with fail
            go_ret
            exact ⟨by rw [HSS.out, HX.out]; rfl, hb2⟩
        · have t1 : decide (s.size < n) = true := decide_eq_true (by omega)
          have t2 : decide ((s.size : Int) < (n : Int)) = true := decide_eq_true (by omega)
          have HX := Lib.hid (show fsN s = 0 from by rw [HD.out, if_neg (fun h => hls (by have := h.2.1; omega))])
          clear hls HD h20 hhl
          go_wp2_with fail
          (with_reducible refine (kp _).mono ?_); rintro e1 W1 ⟨rfl, hb1⟩
          have hbk := Blk.new W1 99 #[.int .i64 ver, .int .i64 header, .int .i64 (n : Int), .int .i64 proto]
          have c0 := Blk.cell (hbk) 0 (v := .int .i64 ver) rfl
          have c1 := Blk.cell (hbk) 1 (v := .int .i64 header) rfl
          have c2 := Blk.cell (hbk) 2 (v := .int .i64 (n : Int)) rfl
          have c3 := Blk.cell (hbk) 3 (v := .int .i64 proto) rfl
          have hb2 := hb1.alloc hb1.size (.cells #[.int .i64 ver, .int .i64 header, .int .i64 (n : Int), .int .i64 proto] 99)
          clear kp
          go_wp2_with fail
          go_ret
          exact ⟨by rw [HSS.out, HX.out]; rfl, hb2⟩
      · have t4 : (E == 0) = false := beq_eq_false_iff_ne.2 hE0
        have t5 : (E != 0) = true := by simpa using hE0
        have HX := Lib.hid (show fsN s = 0 from by rw [HD.out, if_neg (fun h => hE0 h.1)])
        clear HD hpk
        go_wp2_with fail
        (with_reducible refine (kp _).mono ?_); rintro e1 W1 ⟨rfl, hb1⟩
        have hb2 := hb1.alloc hb1.size (.cells #[.int .i64 ver, .int .i64 header, .int .i64 len, .int .i64 proto] 99)
        clear kp
        go_wp2_with fail
        go_ret
        exact ⟨by rw [HSS.out, HX.out]; rfl, hb2⟩
end Go.Proofs.YtnjbacdgecoedaaDoor.RtP
