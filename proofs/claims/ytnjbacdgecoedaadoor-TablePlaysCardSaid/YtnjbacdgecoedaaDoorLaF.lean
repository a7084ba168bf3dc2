/- TablePlays: the walk. -/
import Derived.Test.YtnjbacdgecoedaaDoorLaE
namespace Go.Proofs.YtnjbacdgecoedaaDoor.LaF
open Go Go.RowKit Go.Proofs.YtnjbacdgecoedaaDoor.Q Go.Proofs.YtnjbacdgecoedaaDoor.Mem Go.Proofs.YtnjbacdgecoedaaDoor.Rg Go.Proofs.YtnjbacdgecoedaaDoor.Ap Go.Proofs.YtnjbacdgecoedaaDoor.ApG Go.Proofs.YtnjbacdgecoedaaDoor.St Go.Proofs.YtnjbacdgecoedaaDoor.BiW Go.Proofs.YtnjbacdgecoedaaDoor.CrB Go.Proofs.YtnjbacdgecoedaaDoor.Tab Go.Proofs.YtnjbacdgecoedaaDoor.TlS Go.Proofs.YtnjbacdgecoedaaDoor.TbM Go.Proofs.YtnjbacdgecoedaaDoor.TbO Go.Proofs.YtnjbacdgecoedaaDoor.TbP Go.Proofs.YtnjbacdgecoedaaDoor.TbQ Go.Proofs.YtnjbacdgecoedaaDoor.TbR Go.Proofs.YtnjbacdgecoedaaDoor.TbU Go.Proofs.YtnjbacdgecoedaaDoor.RtM Go.Proofs.YtnjbacdgecoedaaDoor.RtN Go.Proofs.YtnjbacdgecoedaaDoor.RtO Go.Proofs.YtnjbacdgecoedaaDoor.RtP Go.Proofs.YtnjbacdgecoedaaDoor.RtQ Go.Proofs.YtnjbacdgecoedaaDoor.LaA Go.Proofs.YtnjbacdgecoedaaDoor.LaB Go.Proofs.YtnjbacdgecoedaaDoor.LaC Go.Proofs.YtnjbacdgecoedaaDoor.LaD Go.Proofs.YtnjbacdgecoedaaDoor.LaE

set_option maxRecDepth 100000
theorem right_any (x : Int) (w : World) : Calls Tryd.prog 5 #[.int .i64 x] w fun e w' => e = .returned (.bool (isSz x)) ∧ w = w' := by
  have HR := Lib.hid (show isSz x = (x == 256 || x == 512 || x == 768 || x == 1024) from by
    unfold isSz
    by_cases h1 : x = 256 <;> by_cases h2 : x = 512 <;> by_cases h3 : x = 768 <;> by_cases h4 : x = 1024 <;> simp [h1, h2, h3, h4])
  obtain ⟨Z, hZ⟩ : ∃ Z, isSz x = Z := ⟨_, rfl⟩
  rw [hZ] at HR ⊢
  clear hZ
  go_enter Tryd.func5, Tryd.ntmps5
  go_wp2_with fail
  all_goals
    go_ret
    refine ⟨?_, rfl⟩
    rw [HR.out]
    simp_all
theorem rt_base {w : World} {B B' gx g1 g2 g3 : Nat} {S : Tb} (h : RtIn w B gx g1 g2 g3 S) (hb : B' ≤ B) : RtIn w B' gx g1 g2 g3 S :=
  ⟨h.box, h.b, h.is, h.st, h.n1, h.n2, h.n3, h.n4, h.n5, h.n6, Nat.le_trans hb h.bx, Nat.le_trans hb h.b1, Nat.le_trans hb h.b2, Nat.le_trans hb h.b3⟩
theorem both_t {w : World} {B gt gx : Nat} {S : Tb} (h : Both w B S gt gx) : ∃ gr v, TbIn w B gt gr v S := by obtain ⟨gr, v, _, _, _, h, _⟩ := h; exact ⟨gr, v, h⟩
theorem both_x {w : World} {B gt gx : Nat} {S : Tb} (h : Both w B S gt gx) : ∃ g1 g2 g3, RtIn w B gx g1 g2 g3 S := by obtain ⟨_, _, g1, g2, g3, _, h, _⟩ := h; exact ⟨g1, g2, g3, h⟩
set_option maxHeartbeats 3200000 in
theorem law_any (rows : Int) (a : Option Addr) (n c : Nat) (L : List Opn) (p q : Int) (w : World) (hT : Tab 0 w) (hn : L.length = n) (hl : n ≤ 9223372036854775807) (hL : Seq enOp 5 w a L) (hb : ∀ o ∈ L, o.b < 256) :
    Calls Tryd.prog 3 #[.int .i64 rows, .slice a n c, .agg #[.int .i64 p, .int .i64 q]] w fun e w' => e = .returned (.bool true) ∧ Below w.heap.size w w' := by
  have hb0 : Below w.heap.size w (w.alloc (.cells #[.int .i64 p, .int .i64 q] 23)) := (Below.refl _ _).alloc (Nat.le_refl _) _
  have hbk := Blk.new w 23 #[.int .i64 p, .int .i64 q]
  have kn := new_any rows _ (hT.be hb0)
  have kr := fun V => right_any rows V
  have kaw := fun V (hV : Below w.heap.size w V) => awake_any V (hT.be hV)
  have HL := Lib.hid hL
  have HN := Lib.hid hn
  have HB := Lib.hid hb
  clear hT hL hn hb
  obtain ⟨Z, hZ⟩ : ∃ Z, isSz rows = Z := ⟨_, rfl⟩
  rw [hZ] at kn kr
  clear hZ
  cases Z with
  | false =>
    simp only [Bool.false_eq_true, if_false] at kn
    go_enter Tryd.func3, Tryd.ntmps3
    go_wp2_with fail
    (with_reducible refine (kn).mono ?_); rintro e1 W1 ⟨hb1, rfl⟩
    have hb2 := hb0.trans (hb1.mono hb0.size)
    have ka := kaw W1 hb2
    clear kn hb1 kaw
    go_wp2_with fail
    (with_reducible refine (kr _).mono ?_); rintro e2 W2 ⟨rfl, rfl⟩
    go_wp2_with fail
    (with_reducible refine (ka).mono ?_); rintro e3 W3 ⟨rfl, hb3⟩
    have hb4 := hb2.trans (hb3.mono hb2.size)
    go_wp2_with fail
    go_ret
    exact ⟨rfl, hb4⟩
  | true =>
    simp only [if_true] at kn
    go_enter Tryd.func3, Tryd.ntmps3
    go_wp2_with fail
    (with_reducible refine (kn).mono ?_); rintro e1 W1 ⟨hb1, R, gt, gr, rfl, hR9, hR0, rfl, ht1⟩
    have hb2 := hb0.trans (hb1.mono hb0.size)
    have kf := few_any a n c L W1 HN.out hl (HL.out.below (Nat.le_refl _) hb2)
    have HFF := Lib.hid (show fewB L = true → n ≤ 30 ∧ ∀ o ∈ L, fewO o from fun h => by
      unfold fewB at h
      simp only [Bool.and_eq_true, decide_eq_true_eq, List.all_eq_true] at h
      exact ⟨by have := h.2; rw [HN.out] at this; exact this, h.1⟩)
    obtain ⟨F, hF⟩ : ∃ F, fewB L = F := ⟨_, rfl⟩
    rw [hF] at kf HFF
    have HT1 := Lib.hid ht1
    clear kn ht1 hF
    cases F with
    | false =>
      have ka := kaw W1 hb2
      clear kaw
      go_wp2_with fail
      (with_reducible refine (kr _).mono ?_); rintro e2 W2 ⟨rfl, rfl⟩
      go_wp2_with fail
      (with_reducible refine (kf).mono ?_); rintro e2 W2 ⟨rfl, rfl⟩
      go_wp2_with fail
      (with_reducible refine (ka).mono ?_); rintro e3 W3 ⟨rfl, hb3⟩
      have hb4 := hb2.trans (hb3.mono hb2.size)
      go_wp2_with fail
      go_ret
      exact ⟨rfl, hb4⟩
    | true =>
      obtain ⟨hn30, hfew⟩ := HFF.out rfl
      have HFW := Lib.hid hfew
      have kx := rnew_any R W1 hR9 hR0
      clear HFF hfew
      go_wp2_with fail
      (with_reducible refine (kr _).mono ?_); rintro e2 W2 ⟨rfl, rfl⟩
      go_wp2_with fail
      (with_reducible refine (kf).mono ?_); rintro e2 W2 ⟨rfl, rfl⟩
      go_wp2_with fail
      (with_reducible refine (kx).mono ?_); rintro e2 W2 ⟨hb3, gx, g1, g2, g3, rfl, hx2⟩
      have HBo := Lib.hid (show Both W2 (w.alloc (.cells #[.int .i64 p, .int .i64 q] 23)).heap.size (emptyT R) gt gx from ⟨gr, _, g1, g2, g3, HT1.out.below hb3, rt_base hx2 hb1.size, fun i hf hx => by
        have h1 := (HT1.out.ge i hf).2
        have h2 := (hx2.ge i hx).1
        omega⟩)
      have hb4 : Below (w.alloc (.cells #[.int .i64 p, .int .i64 q] 23)).heap.size (w.alloc (.cells #[.int .i64 p, .int .i64 q] 23)) W2 := hb1.trans (hb3.mono hb1.size)
      obtain ⟨w0, hw0⟩ : ∃ w0, w.alloc (.cells #[.int .i64 p, .int .i64 q] 23) = w0 := ⟨_, rfl⟩
      rw [hw0] at HBo hb4 hb0 hbk
      have HW0 := Lib.hid (show w.heap.size < w0.heap.size from by rw [← hw0]; simp)
      clear kf kx hb1 hb2 hb3 hx2 HT1 kr hw0
      go_wp2_with fail
      go_loopw [10] (fun i wr => ∃ (k : Nat) (S : Tb), k ≤ n ∧ i = .int .i64 k ∧ Hid (Both wr w0.heap.size S gt gx) ∧ Hid (Ok S ∧ S.st.length ≤ k ∧ S.R = R) ∧ Below w0.heap.size w0 wr) (fun i _ => n - (intOf i).toNat)
      case atStart => exact ⟨0, emptyT R, by omega, rfl, HBo, Lib.hid ⟨empty_ok hR9 hR0, by simp [emptyT], rfl⟩, hb4⟩
      case round =>
        obtain ⟨k, S, hk, rfl, HBr, HOr, hb⟩ := hrel
        have hbw := hb0.trans (hb.mono hb0.size)
        clear HBo hb4
        by_cases hkn : k < n
        · have u1 : decide (k < n) = true := decide_eq_true hkn
          obtain ⟨x, hx⟩ : ∃ x, L[k]? = some x := ⟨_, List.getElem?_eq_getElem (by rw [HN.out]; exact hkn)⟩
          obtain ⟨b0, o0, e0, l0, hc0⟩ := (HL.out.below (Nat.le_refl _) hbw) k x hx
          have kd := does_any wr w0.heap.size gt gx S x HBr.out HOr.out.1 (HFW.out x (List.mem_of_getElem? hx)) (HB.out x (List.mem_of_getElem? hx)) hb.size
          obtain ⟨hokN, hstN, hRN⟩ := does_ok HOr.out.1 (by have := HOr.out.2.1; omega) x
          have HON := Lib.hid (show Ok (doesS S x) ∧ (doesS S x).st.length ≤ k + 1 ∧ (doesS S x).R = R from ⟨hokN, by have := HOr.out.2.1; omega, hRN.trans HOr.out.2.2⟩)
          obtain ⟨S', hS'⟩ : ∃ S', doesS S x = S' := ⟨_, rfl⟩
          rw [hS'] at kd HON
          subst e0
          obtain ⟨ask, at_, m, b, text⟩ := x
          dsimp only [enOp] at kd
          have y0 := hc0 0 (.int .i64 ask) rfl
          have y1 := hc0 1 (.int .i64 at_) rfl
          have y2 := hc0 2 (.int .i64 m) rfl
          have y3 := hc0 3 (.int .u8 (b : Int)) rfl
          have y4 := hc0 4 (.string text) rfl
          rw [off_eq] at y0 y1 y2 y3 y4
          rw [Nat.add_zero] at y0
          have k0 : (0 : Int) ≤ (k : Int) := Int.natCast_nonneg _
          have k1 : (k : Int) < (n : Int) := by omega
          clear hc0 hx hokN hstN hRN hS' HBr HOr
          go_wp2_with fail
          (with_reducible refine (kd).mono ?_); rintro e3 W3 ⟨rfl, hB3, hb3⟩
          have HB3 := Lib.hid hB3
          have hb9 := hb.trans hb3
          clear kd hb3 hB3 hb y0 y1 y2 y3 y4 hbw
          go_wp2_with fail
          go_roundw
          case rel => exact ⟨k + 1, S', by omega, by go_num, HB3, HON, hb9⟩
          case measure => simp [intOf]; omega
        · obtain rfl : k = n := by omega
          have u1 : decide (k < k) = false := by simp
          obtain ⟨gr', v', hTn⟩ := both_t HBr.out
          obtain ⟨g1', g2', g3', hXn⟩ := both_x HBr.out
          have HK := Lib.hid (Blk.below hbk hb hbk.lt)
          have hSR := HOr.out.2.2
          have ka := At_any wr w0.heap.size gt gr' p v' S hTn HOr.out.1.R
          have kl := fun V (hV : Below wr.heap.size wr V) => Lost_any V w0.heap.size gt gr' q v' S (hTn.below hV)
          rw [hSR] at kl
          have hat : (0 ≤ p ∧ p < 191 * (R : Int) → atB S p = S.b p.toNat ∧ atI S p = S.is p.toNat) ∧ (¬ (0 ≤ p ∧ p < 191 * (R : Int)) → atB S p = 0 ∧ atI S p = false) := by
            unfold atB atI
            rw [hSR]
            refine ⟨fun h => ⟨if_pos ⟨h.1, by have := h.2; omega⟩, if_pos ⟨h.1, by have := h.2; omega⟩⟩, fun h => ⟨if_neg (fun h2 => h ⟨h2.1, by have := h2.2; omega⟩), if_neg (fun h2 => h ⟨h2.1, by have := h2.2; omega⟩)⟩⟩
          obtain ⟨NQ, hNQ⟩ : ∃ NQ : Int, (if 0 ≤ q ∧ q < (R : Int) then ((lostL S q.toNat).length : Int) else 0) = NQ := ⟨_, rfl⟩
          obtain ⟨GQ, hGQ⟩ : ∃ GQ : Int, (if 0 ≤ q ∧ q < (R : Int) then 0 else 15) = GQ := ⟨_, rfl⟩
          rw [hNQ, hGQ] at kl
          have HNQ := Lib.hid (And.intro hNQ hGQ)
          have y0 := Blk.cell HK.out 0 (v := .int .i64 p) rfl
          clear hkn hk hb hb0 hbk hNQ hGQ
          by_cases hp : 0 ≤ p ∧ p < 191 * (R : Int)
          · rw [(hat.1 hp).1, (hat.1 hp).2] at ka
            obtain ⟨P, rfl⟩ := Int.eq_ofNat_of_zero_le hp.1
            rw [Int.toNat_natCast] at ka
            have t1 : decide ((0 : Int) ≤ (P : Int)) = true := decide_eq_true hp.1
            have t2 : decide ((P : Int) < 191 * (R : Int)) = true := decide_eq_true hp.2
            have t3 : ((S.b P).toNat == (S.b P).toNat) = true := beq_self_eq_true _
            have hpD : P < 255 * S.R := by have := hp.2; omega
            have hpI := Lib.hid hpD
            clear hat hSR
            go_wp2_with fail
            (with_reducible refine (ka).mono ?_); rintro e3 W3 ⟨hb3, rfl⟩
            have HK3 := Lib.hid (Blk.below HK.out hb3 HK.out.lt)
            have kl3 := kl W3 hb3
            have y1 := Blk.cell HK3.out 1 (v := .int .i64 q) rfl
            clear ka y0 kl
            go_wp2_with fail
            (with_reducible refine (kl3).mono ?_); rintro e5 W5 ⟨hb5, rfl⟩
            have hb45 := hb3.trans (hb5.mono hb3.size)
            have HB5 := Lib.hid (HBr.out.below hb45)
            have HK5 := Lib.hid (Blk.below HK3.out hb5 HK3.out.lt)
            have hX5 := hXn.below hb45
            have hbW := hbw.trans (hb45.mono hbw.size)
            have z0 := Blk.cell HK5.out 0 (v := .int .i64 _) rfl
            clear kl3 y1 hb3 hb5 hb45 hTn hXn HBr
            go_wp2_with fail
            have c1 := fun ex => Blk.cell (blk_ext hX5.box ex) 1 (v := .slice (some ⟨g1', 0, none⟩) (255 * S.R) (255 * S.R)) rfl
            have c2 := fun ex => Blk.cell (blk_ext hX5.box ex) 2 (v := .slice (some ⟨g2', 0, none⟩) (255 * S.R) (255 * S.R)) rfl
            have c3 := fun ex => (hX5.b.ext ex).cell P hpI.out
            have c4 := fun ex => (hX5.is.ext ex).cell P hpI.out
            dsimp only [u8v] at c3 c4
            obtain ⟨D, hD⟩ : ∃ D, 255 * S.R = D := ⟨_, rfl⟩
            rw [hD] at c1 c2 hpD
            have j1 : (P : Int) < (D : Int) := by omega
            clear hD hp
            have z5 := fun ex => Blk.cell (blk_ext HK5.out ex) 0 (v := .int .i64 _) rfl
            clear z0
            refine Go.Proofs.YtnjbacdgecoedaaDoor.Q.region_ext (by kernel_rfl) (by kernel_rfl) ?_
            repeat (go_big_quiet_step (fail))
            refine wpQuiet_nil ?_
            rintro w9 ⟨pq, rfl⟩
            have hb9 := below_ext W5 pq
            have HB9 := Lib.hid (HB5.out.below hb9)
            have HK9 := Lib.hid (Blk.below HK5.out hb9 HK5.out.lt)
            have hbX := hbW.trans (hb9.mono hbW.size)
            have HX9 := Lib.hid (hX5.below hb9)
            obtain ⟨W9, hW9⟩ : ∃ W9, ext W5 pq = W9 := ⟨_, rfl⟩
            rw [hW9] at HB9 HK9 hbX HX9 ⊢
            clear z5 hX5 hb9 hW9 HB5 HK5 hbW
            clear c1 c2 c3 c4
            have z1 := Blk.cell HK9.out 1 (v := .int .i64 q) rfl
            by_cases hq : 0 ≤ q ∧ q < (R : Int)
            · have hN := (HNQ.out.1).symm.trans (if_pos hq)
              have hG := (HNQ.out.2).symm.trans (if_pos hq)
              obtain ⟨r, rfl⟩ := Int.eq_ofNat_of_zero_le hq.1
              rw [Int.toNat_natCast] at hN
              have s1 : decide ((r : Int) < 0) = false := decide_eq_false (by omega)
              have s2 : decide ((R : Int) ≤ (r : Int)) = false := decide_eq_false (by omega)
              have s5 : decide (R ≤ r) = false := decide_eq_false (by omega)
              have s6 : (0 : Int) ≤ (r : Int) := Int.natCast_nonneg _
              have s7 : r < R := by omega
              have kr := rlost_any W9 w0.heap.size gx g1' g2' g3' r S HX9.out HOr.out.1.R (by have := HOr.out.2.2; omega)
              subst hG hN
              clear hq HNQ
              go_wp2_with fail
              (with_reducible refine (kr).mono ?_); rintro e6 W6 ⟨rfl, hb6⟩
              have s3 : (((lostL S r).length : Int) == ((lostL S r).length : Int)) = true := beq_self_eq_true _
              have s4 : ((lostL S r).length == (lostL S r).length) = true := beq_self_eq_true _
              have kt := lout_any W6 w0.heap.size gt gx S (HB9.out.below hb6) HOr.out.1
              have hbY := hbX.trans (hb6.mono hbX.size)
              clear kr z1 hb6 hbX
              go_wp2_with fail
              (with_reducible refine (kt).mono ?_); rintro e7 W7 ⟨rfl, hb7⟩
              have hbZ := hbY.trans (hb7.mono hbY.size)
              have kw := kaw W7 hbZ
              clear kt hb7 hbY kaw
              go_wp2_with fail
              (with_reducible refine (kw).mono ?_); rintro e8 W8 ⟨rfl, hb8⟩
              have hbV := hbZ.trans (hb8.mono hbZ.size)
              clear kw hb8 hbZ
              go_wp2_with fail
              go_ret
              exact ⟨rfl, hbV⟩
            · have hN := (HNQ.out.1).symm.trans (if_neg hq)
              have hG := (HNQ.out.2).symm.trans (if_neg hq)
              have s1 : (decide (q < 0) || decide ((R : Int) ≤ q)) = true := by
                by_cases h : q < 0
                · simp [h]
                · have : (R : Int) ≤ q := by omega
                  simp [this]
              have kt := lout_any W9 w0.heap.size gt gx S HB9.out HOr.out.1
              subst hG hN
              clear HNQ
              by_cases hq0 : q < 0
              · have s2 : decide (q < 0) = true := decide_eq_true hq0
                clear hq hq0 s1
                go_wp2_with fail
                (with_reducible refine (kt).mono ?_); rintro e7 W7 ⟨rfl, hb7⟩
                have hbZ := hbX.trans (hb7.mono hbX.size)
                have kw := kaw W7 hbZ
                clear kt hb7 hbX kaw z1
                go_wp2_with fail
                (with_reducible refine (kw).mono ?_); rintro e8 W8 ⟨rfl, hb8⟩
                have hbV := hbZ.trans (hb8.mono hbZ.size)
                clear kw hb8 hbZ
                go_wp2_with fail
                go_ret
                exact ⟨rfl, hbV⟩
              · have s2 : decide (q < 0) = false := decide_eq_false hq0
                have s3 : decide ((R : Int) ≤ q) = true := decide_eq_true (by omega)
                clear hq hq0 s1
                go_wp2_with fail
                (with_reducible refine (kt).mono ?_); rintro e7 W7 ⟨rfl, hb7⟩
                have hbZ := hbX.trans (hb7.mono hbX.size)
                have kw := kaw W7 hbZ
                clear kt hb7 hbX kaw z1
                go_wp2_with fail
                (with_reducible refine (kw).mono ?_); rintro e8 W8 ⟨rfl, hb8⟩
                have hbV := hbZ.trans (hb8.mono hbZ.size)
                clear kw hb8 hbZ
                go_wp2_with fail
                go_ret
                exact ⟨rfl, hbV⟩
          · rw [(hat.2 hp).1, (hat.2 hp).2] at ka
            by_cases hp0 : p < 0
            · have t1 : decide ((0 : Int) ≤ p) = false := decide_eq_false (by omega)
              clear hp
              clear hat hSR
              go_wp2_with fail
              (with_reducible refine (ka).mono ?_); rintro e3 W3 ⟨hb3, rfl⟩
              have HK3 := Lib.hid (Blk.below HK.out hb3 HK.out.lt)
              have kl3 := kl W3 hb3
              have y1 := Blk.cell HK3.out 1 (v := .int .i64 q) rfl
              clear ka y0 kl
              go_wp2_with fail
              (with_reducible refine (kl3).mono ?_); rintro e5 W5 ⟨hb5, rfl⟩
              have hb45 := hb3.trans (hb5.mono hb3.size)
              have HB5 := Lib.hid (HBr.out.below hb45)
              have HK5 := Lib.hid (Blk.below HK3.out hb5 HK3.out.lt)
              have hX5 := hXn.below hb45
              have hbW := hbw.trans (hb45.mono hbw.size)
              have z0 := Blk.cell HK5.out 0 (v := .int .i64 _) rfl
              clear kl3 y1 hb3 hb5 hb45 hTn hXn HBr
              go_wp2_with fail
              have z5 := fun ex => Blk.cell (blk_ext HK5.out ex) 0 (v := .int .i64 _) rfl
              clear z0
              refine Go.Proofs.YtnjbacdgecoedaaDoor.Q.region_ext (by kernel_rfl) (by kernel_rfl) ?_
              repeat (go_big_quiet_step (fail))
              refine wpQuiet_nil ?_
              rintro w9 ⟨pq, rfl⟩
              have hb9 := below_ext W5 pq
              have HB9 := Lib.hid (HB5.out.below hb9)
              have HK9 := Lib.hid (Blk.below HK5.out hb9 HK5.out.lt)
              have hbX := hbW.trans (hb9.mono hbW.size)
              have HX9 := Lib.hid (hX5.below hb9)
              obtain ⟨W9, hW9⟩ : ∃ W9, ext W5 pq = W9 := ⟨_, rfl⟩
              rw [hW9] at HB9 HK9 hbX HX9 ⊢
              clear z5 hX5 hb9 hW9 HB5 HK5 hbW
              have z1 := Blk.cell HK9.out 1 (v := .int .i64 q) rfl
              by_cases hq : 0 ≤ q ∧ q < (R : Int)
              · have hN := (HNQ.out.1).symm.trans (if_pos hq)
                have hG := (HNQ.out.2).symm.trans (if_pos hq)
                obtain ⟨r, rfl⟩ := Int.eq_ofNat_of_zero_le hq.1
                rw [Int.toNat_natCast] at hN
                have s1 : decide ((r : Int) < 0) = false := decide_eq_false (by omega)
                have s2 : decide ((R : Int) ≤ (r : Int)) = false := decide_eq_false (by omega)
                have s5 : decide (R ≤ r) = false := decide_eq_false (by omega)
                have s6 : (0 : Int) ≤ (r : Int) := Int.natCast_nonneg _
                have s7 : r < R := by omega
                have kr := rlost_any W9 w0.heap.size gx g1' g2' g3' r S HX9.out HOr.out.1.R (by have := HOr.out.2.2; omega)
                subst hG hN
                clear hq HNQ
                go_wp2_with fail
                (with_reducible refine (kr).mono ?_); rintro e6 W6 ⟨rfl, hb6⟩
                have s3 : (((lostL S r).length : Int) == ((lostL S r).length : Int)) = true := beq_self_eq_true _
                have s4 : ((lostL S r).length == (lostL S r).length) = true := beq_self_eq_true _
                have kt := lout_any W6 w0.heap.size gt gx S (HB9.out.below hb6) HOr.out.1
                have hbY := hbX.trans (hb6.mono hbX.size)
                clear kr z1 hb6 hbX
                go_wp2_with fail
                (with_reducible refine (kt).mono ?_); rintro e7 W7 ⟨rfl, hb7⟩
                have hbZ := hbY.trans (hb7.mono hbY.size)
                have kw := kaw W7 hbZ
                clear kt hb7 hbY kaw
                go_wp2_with fail
                (with_reducible refine (kw).mono ?_); rintro e8 W8 ⟨rfl, hb8⟩
                have hbV := hbZ.trans (hb8.mono hbZ.size)
                clear kw hb8 hbZ
                go_wp2_with fail
                go_ret
                exact ⟨rfl, hbV⟩
              · have hN := (HNQ.out.1).symm.trans (if_neg hq)
                have hG := (HNQ.out.2).symm.trans (if_neg hq)
                have s1 : (decide (q < 0) || decide ((R : Int) ≤ q)) = true := by
                  by_cases h : q < 0
                  · simp [h]
                  · have : (R : Int) ≤ q := by omega
                    simp [this]
                have kt := lout_any W9 w0.heap.size gt gx S HB9.out HOr.out.1
                subst hG hN
                clear HNQ
                by_cases hq0 : q < 0
                · have s2 : decide (q < 0) = true := decide_eq_true hq0
                  clear hq hq0 s1
                  go_wp2_with fail
                  (with_reducible refine (kt).mono ?_); rintro e7 W7 ⟨rfl, hb7⟩
                  have hbZ := hbX.trans (hb7.mono hbX.size)
                  have kw := kaw W7 hbZ
                  clear kt hb7 hbX kaw z1
                  go_wp2_with fail
                  (with_reducible refine (kw).mono ?_); rintro e8 W8 ⟨rfl, hb8⟩
                  have hbV := hbZ.trans (hb8.mono hbZ.size)
                  clear kw hb8 hbZ
                  go_wp2_with fail
                  go_ret
                  exact ⟨rfl, hbV⟩
                · have s2 : decide (q < 0) = false := decide_eq_false hq0
                  have s3 : decide ((R : Int) ≤ q) = true := decide_eq_true (by omega)
                  clear hq hq0 s1
                  go_wp2_with fail
                  (with_reducible refine (kt).mono ?_); rintro e7 W7 ⟨rfl, hb7⟩
                  have hbZ := hbX.trans (hb7.mono hbX.size)
                  have kw := kaw W7 hbZ
                  clear kt hb7 hbX kaw z1
                  go_wp2_with fail
                  (with_reducible refine (kw).mono ?_); rintro e8 W8 ⟨rfl, hb8⟩
                  have hbV := hbZ.trans (hb8.mono hbZ.size)
                  clear kw hb8 hbZ
                  go_wp2_with fail
                  go_ret
                  exact ⟨rfl, hbV⟩
            · have t1 : decide ((0 : Int) ≤ p) = true := decide_eq_true (by omega)
              have t2 : decide (p < 191 * (R : Int)) = false := decide_eq_false (by omega)
              clear hp
              clear hat hSR
              go_wp2_with fail
              (with_reducible refine (ka).mono ?_); rintro e3 W3 ⟨hb3, rfl⟩
              have HK3 := Lib.hid (Blk.below HK.out hb3 HK.out.lt)
              have kl3 := kl W3 hb3
              have y1 := Blk.cell HK3.out 1 (v := .int .i64 q) rfl
              clear ka y0 kl
              go_wp2_with fail
              (with_reducible refine (kl3).mono ?_); rintro e5 W5 ⟨hb5, rfl⟩
              have hb45 := hb3.trans (hb5.mono hb3.size)
              have HB5 := Lib.hid (HBr.out.below hb45)
              have HK5 := Lib.hid (Blk.below HK3.out hb5 HK3.out.lt)
              have hX5 := hXn.below hb45
              have hbW := hbw.trans (hb45.mono hbw.size)
              have z0 := Blk.cell HK5.out 0 (v := .int .i64 _) rfl
              clear kl3 y1 hb3 hb5 hb45 hTn hXn HBr
              go_wp2_with fail
              have z5 := fun ex => Blk.cell (blk_ext HK5.out ex) 0 (v := .int .i64 _) rfl
              clear z0
              refine Go.Proofs.YtnjbacdgecoedaaDoor.Q.region_ext (by kernel_rfl) (by kernel_rfl) ?_
              repeat (go_big_quiet_step (fail))
              refine wpQuiet_nil ?_
              rintro w9 ⟨pq, rfl⟩
              have hb9 := below_ext W5 pq
              have HB9 := Lib.hid (HB5.out.below hb9)
              have HK9 := Lib.hid (Blk.below HK5.out hb9 HK5.out.lt)
              have hbX := hbW.trans (hb9.mono hbW.size)
              have HX9 := Lib.hid (hX5.below hb9)
              obtain ⟨W9, hW9⟩ : ∃ W9, ext W5 pq = W9 := ⟨_, rfl⟩
              rw [hW9] at HB9 HK9 hbX HX9 ⊢
              clear z5 hX5 hb9 hW9 HB5 HK5 hbW
              have z1 := Blk.cell HK9.out 1 (v := .int .i64 q) rfl
              by_cases hq : 0 ≤ q ∧ q < (R : Int)
              · have hN := (HNQ.out.1).symm.trans (if_pos hq)
                have hG := (HNQ.out.2).symm.trans (if_pos hq)
                obtain ⟨r, rfl⟩ := Int.eq_ofNat_of_zero_le hq.1
                rw [Int.toNat_natCast] at hN
                have s1 : decide ((r : Int) < 0) = false := decide_eq_false (by omega)
                have s2 : decide ((R : Int) ≤ (r : Int)) = false := decide_eq_false (by omega)
                have s5 : decide (R ≤ r) = false := decide_eq_false (by omega)
                have s6 : (0 : Int) ≤ (r : Int) := Int.natCast_nonneg _
                have s7 : r < R := by omega
                have kr := rlost_any W9 w0.heap.size gx g1' g2' g3' r S HX9.out HOr.out.1.R (by have := HOr.out.2.2; omega)
                subst hG hN
                clear hq HNQ
                go_wp2_with fail
                (with_reducible refine (kr).mono ?_); rintro e6 W6 ⟨rfl, hb6⟩
                have s3 : (((lostL S r).length : Int) == ((lostL S r).length : Int)) = true := beq_self_eq_true _
                have s4 : ((lostL S r).length == (lostL S r).length) = true := beq_self_eq_true _
                have kt := lout_any W6 w0.heap.size gt gx S (HB9.out.below hb6) HOr.out.1
                have hbY := hbX.trans (hb6.mono hbX.size)
                clear kr z1 hb6 hbX
                go_wp2_with fail
                (with_reducible refine (kt).mono ?_); rintro e7 W7 ⟨rfl, hb7⟩
                have hbZ := hbY.trans (hb7.mono hbY.size)
                have kw := kaw W7 hbZ
                clear kt hb7 hbY kaw
                go_wp2_with fail
                (with_reducible refine (kw).mono ?_); rintro e8 W8 ⟨rfl, hb8⟩
                have hbV := hbZ.trans (hb8.mono hbZ.size)
                clear kw hb8 hbZ
                go_wp2_with fail
                go_ret
                exact ⟨rfl, hbV⟩
              · have hN := (HNQ.out.1).symm.trans (if_neg hq)
                have hG := (HNQ.out.2).symm.trans (if_neg hq)
                have s1 : (decide (q < 0) || decide ((R : Int) ≤ q)) = true := by
                  by_cases h : q < 0
                  · simp [h]
                  · have : (R : Int) ≤ q := by omega
                    simp [this]
                have kt := lout_any W9 w0.heap.size gt gx S HB9.out HOr.out.1
                subst hG hN
                clear HNQ
                by_cases hq0 : q < 0
                · have s2 : decide (q < 0) = true := decide_eq_true hq0
                  clear hq hq0 s1
                  go_wp2_with fail
                  (with_reducible refine (kt).mono ?_); rintro e7 W7 ⟨rfl, hb7⟩
                  have hbZ := hbX.trans (hb7.mono hbX.size)
                  have kw := kaw W7 hbZ
                  clear kt hb7 hbX kaw z1
                  go_wp2_with fail
                  (with_reducible refine (kw).mono ?_); rintro e8 W8 ⟨rfl, hb8⟩
                  have hbV := hbZ.trans (hb8.mono hbZ.size)
                  clear kw hb8 hbZ
                  go_wp2_with fail
                  go_ret
                  exact ⟨rfl, hbV⟩
                · have s2 : decide (q < 0) = false := decide_eq_false hq0
                  have s3 : decide ((R : Int) ≤ q) = true := decide_eq_true (by omega)
                  clear hq hq0 s1
                  go_wp2_with fail
                  (with_reducible refine (kt).mono ?_); rintro e7 W7 ⟨rfl, hb7⟩
                  have hbZ := hbX.trans (hb7.mono hbX.size)
                  have kw := kaw W7 hbZ
                  clear kt hb7 hbX kaw z1
                  go_wp2_with fail
                  (with_reducible refine (kw).mono ?_); rintro e8 W8 ⟨rfl, hb8⟩
                  have hbV := hbZ.trans (hb8.mono hbZ.size)
                  clear kw hb8 hbZ
                  go_wp2_with fail
                  go_ret
                  exact ⟨rfl, hbV⟩
end Go.Proofs.YtnjbacdgecoedaaDoor.LaF
