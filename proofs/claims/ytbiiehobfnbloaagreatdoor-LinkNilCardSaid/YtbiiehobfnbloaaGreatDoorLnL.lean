/- LinkNil: the walk. -/
import Derived.Test.YtbiiehobfnbloaaGreatDoorLnN
import Derived.Test.YtbiiehobfnbloaaGreatDoorLnG
import Derived.Test.YtbiiehobfnbloaaGreatDoorLkAw
import Derived.Deep.Cut
import Derived.Deep.CutRange
namespace Go.Proofs.YtbiiehobfnbloaaGreatDoor.LnL
open Go Go.RowKit Go.Maps Go.Proofs.YtbiiehobfnbloaaGreatDoor.Q Go.Proofs.YtbiiehobfnbloaaGreatDoor.Mem Go.Proofs.YtbiiehobfnbloaaGreatDoor.Rg Go.Proofs.YtbiiehobfnbloaaGreatDoor.Ap Go.Proofs.YtbiiehobfnbloaaGreatDoor.Tab Go.Proofs.YtbiiehobfnbloaaGreatDoor.TlS Go.Proofs.YtbiiehobfnbloaaGreatDoor.FrA Go.Proofs.YtbiiehobfnbloaaGreatDoor.LnP Go.Proofs.YtbiiehobfnbloaaGreatDoor.LnA Go.Proofs.YtbiiehobfnbloaaGreatDoor.LnC Go.Proofs.YtbiiehobfnbloaaGreatDoor.LnN Go.Proofs.YtbiiehobfnbloaaGreatDoor.LnG Go.Proofs.YtbiiehobfnbloaaGreatDoor.LaA

theorem one_op {W : World} {g : Nat} {o : LOp} (h : Blk W g 79 #[.int .i64 o.ask, .int .i64 o.stream, .int .i64 o.n, .int .u8 (o.b : Int), .string o.text]) : Seq enOp 5 W (some ⟨g, 0, none⟩) [o] := fun i x hi => by
  cases i with
  | succ i => simp at hi
  | zero =>
    simp at hi
    subst hi
    refine ⟨g, 0, rfl, h.lt, fun j u hj => ?_⟩
    rw [off_eq]
    have := Blk.cell h j (v := u) (by simpa [enOp] using hj)
    simpa using this
def allN (L : List Sm) (pid : Int) (k : Nat) : Bool := (L.take k).all (fun x => x.pid != pid)
theorem allN_succ {L : List Sm} {pid : Int} {k : Nat} {x : Sm} (h : L[k]? = some x) : allN L pid (k + 1) = (allN L pid k && (x.pid != pid)) := by
  unfold allN
  rw [List.take_add_one, h, List.all_append]
  simp
set_option maxRecDepth 100000
set_option maxHeartbeats 40000000 in
theorem law_any (c : Cf) (a : Option Addr) (n cp : Nat) (L : List Sm) (o : LOp) (m : Int) (w : World) (hT : Tab 1 w) (hn : L.length = n) (hL : Seq enSm 5 w a L) (hb : o.b < 256)
    (hu : -9223372036854775808 ≤ c.unit ∧ c.unit ≤ 9223372036854775807) (hg : -9223372036854775808 ≤ c.guard ∧ c.guard ≤ 9223372036854775807) (hm : -9223372036854775808 ≤ c.most ∧ c.most ≤ 9223372036854775807) (hp : -9223372036854775808 ≤ c.pat ∧ c.pat ≤ 9223372036854775807) :
    Calls Tryz.prog 8 #[.agg #[.int .i64 c.unit, .int .i64 c.guard, .int .i64 c.most, .int .i64 c.pat, .int .i64 c.gap, .int .i64 c.every, .int .i64 c.table, .slice a n cp], .agg #[.int .i64 o.ask, .int .i64 o.stream, .int .i64 o.n, .int .u8 (o.b : Int), .string o.text], .int .i64 m] w fun e w' => e = .returned (.bool true) ∧ Below w.heap.size w w' := by
  have HC := Lib.hid (fun (W : World) (hb : Below w.heap.size w W) (h : n ≤ 1000) => check_any c a n cp L W (hT.be hb) hn h (hL.below (Nat.le_refl _) hb) hu hg hm hp)
  have HNW := Lib.hid (fun (W : World) (hb : Below w.heap.size w W) (h : n ≤ 1000) => new_any c a n cp L W (hT.be hb) hn h (hL.below (Nat.le_refl _) hb) hu hg hm hp)
  have HG := Lib.hid (fun (W : World) => gram_any o W hb)
  have HL := Lib.hid hL
  have HT := Lib.hid hT
  have HN := Lib.hid hn
  have HF := Lib.hid (fun (W : World) (g : Nat) h => few_any (some ⟨g, 0, none⟩) 1 1 [o] W rfl (by omega) (one_op (g := g) h))
  have HO : Hid (okL c L = (mach c && rest c n && uptoB c.table L n)) := Lib.hid (by unfold okL; rw [hn])
  clear hL hT hn hu hg hm hp hb
  obtain ⟨Y, hY⟩ : ∃ Y, fewL [o] = Y := ⟨_, rfl⟩
  rw [hY] at HF
  clear hY
  obtain ⟨unit, guard, most, pat, gap, every, table⟩ := c
  obtain ⟨ask, stream, nn, b, text⟩ := o
  dsimp only at HC HNW HG HF HO ⊢
  have hb1 := ((Below.refl _ w).alloc (Nat.le_refl _) (.cells #[.int .i64 unit, .int .i64 guard, .int .i64 most, .int .i64 pat, .int .i64 gap, .int .i64 every, .int .i64 table, .slice a n cp] 63)).alloc (by simp) (.cells #[.int .i64 ask, .int .i64 stream, .int .i64 nn, .int .u8 (b : Int), .string text] 79)
  have hB0 := Blk.alloc (Blk.new w 63 #[.int .i64 unit, .int .i64 guard, .int .i64 most, .int .i64 pat, .int .i64 gap, .int .i64 every, .int .i64 table, .slice a n cp]) (.cells #[.int .i64 ask, .int .i64 stream, .int .i64 nn, .int .u8 (b : Int), .string text] 79)
  have hB1 := Blk.newAt (w.alloc (.cells #[.int .i64 unit, .int .i64 guard, .int .i64 most, .int .i64 pat, .int .i64 gap, .int .i64 every, .int .i64 table, .slice a n cp] 63)) 79 #[.int .i64 ask, .int .i64 stream, .int .i64 nn, .int .u8 (b : Int), .string text] (by simp : w.heap.size + 1 = _)
  go_enter Tryz.func8, Tryz.ntmps8
  go_upto_region 1 with fail
  refine wp_gen (fun V => Below w.heap.size w V ∧ Blk V w.heap.size 63 #[.int .i64 unit, .int .i64 guard, .int .i64 most, .int .i64 pat, .int .i64 gap, .int .i64 every, .int .i64 table, .slice a n cp] ∧ Blk V (w.heap.size + 1) 79 #[.int .i64 ask, .int .i64 stream, .int .i64 nn, .int .u8 (b : Int), .string text]) ⟨hb1, hB0, hB1⟩ ?_
  rintro V ⟨hb2, hB2, hB3⟩
  clear hb1 hB0 hB1
  have HB2 := Lib.hid (hB2.alloc (.cells #[.int .i64 ask, .int .i64 stream, .int .i64 nn, .int .u8 (b : Int), .string text] 79))
  have HB3 := Lib.hid (hB3.alloc (.cells #[.int .i64 ask, .int .i64 stream, .int .i64 nn, .int .u8 (b : Int), .string text] 79))
  have e0 := Blk.cell (hB3) 0 (v := .int .i64 ask) rfl
  have e1 := Blk.cell (hB3) 1 (v := .int .i64 stream) rfl
  have e2 := Blk.cell (hB3) 2 (v := .int .i64 nn) rfl
  have e3 := Blk.cell (hB3) 3 (v := .int .u8 (b : Int)) rfl
  have e4 := Blk.cell (hB3) 4 (v := .string text) rfl
  have c7 := Blk.cell HB2.out 7 (v := .slice a n cp) rfl
  have kf := HF.out _ _ (Blk.new V 79 #[.int .i64 ask, .int .i64 stream, .int .i64 nn, .int .u8 (b : Int), .string text])
  have hb4 := hb2.alloc hb2.size (.cells #[.int .i64 ask, .int .i64 stream, .int .i64 nn, .int .u8 (b : Int), .string text] 79)
  clear hB2 hB3 hb2 HF
  go_wp2_with fail
  (with_reducible refine (kf).mono ?_); rintro e1 V2 ⟨rfl, rfl⟩
  clear kf e0 e1 e2 e3 e4
  cases Y with
  | false =>
    go_wp2_with fail
    (with_reducible refine (LkAw.awake_any _).mono ?_); rintro e1 V3 ⟨rfl, hb5⟩
    have hb6 := hb4.trans (hb5.mono hb4.size)
    clear c7
    go_wp2_with fail
    go_ret
    exact ⟨rfl, hb6⟩
  | true =>
    by_cases h40 : 40 < n
    · have t0 : decide ((40 : Int) < (n : Int)) = true := decide_eq_true (by omega)
      clear h40
      go_wp2_with fail
      (with_reducible refine (LkAw.awake_any _).mono ?_); rintro e1 V3 ⟨rfl, hb5⟩
      have hb6 := hb4.trans (hb5.mono hb4.size)
      clear c7
      go_wp2_with fail
      go_ret
      exact ⟨rfl, hb6⟩
    · have t0 : decide ((40 : Int) < (n : Int)) = false := decide_eq_false (by omega)
      go_upto_region 3 with fail
      obtain ⟨V3, hV3⟩ : ∃ V3, V.alloc (.cells #[.int .i64 ask, .int .i64 stream, .int .i64 nn, .int .u8 (b : Int), .string text] 79) = V3 := ⟨_, rfl⟩
      rw [hV3] at HB2 HB3 hb4 c7 ⊢
      clear hV3
      clear c7
      have c0 := Blk.cell (HB2.out) 0 (v := .int .i64 unit) rfl
      have c1 := Blk.cell (HB2.out) 1 (v := .int .i64 guard) rfl
      have c2 := Blk.cell (HB2.out) 2 (v := .int .i64 most) rfl
      have c3 := Blk.cell (HB2.out) 3 (v := .int .i64 pat) rfl
      have c4 := Blk.cell (HB2.out) 4 (v := .int .i64 gap) rfl
      have c5 := Blk.cell (HB2.out) 5 (v := .int .i64 every) rfl
      have c6 := Blk.cell (HB2.out) 6 (v := .int .i64 table) rfl
      have c7 := Blk.cell (HB2.out) 7 (v := .slice a n cp) rfl
      obtain ⟨Z, hZ⟩ : ∃ Z, (mach ⟨unit, guard, most, pat, gap, every, table⟩ && rest ⟨unit, guard, most, pat, gap, every, table⟩ n) = Z := ⟨_, rfl⟩
      have HZE : Hid (Z = true ↔ 1 ≤ unit ∧ unit ≤ 1048576 ∧ 1 ≤ most ∧ most ≤ 1048576 ∧ most ≤ pat ∧ pat ≤ 1048576 ∧ 0 ≤ guard ∧ guard ≤ 1048576 ∧ 0 ≤ gap ∧ gap ≤ 1048576 ∧ 1 ≤ every ∧ every ≤ 1048576 ∧ 1 ≤ table ∧ table ≤ 8190 ∧ (1 : Int) ≤ (n : Int) ∧ (n : Int) ≤ 16) := Lib.hid (by
        rw [← hZ]
        unfold mach rest
        simp only [Bool.and_eq_true, decide_eq_true_eq]
        constructor <;> intro h <;> omega)
      rw [hZ] at HO
      clear hZ t0
      go_cut [7] from 36 to 117 (fun u7 wx => u7 = .bool Z ∧ wx = V3)
      case first =>
        clear HC HNW HG HT HL HN HO hb4 HB2 HB3
        by_cases a0 : 1 ≤ unit
        case neg =>
          obtain rfl : Z = false := Bool.eq_false_iff.2 (fun h => by have := HZE.out.1 h; omega)
          clear HZE
          as_aux_lemma =>
            go_wp2_with fail
            go_meet
            case rel => exact ⟨rfl, rfl⟩
        by_cases a1 : unit ≤ 1048576
        case neg =>
          obtain rfl : Z = false := Bool.eq_false_iff.2 (fun h => by have := HZE.out.1 h; omega)
          clear HZE
          as_aux_lemma =>
            go_wp2_with fail
            go_meet
            case rel => exact ⟨rfl, rfl⟩
        by_cases a2 : 1 ≤ most
        case neg =>
          obtain rfl : Z = false := Bool.eq_false_iff.2 (fun h => by have := HZE.out.1 h; omega)
          clear HZE
          as_aux_lemma =>
            go_wp2_with fail
            go_meet
            case rel => exact ⟨rfl, rfl⟩
        by_cases a3 : most ≤ 1048576
        case neg =>
          obtain rfl : Z = false := Bool.eq_false_iff.2 (fun h => by have := HZE.out.1 h; omega)
          clear HZE
          as_aux_lemma =>
            go_wp2_with fail
            go_meet
            case rel => exact ⟨rfl, rfl⟩
        by_cases a4 : most ≤ pat
        case neg =>
          obtain rfl : Z = false := Bool.eq_false_iff.2 (fun h => by have := HZE.out.1 h; omega)
          clear HZE
          as_aux_lemma =>
            go_wp2_with fail
            go_meet
            case rel => exact ⟨rfl, rfl⟩
        by_cases a5 : pat ≤ 1048576
        case neg =>
          obtain rfl : Z = false := Bool.eq_false_iff.2 (fun h => by have := HZE.out.1 h; omega)
          clear HZE
          as_aux_lemma =>
            go_wp2_with fail
            go_meet
            case rel => exact ⟨rfl, rfl⟩
        by_cases a6 : 0 ≤ guard
        case neg =>
          obtain rfl : Z = false := Bool.eq_false_iff.2 (fun h => by have := HZE.out.1 h; omega)
          clear HZE
          as_aux_lemma =>
            go_wp2_with fail
            go_meet
            case rel => exact ⟨rfl, rfl⟩
        by_cases a7 : guard ≤ 1048576
        case neg =>
          obtain rfl : Z = false := Bool.eq_false_iff.2 (fun h => by have := HZE.out.1 h; omega)
          clear HZE
          as_aux_lemma =>
            go_wp2_with fail
            go_meet
            case rel => exact ⟨rfl, rfl⟩
        by_cases a8 : 0 ≤ gap
        case neg =>
          obtain rfl : Z = false := Bool.eq_false_iff.2 (fun h => by have := HZE.out.1 h; omega)
          clear HZE
          as_aux_lemma =>
            go_wp2_with fail
            go_meet
            case rel => exact ⟨rfl, rfl⟩
        by_cases a9 : gap ≤ 1048576
        case neg =>
          obtain rfl : Z = false := Bool.eq_false_iff.2 (fun h => by have := HZE.out.1 h; omega)
          clear HZE
          as_aux_lemma =>
            go_wp2_with fail
            go_meet
            case rel => exact ⟨rfl, rfl⟩
        by_cases a10 : 1 ≤ every
        case neg =>
          obtain rfl : Z = false := Bool.eq_false_iff.2 (fun h => by have := HZE.out.1 h; omega)
          clear HZE
          as_aux_lemma =>
            go_wp2_with fail
            go_meet
            case rel => exact ⟨rfl, rfl⟩
        by_cases a11 : every ≤ 1048576
        case neg =>
          obtain rfl : Z = false := Bool.eq_false_iff.2 (fun h => by have := HZE.out.1 h; omega)
          clear HZE
          as_aux_lemma =>
            go_wp2_with fail
            go_meet
            case rel => exact ⟨rfl, rfl⟩
        by_cases a12 : 1 ≤ table
        case neg =>
          obtain rfl : Z = false := Bool.eq_false_iff.2 (fun h => by have := HZE.out.1 h; omega)
          clear HZE
          as_aux_lemma =>
            go_wp2_with fail
            go_meet
            case rel => exact ⟨rfl, rfl⟩
        by_cases a13 : table ≤ 8190
        case neg =>
          obtain rfl : Z = false := Bool.eq_false_iff.2 (fun h => by have := HZE.out.1 h; omega)
          clear HZE
          as_aux_lemma =>
            go_wp2_with fail
            go_meet
            case rel => exact ⟨rfl, rfl⟩
        by_cases a14 : (1 : Int) ≤ (n : Int)
        case neg =>
          obtain rfl : Z = false := Bool.eq_false_iff.2 (fun h => by have := HZE.out.1 h; omega)
          clear HZE
          as_aux_lemma =>
            go_wp2_with fail
            go_meet
            case rel => exact ⟨rfl, rfl⟩
        by_cases a15 : (n : Int) ≤ 16
        case neg =>
          obtain rfl : Z = false := Bool.eq_false_iff.2 (fun h => by have := HZE.out.1 h; omega)
          clear HZE
          as_aux_lemma =>
            go_wp2_with fail
            go_meet
            case rel => exact ⟨rfl, rfl⟩
        obtain rfl : Z = true := HZE.out.2 (by omega)
        clear HZE
        as_aux_lemma =>
          go_wp2_with fail
          go_meet
          case rel => exact ⟨rfl, rfl⟩
      case rest =>
        obtain ⟨rfl, hwx⟩ := hcut
        obtain rfl := hwx.symm
        have HBV := Lib.hid hb4
        clear hb4 HZE c0 c1 c2 c3 c4 c5 c6 c7
        go_wp2_with fail
        go_loopw [8, 7] (fun iv rv W => ∃ i : Nat, i ≤ n ∧ iv = .int .i64 i ∧ rv = .bool (Z && uptoB table L i) ∧ Below V3.heap.size V3 W) (fun iv _ _ => n - (intOf iv).toNat)
        case atStart => exact ⟨0, by omega, rfl, by simp [uptoB], Below.refl _ _⟩
        case round =>
          obtain ⟨i, hi, rfl, rfl, hbW⟩ := hrel
          have i0 : (0 : Int) ≤ (i : Int) := Int.natCast_nonneg _
          have hBW := HB2.out.below hbW HB2.out.lt
          by_cases hin : i < n
          · have t1 : decide ((i : Int) < (n : Int)) = true := decide_eq_true (by omega)
            have t1' : decide (i < n) = true := decide_eq_true hin
            have i1 : (i : Int) < (n : Int) := by omega
            obtain ⟨s, hs⟩ : ∃ s, L[i]? = some s := ⟨_, List.getElem?_eq_getElem (by rw [HN.out]; exact hin)⟩
            obtain ⟨b1, o1, rfl, hlt, hc⟩ := (HL.out.below (Nat.le_refl _) (HBV.out.trans (hbW.mono HBV.out.size))) i s hs
            have d0 := Blk.cell (hBW) 0 (v := .int .i64 unit) rfl
            have d1 := Blk.cell (hBW) 1 (v := .int .i64 guard) rfl
            have d2 := Blk.cell (hBW) 2 (v := .int .i64 most) rfl
            have d3 := Blk.cell (hBW) 3 (v := .int .i64 pat) rfl
            have d4 := Blk.cell (hBW) 4 (v := .int .i64 gap) rfl
            have d5 := Blk.cell (hBW) 5 (v := .int .i64 every) rfl
            have d6 := Blk.cell (hBW) 6 (v := .int .i64 table) rfl
            have d7 := Blk.cell (hBW) 7 (v := .slice (some ⟨b1, o1, none⟩) n cp) rfl
            have e0 := hc 0 _ rfl
            have e1 := hc 1 _ rfl
            have e2 := hc 2 _ rfl
            have e3 := hc 3 _ rfl
            have e4 := hc 4 _ rfl
            rw [off_eq] at e0 e1 e2 e3 e4
            rw [Nat.add_zero] at e0
            have HUS := Lib.hid (upto_succ table L i)
            have HSE : Hid (stepB table L i = (mayS s && decide (s.pid ≠ table ∧ ∀ x ∈ L.take i, x.pid ≠ s.pid))) := Lib.hid (by unfold stepB; rw [hs])
            obtain ⟨pid, mac, R, C, K⟩ := s
            dsimp only at e0 e1 e2 e3 e4 HSE
            have HMS : Hid (mayS ⟨pid, mac, R, C, K⟩ = (decide (1 ≤ pid ∧ pid ≤ 8190 ∧ 0 ≤ mac ∧ mac ≤ 65535) && okC R C K)) := Lib.hid rfl
            have HBW := Lib.hid hBW
            have HLW := Lib.hid hbW
            clear hs hc hlt hBW hbW
            have HOK := Lib.hid (FrA.check_any R C K)
            go_upto_region 8 with fail
            clear e0 e1 e2 e3 e4 d0 d1 d2 d3 d4 d5 d6 d7
            have hS0 := Blk.new wr 77 #[.int .i64 pid, .int .i64 mac, .int .i64 R, .int .i64 C, .int .i64 K]
            have hB0 := Blk.alloc HBW.out (.cells #[.int .i64 pid, .int .i64 mac, .int .i64 R, .int .i64 C, .int .i64 K] 77)
            have hL0 := HLW.out.alloc HLW.out.size (.cells #[.int .i64 pid, .int .i64 mac, .int .i64 R, .int .i64 C, .int .i64 K] 77)
            obtain ⟨V5, hV5⟩ : ∃ V5, wr.alloc (.cells #[.int .i64 pid, .int .i64 mac, .int .i64 R, .int .i64 C, .int .i64 K] 77) = V5 := ⟨_, rfl⟩
            obtain ⟨bs, hbs⟩ : ∃ b, wr.heap.size = b := ⟨_, rfl⟩
            rw [hV5, hbs] at hS0
            rw [hV5] at hB0 hL0
            rw [hV5, hbs]
            have HS5 := Lib.hid hS0
            have HB5 := Lib.hid hB0
            have HL5 := Lib.hid hL0
            clear hS0 hB0 hL0 hV5 hbs HBW HLW
            have d0 := Blk.cell (HB5.out) 0 (v := .int .i64 unit) rfl
            have d1 := Blk.cell (HB5.out) 1 (v := .int .i64 guard) rfl
            have d2 := Blk.cell (HB5.out) 2 (v := .int .i64 most) rfl
            have d3 := Blk.cell (HB5.out) 3 (v := .int .i64 pat) rfl
            have d4 := Blk.cell (HB5.out) 4 (v := .int .i64 gap) rfl
            have d5 := Blk.cell (HB5.out) 5 (v := .int .i64 every) rfl
            have d6 := Blk.cell (HB5.out) 6 (v := .int .i64 table) rfl
            have d7 := Blk.cell (HB5.out) 7 (v := .slice (some ⟨b1, o1, none⟩) n cp) rfl
            have e0 := Blk.cell (HS5.out) 0 (v := .int .i64 pid) rfl
            have e1 := Blk.cell (HS5.out) 1 (v := .int .i64 mac) rfl
            have e2 := Blk.cell (HS5.out) 2 (v := .int .i64 R) rfl
            have e3 := Blk.cell (HS5.out) 3 (v := .int .i64 C) rfl
            have e4 := Blk.cell (HS5.out) 4 (v := .int .i64 K) rfl
            obtain ⟨Y, hY⟩ : ∃ Y, (Z && uptoB table L i) = Y := ⟨_, rfl⟩
            have HYE := Lib.hid hY
            rw [hY]
            clear hY
            have kc := HOK.out V5 (HT.out.be (HBV.out.trans (HL5.out.mono HBV.out.size)))
            obtain ⟨Q, hQ⟩ : ∃ Q, okC R C K = Q := ⟨_, rfl⟩
            rw [hQ] at kc HMS
            clear hQ HOK
            go_cut [7] from 130 to 163 (fun u7 wx => u7 = .bool (Y && (decide (1 ≤ pid ∧ pid ≤ 8190 ∧ pid ≠ table ∧ 0 ≤ mac ∧ mac ≤ 65535) && Q)) ∧ Below V5.heap.size V5 wx)
            case first =>
              cases Y with
              | false =>
                go_wp2_with fail
                go_meet
                case rel => exact ⟨by rw [Bool.false_and], Below.refl _ _⟩
              | true =>
                by_cases a0 : 1 ≤ pid
                case neg =>
                  have HX := Lib.hid (show (true && (decide (1 ≤ pid ∧ pid ≤ 8190 ∧ pid ≠ table ∧ 0 ≤ mac ∧ mac ≤ 65535) && Q)) = false by rw [decide_eq_false (fun h => by omega)]; rfl)
                  have tt : decide (1 ≤ pid) = false := decide_eq_false a0
                  clear a0
                  go_wp2_with fail
                  go_meet
                  case rel => exact ⟨by rw [HX.out], Below.refl _ _⟩
                have ta0 : decide (1 ≤ pid) = true := decide_eq_true a0
                by_cases a1 : pid ≤ 8190
                case neg =>
                  have HX := Lib.hid (show (true && (decide (1 ≤ pid ∧ pid ≤ 8190 ∧ pid ≠ table ∧ 0 ≤ mac ∧ mac ≤ 65535) && Q)) = false by rw [decide_eq_false (fun h => by omega)]; rfl)
                  have tt : decide (pid ≤ 8190) = false := decide_eq_false a1
                  clear a1
                  go_wp2_with fail
                  go_meet
                  case rel => exact ⟨by rw [HX.out], Below.refl _ _⟩
                have ta1 : decide (pid ≤ 8190) = true := decide_eq_true a1
                by_cases a2 : pid ≠ table
                case neg =>
                  have HX := Lib.hid (show (true && (decide (1 ≤ pid ∧ pid ≤ 8190 ∧ pid ≠ table ∧ 0 ≤ mac ∧ mac ≤ 65535) && Q)) = false by rw [decide_eq_false (fun h => a2 h.2.2.1)]; rfl)
                  have t2 : (pid != table) = false := by simpa using a2
                  clear a2
                  go_wp2_with fail
                  go_meet
                  case rel => exact ⟨by rw [HX.out], Below.refl _ _⟩
                have t2 : (pid != table) = true := by simpa using a2
                by_cases a3 : 0 ≤ mac
                case neg =>
                  have HX := Lib.hid (show (true && (decide (1 ≤ pid ∧ pid ≤ 8190 ∧ pid ≠ table ∧ 0 ≤ mac ∧ mac ≤ 65535) && Q)) = false by rw [decide_eq_false (fun h => by omega)]; rfl)
                  have tt : decide (0 ≤ mac) = false := decide_eq_false a3
                  clear a3
                  go_wp2_with fail
                  go_meet
                  case rel => exact ⟨by rw [HX.out], Below.refl _ _⟩
                have ta3 : decide (0 ≤ mac) = true := decide_eq_true a3
                by_cases a4 : mac ≤ 65535
                case neg =>
                  have HX := Lib.hid (show (true && (decide (1 ≤ pid ∧ pid ≤ 8190 ∧ pid ≠ table ∧ 0 ≤ mac ∧ mac ≤ 65535) && Q)) = false by rw [decide_eq_false (fun h => by omega)]; rfl)
                  have tt : decide (mac ≤ 65535) = false := decide_eq_false a4
                  clear a4
                  go_wp2_with fail
                  go_meet
                  case rel => exact ⟨by rw [HX.out], Below.refl _ _⟩
                have ta4 : decide (mac ≤ 65535) = true := decide_eq_true a4
                have HX := Lib.hid (show (true && (decide (1 ≤ pid ∧ pid ≤ 8190 ∧ pid ≠ table ∧ 0 ≤ mac ∧ mac ≤ 65535) && Q)) = Q by rw [decide_eq_true (⟨a0, a1, a2, a3, a4⟩ : 1 ≤ pid ∧ pid ≤ 8190 ∧ pid ≠ table ∧ 0 ≤ mac ∧ mac ≤ 65535)]; cases Q <;> rfl)
                clear a0 a1 a2 a3 a4
                cases Q with
                | true =>
                  rw [if_pos rfl] at kc
                  go_wp2_with fail
                  (with_reducible refine (kc).mono ?_); rintro e9 W9 ⟨rfl, hb9⟩
                  clear kc
                  go_wp2_with fail
                  go_meet
                  case rel => exact ⟨by rw [HX.out], hb9⟩
                | false =>
                  rw [if_neg (by decide)] at kc
                  go_wp2_with fail
                  (with_reducible refine (kc).mono ?_); rintro e9 W9 ⟨rfl, hb9⟩
                  clear kc
                  go_wp2_with fail
                  go_meet
                  case rel => exact ⟨by rw [HX.out], hb9⟩
            case rest =>
              obtain ⟨rfl, hb6⟩ := hcut
              clear kc d0 d1 d2 d3 d4 d5 d6 d7 e0 e1 e2 e3 e4
              obtain ⟨X, hX⟩ : ∃ X, (Y && (decide (1 ≤ pid ∧ pid ≤ 8190 ∧ pid ≠ table ∧ 0 ≤ mac ∧ mac ≤ 65535) && Q)) = X := ⟨_, rfl⟩
              have HXE := Lib.hid hX
              rw [hX]
              clear hX
              go_wp2_with fail
              go_loopw [10, 7] (fun kv rv W => ∃ k : Nat, k ≤ i ∧ kv = .int .i64 k ∧ rv = .bool (X && allN L pid k) ∧ Below V5.heap.size V5 W) (fun kv _ _ => i - (intOf kv).toNat)
              case atStart => exact ⟨0, by omega, rfl, by simp [allN], hb6⟩
              case round =>
                clear hb6
                obtain ⟨k, hk, rfl, rfl, hbk⟩ := hrel
                have k0 : (0 : Int) ≤ (k : Int) := Int.natCast_nonneg _
                by_cases hki : k < i
                · have t2 : decide ((k : Int) < (i : Int)) = true := decide_eq_true (by omega)
                  have t2' : decide (k < i) = true := decide_eq_true hki
                  have k1 : (k : Int) < (n : Int) := by omega
                  obtain ⟨x, hx⟩ : ∃ x, L[k]? = some x := ⟨_, List.getElem?_eq_getElem (by rw [HN.out]; omega)⟩
                  obtain ⟨b2, o2, hbo, hlt, hc⟩ := (HL.out.below (Nat.le_refl _) (HBV.out.trans ((HL5.out.trans (hbk.mono HL5.out.size)).mono HBV.out.size))) k x hx
                  injection hbo with hbo
                  injection hbo with e1 e2
                  subst e1 e2
                  have e0 := hc 0 _ rfl
                  rw [off_eq] at e0
                  rw [Nat.add_zero] at e0
                  have e0x := fun pX => ((below_ext wr pX).cell (p := ⟨b1, o1 + k * 5, none⟩) hlt).trans e0
                  have d0 := fun pX => Blk.cell (blk_ext ((HB5.out.below hbk HB5.out.lt)) pX) 0 (v := .int .i64 unit) rfl
                  have d1 := fun pX => Blk.cell (blk_ext ((HB5.out.below hbk HB5.out.lt)) pX) 1 (v := .int .i64 guard) rfl
                  have d2 := fun pX => Blk.cell (blk_ext ((HB5.out.below hbk HB5.out.lt)) pX) 2 (v := .int .i64 most) rfl
                  have d3 := fun pX => Blk.cell (blk_ext ((HB5.out.below hbk HB5.out.lt)) pX) 3 (v := .int .i64 pat) rfl
                  have d4 := fun pX => Blk.cell (blk_ext ((HB5.out.below hbk HB5.out.lt)) pX) 4 (v := .int .i64 gap) rfl
                  have d5 := fun pX => Blk.cell (blk_ext ((HB5.out.below hbk HB5.out.lt)) pX) 5 (v := .int .i64 every) rfl
                  have d6 := fun pX => Blk.cell (blk_ext ((HB5.out.below hbk HB5.out.lt)) pX) 6 (v := .int .i64 table) rfl
                  have d7 := fun pX => Blk.cell (blk_ext ((HB5.out.below hbk HB5.out.lt)) pX) 7 (v := .slice (some ⟨b1, o1, none⟩) n cp) rfl
                  have s0 := fun pX => Blk.cell (blk_ext ((HS5.out.below hbk HS5.out.lt)) pX) 0 (v := .int .i64 pid) rfl
                  have s1 := fun pX => Blk.cell (blk_ext ((HS5.out.below hbk HS5.out.lt)) pX) 1 (v := .int .i64 mac) rfl
                  have s2 := fun pX => Blk.cell (blk_ext ((HS5.out.below hbk HS5.out.lt)) pX) 2 (v := .int .i64 R) rfl
                  have s3 := fun pX => Blk.cell (blk_ext ((HS5.out.below hbk HS5.out.lt)) pX) 3 (v := .int .i64 C) rfl
                  have s4 := fun pX => Blk.cell (blk_ext ((HS5.out.below hbk HS5.out.lt)) pX) 4 (v := .int .i64 K) rfl
                  have HAL := Lib.hid (allN_succ (pid := pid) hx)
                  obtain ⟨xp, hxp⟩ : ∃ z, x.pid = z := ⟨_, rfl⟩
                  rw [hxp] at e0 e0x HAL
                  have HBK := Lib.hid hbk
                  clear hx hc hlt e0 hxp hbk
                  obtain ⟨A, hA⟩ : ∃ A, allN L pid k = A := ⟨_, rfl⟩
                  rw [hA] at HAL
                  rw [hA]
                  clear hA
                  cases X with
                  | false =>
                    go_wp2_with fail
                    refine Go.Proofs.YtbiiehobfnbloaaGreatDoor.Q.region_ext (by kernel_rfl) (by kernel_rfl) ?_
                    repeat (go_big_quiet_step (fail))
                    refine wpQuiet_nil ?_
                    rintro w9 ⟨pq, rfl⟩
                    have hb9 := HBK.out.trans ((below_ext _ pq).mono HBK.out.size)
                    clear d0 d1 d2 d3 d4 d5 d6 d7 s0 s1 s2 s3 s4 e0x
                    go_wp2_with fail
                    go_roundw
                    case rel => exact ⟨k + 1, by omega, by go_num, by rw [HAL.out]; rfl, hb9⟩
                    case measure => simp [intOf]; omega
                  | true =>
                    cases A with
                    | false =>
                      go_wp2_with fail
                      refine Go.Proofs.YtbiiehobfnbloaaGreatDoor.Q.region_ext (by kernel_rfl) (by kernel_rfl) ?_
                      repeat (go_big_quiet_step (fail))
                      refine wpQuiet_nil ?_
                      rintro w9 ⟨pq, rfl⟩
                      have hb9 := HBK.out.trans ((below_ext _ pq).mono HBK.out.size)
                      clear d0 d1 d2 d3 d4 d5 d6 d7 s0 s1 s2 s3 s4 e0x
                      go_wp2_with fail
                      go_roundw
                      case rel => exact ⟨k + 1, by omega, by go_num, by rw [HAL.out]; rfl, hb9⟩
                      case measure => simp [intOf]; omega
                    | true =>
                      obtain ⟨N, hN⟩ : ∃ N, (xp != pid) = N := ⟨_, rfl⟩
                      rw [hN] at HAL
                      go_wp2_with fail
                      refine Go.Proofs.YtbiiehobfnbloaaGreatDoor.Q.region_ext (by kernel_rfl) (by kernel_rfl) ?_
                      repeat (go_big_quiet_step (fail))
                      refine wpQuiet_nil ?_
                      rintro w9 ⟨pq, rfl⟩
                      have hb9 := HBK.out.trans ((below_ext _ pq).mono HBK.out.size)
                      clear d0 d1 d2 d3 d4 d5 d6 d7 s0 s1 s2 s3 s4 e0x hN
                      go_wp2_with fail
                      go_roundw
                      case rel => exact ⟨k + 1, by omega, by go_num, by rw [HAL.out]; rfl, hb9⟩
                      case measure => simp [intOf]; omega
                · obtain rfl : k = i := by omega
                  have t2 : decide ((k : Int) < (k : Int)) = false := decide_eq_false (by omega)
                  have t2' : decide (k < k) = false := decide_eq_false (by omega)
                  have hb9 := HL5.out.trans (hbk.mono HL5.out.size)
                  have HEQ : Hid ((X && allN L pid k) = (Z && uptoB table L (k + 1))) := Lib.hid (by
                    rw [HUS.out, HSE.out, HMS.out, ← HXE.out, ← HYE.out, Bool.eq_iff_iff]
                    unfold allN
                    simp only [Bool.and_eq_true, decide_eq_true_eq, List.all_eq_true, bne_iff_ne]
                    constructor
                    · rintro ⟨⟨⟨z, u⟩, ⟨a1, a2, a3, a4, a5⟩, q⟩, h⟩
                      exact ⟨z, u, ⟨⟨a1, a2, a4, a5⟩, q⟩, a3, h⟩
                    · rintro ⟨z, u, ⟨⟨a1, a2, a4, a5⟩, q⟩, a3, h⟩
                      exact ⟨⟨⟨z, u⟩, ⟨a1, a2, a3, a4, a5⟩, q⟩, h⟩)
                  rw [HEQ.out]
                  clear hbk
                  go_wp2_with fail
                  go_roundw
                  case rel => exact ⟨k + 1, by omega, by go_num, rfl, hb9⟩
                  case measure => simp [intOf]; omega
          · obtain rfl : i = n := by omega
            have t1 : decide ((i : Int) < (i : Int)) = false := decide_eq_false (by omega)
            have t1' : decide (i < i) = false := decide_eq_false (by omega)
            have d0 := Blk.cell (hBW) 0 (v := .int .i64 unit) rfl
            have d1 := Blk.cell (hBW) 1 (v := .int .i64 guard) rfl
            have d2 := Blk.cell (hBW) 2 (v := .int .i64 most) rfl
            have d3 := Blk.cell (hBW) 3 (v := .int .i64 pat) rfl
            have d4 := Blk.cell (hBW) 4 (v := .int .i64 gap) rfl
            have d5 := Blk.cell (hBW) 5 (v := .int .i64 every) rfl
            have d6 := Blk.cell (hBW) 6 (v := .int .i64 table) rfl
            have d7 := Blk.cell (hBW) 7 (v := .slice a i cp) rfl
            have HBX := Lib.hid (HBV.out.trans (hbW.mono HBV.out.size))
            have HOP := Lib.hid (HB3.out.below hbW HB3.out.lt)
            have HBWW := Lib.hid hBW
            have kc := HC.out wr HBX.out (by omega)
            have hoo := HO.out
            obtain ⟨X, hX⟩ : ∃ X, (Z && uptoB table L i) = X := ⟨_, rfl⟩
            rw [hX] at hoo
            rw [hX]
            unfold chkL at kc
            rw [hoo] at kc
            have HKN := Lib.hid (fun V (hb : Below w.heap.size w V) => HNW.out V hb (by omega))
            rw [hoo] at HKN
            clear hBW hbW hX hoo HC HNW HO
            cases X with
            | false =>
              rw [if_neg (by decide)] at kc
              simp only [Bool.false_eq_true, if_false] at HKN
              go_wp2_with fail
              (with_reducible refine (kc).mono ?_); rintro e1 W1 ⟨rfl, hb1⟩
              have HB1 := Lib.hid (HBX.out.trans (hb1.mono HBX.out.size))
              have HO1 := Lib.hid (HOP.out.below hb1 HOP.out.lt)
              have hB1 := HBWW.out.below hb1 HBWW.out.lt
              clear d0 d1 d2 d3 d4 d5 d6 d7 kc
              have d0 := Blk.cell (hB1) 0 (v := .int .i64 unit) rfl
              have d1 := Blk.cell (hB1) 1 (v := .int .i64 guard) rfl
              have d2 := Blk.cell (hB1) 2 (v := .int .i64 most) rfl
              have d3 := Blk.cell (hB1) 3 (v := .int .i64 pat) rfl
              have d4 := Blk.cell (hB1) 4 (v := .int .i64 gap) rfl
              have d5 := Blk.cell (hB1) 5 (v := .int .i64 every) rfl
              have d6 := Blk.cell (hB1) 6 (v := .int .i64 table) rfl
              have d7 := Blk.cell (hB1) 7 (v := .slice a i cp) rfl
              have kn := HKN.out W1 HB1.out
              clear hb1 hB1 HKN
              go_wp2_with fail
              (with_reducible refine (kn).mono ?_); rintro e1 W2 ⟨hb2, rfl⟩
              have HB2 := Lib.hid (HB1.out.trans (hb2.mono HB1.out.size))
              have HO2 := Lib.hid (HO1.out.below hb2 HO1.out.lt)
              clear d0 d1 d2 d3 d4 d5 d6 d7 kn hb2
              go_wp2_with fail
              (with_reducible refine (tables_nil _).mono ?_); rintro e1 W3 ⟨rfl, rfl⟩
              go_wp2_with fail
              (with_reducible refine (bursts_nil _).mono ?_); rintro e1 W3 ⟨rfl, rfl⟩
              go_wp2_with fail
              (with_reducible refine (air_nil _).mono ?_); rintro e1 W3 ⟨rfl, rfl⟩
              have c0 := Blk.cell (HO2.out) 0 (v := .int .i64 ask) rfl
              have c1 := Blk.cell (HO2.out) 1 (v := .int .i64 stream) rfl
              have c2 := Blk.cell (HO2.out) 2 (v := .int .i64 nn) rfl
              have c3 := Blk.cell (HO2.out) 3 (v := .int .u8 (b : Int)) rfl
              have c4 := Blk.cell (HO2.out) 4 (v := .string text) rfl
              go_wp2_with fail
              (with_reducible refine (hear_nil m true _ _).mono ?_); rintro e1 W3 ⟨rfl, hb3⟩
              have hb31 := ((Below.refl _ W2).alloc (Nat.le_refl _) (.cells #[.string text] 9)).trans (hb3.mono (by simp))
              have HB4 := Lib.hid (HB2.out.trans (hb31.mono HB2.out.size))
              have HO4 := Lib.hid (HO2.out.below hb31 HO2.out.lt)
              clear c0 c1 c2 c3 c4 hb31 hb3
              have c0 := Blk.cell ((HO4.out.alloc (.cells #[.int .i64 0, .int .i64 0, .int .i64 0, .int .i64 0, .int .i64 0, .int .i64 0, .int .i64 0, .int .i64 0, .int .i64 0, .int .i64 0, .int .i64 0, .int .i64 0] 95))) 0 (v := .int .i64 ask) rfl
              have c1 := Blk.cell ((HO4.out.alloc (.cells #[.int .i64 0, .int .i64 0, .int .i64 0, .int .i64 0, .int .i64 0, .int .i64 0, .int .i64 0, .int .i64 0, .int .i64 0, .int .i64 0, .int .i64 0, .int .i64 0] 95))) 1 (v := .int .i64 stream) rfl
              have c2 := Blk.cell ((HO4.out.alloc (.cells #[.int .i64 0, .int .i64 0, .int .i64 0, .int .i64 0, .int .i64 0, .int .i64 0, .int .i64 0, .int .i64 0, .int .i64 0, .int .i64 0, .int .i64 0, .int .i64 0] 95))) 2 (v := .int .i64 nn) rfl
              have c3 := Blk.cell ((HO4.out.alloc (.cells #[.int .i64 0, .int .i64 0, .int .i64 0, .int .i64 0, .int .i64 0, .int .i64 0, .int .i64 0, .int .i64 0, .int .i64 0, .int .i64 0, .int .i64 0, .int .i64 0] 95))) 3 (v := .int .u8 (b : Int)) rfl
              have c4 := Blk.cell ((HO4.out.alloc (.cells #[.int .i64 0, .int .i64 0, .int .i64 0, .int .i64 0, .int .i64 0, .int .i64 0, .int .i64 0, .int .i64 0, .int .i64 0, .int .i64 0, .int .i64 0, .int .i64 0] 95))) 4 (v := .string text) rfl
              have HB5 := Lib.hid (HB4.out.alloc HB4.out.size (.cells #[.int .i64 0, .int .i64 0, .int .i64 0, .int .i64 0, .int .i64 0, .int .i64 0, .int .i64 0, .int .i64 0, .int .i64 0, .int .i64 0, .int .i64 0, .int .i64 0] 95))
              go_wp2_with fail
              (with_reducible refine (HG.out _).mono ?_); rintro e1 W4 ⟨rfl, hb4⟩
              have HB6 := Lib.hid (HB5.out.trans (hb4.mono HB5.out.size))
              clear c0 c1 c2 c3 c4 hb4
              go_wp2_with fail
              (with_reducible refine (offer_nil _ _ _).mono ?_); rintro e1 W5 ⟨rfl, rfl⟩
              go_wp2_with fail
              (with_reducible refine (close_nil _ _).mono ?_); rintro e1 W5 ⟨rfl, hb5⟩
              have HB7 := Lib.hid (HB6.out.trans (hb5.mono HB6.out.size))
              clear hb5
              go_wp2_with fail
              (with_reducible refine (told_nil _ _).mono ?_); rintro e1 W6 ⟨rfl, rfl⟩
              go_wp2_with fail
              (with_reducible refine (LkAw.awake_any _).mono ?_); rintro e1 W7 ⟨rfl, hb7⟩
              have hb8 := HB7.out.trans (hb7.mono HB7.out.size)
              go_wp2_with fail
              go_ret
              exact ⟨rfl, hb8⟩
            | true =>
              rw [if_pos rfl] at kc
              simp only [if_true] at HKN
              go_wp2_with fail
              (with_reducible refine (kc).mono ?_); rintro e1 W1 ⟨rfl, hb1⟩
              have HB1 := Lib.hid (HBX.out.trans (hb1.mono HBX.out.size))
              have HO1 := Lib.hid (HOP.out.below hb1 HOP.out.lt)
              have hB1 := HBWW.out.below hb1 HBWW.out.lt
              clear d0 d1 d2 d3 d4 d5 d6 d7 kc
              have d0 := Blk.cell (hB1) 0 (v := .int .i64 unit) rfl
              have d1 := Blk.cell (hB1) 1 (v := .int .i64 guard) rfl
              have d2 := Blk.cell (hB1) 2 (v := .int .i64 most) rfl
              have d3 := Blk.cell (hB1) 3 (v := .int .i64 pat) rfl
              have d4 := Blk.cell (hB1) 4 (v := .int .i64 gap) rfl
              have d5 := Blk.cell (hB1) 5 (v := .int .i64 every) rfl
              have d6 := Blk.cell (hB1) 6 (v := .int .i64 table) rfl
              have d7 := Blk.cell (hB1) 7 (v := .slice a i cp) rfl
              have kn := HKN.out W1 HB1.out
              clear hb1 hB1 HKN
              go_wp2_with fail
              (with_reducible refine (kn).mono ?_); rintro e1 W2 ⟨hb2, gl, rfl⟩
              have HB2 := Lib.hid (HB1.out.trans (hb2.mono HB1.out.size))
              have HO2 := Lib.hid (HO1.out.below hb2 HO1.out.lt)
              clear d0 d1 d2 d3 d4 d5 d6 d7 kn hb2
              go_wp2_with fail
              (with_reducible refine (tables_nil _).mono ?_); rintro e1 W3 ⟨rfl, rfl⟩
              go_wp2_with fail
              (with_reducible refine (bursts_nil _).mono ?_); rintro e1 W3 ⟨rfl, rfl⟩
              go_wp2_with fail
              (with_reducible refine (air_nil _).mono ?_); rintro e1 W3 ⟨rfl, rfl⟩
              have c0 := Blk.cell (HO2.out) 0 (v := .int .i64 ask) rfl
              have c1 := Blk.cell (HO2.out) 1 (v := .int .i64 stream) rfl
              have c2 := Blk.cell (HO2.out) 2 (v := .int .i64 nn) rfl
              have c3 := Blk.cell (HO2.out) 3 (v := .int .u8 (b : Int)) rfl
              have c4 := Blk.cell (HO2.out) 4 (v := .string text) rfl
              go_wp2_with fail
              (with_reducible refine (hear_nil m true _ _).mono ?_); rintro e1 W3 ⟨rfl, hb3⟩
              have hb31 := ((Below.refl _ W2).alloc (Nat.le_refl _) (.cells #[.string text] 9)).trans (hb3.mono (by simp))
              have HB4 := Lib.hid (HB2.out.trans (hb31.mono HB2.out.size))
              have HO4 := Lib.hid (HO2.out.below hb31 HO2.out.lt)
              clear c0 c1 c2 c3 c4 hb31 hb3
              have c0 := Blk.cell ((HO4.out.alloc (.cells #[.int .i64 0, .int .i64 0, .int .i64 0, .int .i64 0, .int .i64 0, .int .i64 0, .int .i64 0, .int .i64 0, .int .i64 0, .int .i64 0, .int .i64 0, .int .i64 0] 95))) 0 (v := .int .i64 ask) rfl
              have c1 := Blk.cell ((HO4.out.alloc (.cells #[.int .i64 0, .int .i64 0, .int .i64 0, .int .i64 0, .int .i64 0, .int .i64 0, .int .i64 0, .int .i64 0, .int .i64 0, .int .i64 0, .int .i64 0, .int .i64 0] 95))) 1 (v := .int .i64 stream) rfl
              have c2 := Blk.cell ((HO4.out.alloc (.cells #[.int .i64 0, .int .i64 0, .int .i64 0, .int .i64 0, .int .i64 0, .int .i64 0, .int .i64 0, .int .i64 0, .int .i64 0, .int .i64 0, .int .i64 0, .int .i64 0] 95))) 2 (v := .int .i64 nn) rfl
              have c3 := Blk.cell ((HO4.out.alloc (.cells #[.int .i64 0, .int .i64 0, .int .i64 0, .int .i64 0, .int .i64 0, .int .i64 0, .int .i64 0, .int .i64 0, .int .i64 0, .int .i64 0, .int .i64 0, .int .i64 0] 95))) 3 (v := .int .u8 (b : Int)) rfl
              have c4 := Blk.cell ((HO4.out.alloc (.cells #[.int .i64 0, .int .i64 0, .int .i64 0, .int .i64 0, .int .i64 0, .int .i64 0, .int .i64 0, .int .i64 0, .int .i64 0, .int .i64 0, .int .i64 0, .int .i64 0] 95))) 4 (v := .string text) rfl
              have HB5 := Lib.hid (HB4.out.alloc HB4.out.size (.cells #[.int .i64 0, .int .i64 0, .int .i64 0, .int .i64 0, .int .i64 0, .int .i64 0, .int .i64 0, .int .i64 0, .int .i64 0, .int .i64 0, .int .i64 0, .int .i64 0] 95))
              go_wp2_with fail
              (with_reducible refine (HG.out _).mono ?_); rintro e1 W4 ⟨rfl, hb4⟩
              have HB6 := Lib.hid (HB5.out.trans (hb4.mono HB5.out.size))
              clear c0 c1 c2 c3 c4 hb4
              go_wp2_with fail
              (with_reducible refine (offer_nil _ _ _).mono ?_); rintro e1 W5 ⟨rfl, rfl⟩
              go_wp2_with fail
              (with_reducible refine (close_nil _ _).mono ?_); rintro e1 W5 ⟨rfl, hb5⟩
              have HB7 := Lib.hid (HB6.out.trans (hb5.mono HB6.out.size))
              clear hb5
              go_wp2_with fail
              (with_reducible refine (told_nil _ _).mono ?_); rintro e1 W6 ⟨rfl, rfl⟩
              go_wp2_with fail
              (with_reducible refine (LkAw.awake_any _).mono ?_); rintro e1 W7 ⟨rfl, hb7⟩
              have hb8 := HB7.out.trans (hb7.mono HB7.out.size)
              go_wp2_with fail
              go_ret
              exact ⟨rfl, hb8⟩
end Go.Proofs.YtbiiehobfnbloaaGreatDoor.LnL
