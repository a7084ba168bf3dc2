/- An Int's bytes. -/
import Derived.Test.YtbceakdifklocaaDuB
namespace Go.Proofs.Ytbceakdifklocaa.DuC
open Go Go.RowKit Go.Proofs.Ytbceakdifklocaa.Q Go.Proofs.Ytbceakdifklocaa.Mem Go.Proofs.Ytbceakdifklocaa.DsA Go.Proofs.Ytbceakdifklocaa.DsB Go.Proofs.Ytbceakdifklocaa.DsC Go.Proofs.Ytbceakdifklocaa.DsD Go.Proofs.Ytbceakdifklocaa.DsE Go.Proofs.Ytbceakdifklocaa.DsI Go.Proofs.Ytbceakdifklocaa.DsP Go.Proofs.Ytbceakdifklocaa.DsQ Go.Proofs.Ytbceakdifklocaa.DsR Go.Proofs.Ytbceakdifklocaa.DsS Go.Proofs.Ytbceakdifklocaa.DsU Go.Proofs.Ytbceakdifklocaa.DsW Go.Proofs.Ytbceakdifklocaa.DsY Go.Proofs.Ytbceakdifklocaa.DuA Go.Proofs.Ytbceakdifklocaa.DuB Go.Proofs.Ytbceakdifklocaa.Rg Go.Proofs.Ytbceakdifklocaa.Ap

/-- a value that is a slice of these descriptors -/
def IsD (w : World) (v : Value) (L : List Dc) : Prop := ∃ a n c, v = .slice a n c ∧ L.length = n ∧ Ds w a L
theorem IsD.below {w w' : World} {v : Value} {L : List Dc} (h : IsD w v L) (hb : Below w.heap.size w w') : IsD w' v L := by
  obtain ⟨a, n, c, h1, h2, h3⟩ := h
  exact ⟨a, n, c, h1, h2, h3.below (Nat.le_refl _) hb⟩
def Lps (w : World) (VS : List Value) (LL : List (List Dc)) : Prop := VS.length = LL.length ∧ ∀ (i : Nat) (v : Value) (L : List Dc), VS[i]? = some v → LL[i]? = some L → IsD w v L
theorem Lps.below {w w' : World} {VS : List Value} {LL : List (List Dc)} (h : Lps w VS LL) (hb : Below w.heap.size w w') : Lps w' VS LL := ⟨h.1, fun i v L h1 h2 => (h.2 i v L h1 h2).below hb⟩
theorem Lps.sl {w : World} {VS : List Value} {LL : List (List Dc)} (h : Lps w VS LL) {v : Value} (hv : v ∈ VS) : isSl v := by
  obtain ⟨i, hi⟩ := List.getElem?_of_mem hv
  have hl : i < LL.length := by rw [← h.1]; exact (List.getElem?_eq_some_iff.1 hi).1
  obtain ⟨a, n, c, h1, _⟩ := h.2 i v _ hi (List.getElem?_eq_getElem hl)
  exact ⟨a, n, c, h1⟩
theorem or61440 (n : Nat) (h : n ≤ 4095) : bits .or .i64 61440 (n : Int) = 61440 + (n : Int) := by
  have := (bits_nat .i64 16 (by decide) (fun n h1 h2 => by rw [IntKind.wrap_i64]; omega) 61440 n (by decide) (by omega)).2
  rw [show ((61440 : Nat) : Int) = 61440 from rfl] at this
  rw [this]
  have e := Nat.two_pow_add_eq_or_of_lt (i := 12) (show n < 2 ^ 12 by omega) 15
  rw [show (61440 : Nat) = 2 ^ 12 * 15 by decide, ← e]
  omega
/-- a loop with its length ahead -/
def encLp (L : List Dc) : List UInt8 := [UInt8.ofNat (240 + (loopL L).length / 256), UInt8.ofNat ((loopL L).length % 256)] ++ loopL L
def bdL (LL : List (List Dc)) : List UInt8 := LL.flatMap encLp
def lpE : List (List Dc) → Int
  | [] => 0
  | L :: t => if loopE L = 0 then lpE t else loopE L
def hdL (p o : Int) : List UInt8 := [UInt8.ofNat (p / 65536).toNat, UInt8.ofNat (p / 256 % 256).toNat, UInt8.ofNat (p % 256).toNat, UInt8.ofNat o.toNat]
def bodyE (a p o : Int) (LL : List (List Dc)) : Int := if mayB a p o then lpE LL else 15
def bodyS (a p o : Int) (LL : List (List Dc)) : ByteArray := if bodyE a p o LL = 0 then str (hdL p o ++ bdL LL) else nob
theorem lpE_take {LL : List (List Dc)} {k : Nat} {L : List Dc} (hk : LL[k]? = some L) (hf : lpE (LL.take k) = 0) : (loopE L = 0 → lpE (LL.take (k + 1)) = 0) ∧ (loopE L ≠ 0 → lpE LL = loopE L) := by
  induction LL generalizing k with
  | nil => simp at hk
  | cons x t ih =>
    cases k with
    | zero =>
      simp at hk
      subst hk
      exact ⟨fun h => by simp [lpE, h], fun h => by simp [lpE, h]⟩
    | succ k =>
      simp at hk
      simp only [List.take_succ_cons, lpE] at hf ⊢
      split at hf
      · rename_i hx
        rw [if_pos hx, if_pos hx]
        exact ih hk hf
      · rename_i hx
        exact absurd hf hx
theorem bd_snoc {LL : List (List Dc)} {k : Nat} {L : List Dc} (h : LL[k]? = some L) : bdL (LL.take (k + 1)) = bdL (LL.take k) ++ encLp L := by rw [List.take_add_one, h]; simp [bdL]
theorem head_str (p o : Int) : (strOfNums [p / 65536] ++ strOfNums [p / 256 % 256, p % 256]) ++ strOfNums [o] = str (hdL p o) := by
  rw [son_append, son_append]; rfl
theorem enc_str (L : List Dc) : strOfNums [(61440 + ((loopL L).length : Int)) / 256, (61440 + ((loopL L).length : Int)) % 256] ++ str (loopL L) = str (encLp L) := by
  have e1 : ((61440 + ((loopL L).length : Int)) / 256).toNat = 240 + (loopL L).length / 256 := by omega
  have e2 : ((61440 + ((loopL L).length : Int)) % 256).toNat = (loopL L).length % 256 := by omega
  show str [UInt8.ofNat ((61440 + ((loopL L).length : Int)) / 256).toNat, UInt8.ofNat ((61440 + ((loopL L).length : Int)) % 256).toNat] ++ str (loopL L) = _
  rw [e1, e2, str_app]; rfl
set_option maxRecDepth 100000
theorem two_gen (n : Int) (w : World) : Calls Try.prog 40 #[.int .i64 n] w fun e w' => e = .returned (.string (strOfNums [n / 256 % 256, n % 256])) ∧ Below w.heap.size w w' := by
  have q1 : IntKind.u8.wrap (n / 256) = n / 256 % 256 := by rw [IntKind.wrap_u8]
  have q2 : IntKind.u8.wrap n = n % 256 := by rw [IntKind.wrap_u8]
  have kc := conv_new w [n / 256 % 256, n % 256] 2 w.heap.size #[.int .u8 (n / 256 % 256), .int .u8 (n % 256)] rfl rfl rfl
  go_enter Try.func40, Try.ntmps40
  go_wp2
  go_ret
  exact ⟨rfl, (Below.refl _ _).alloc (Nat.le_refl _) _⟩
set_option maxHeartbeats 3200000 in
theorem body_any (a p o : Int) (iv : Value) (ea : Option Addr) (n ec : Nat) (PS : List (Value × Value)) (LL : List (List Dc)) (w : World) (hn : PS.length = n) (hl : n ≤ 100000) (hps : Lps w (lvs iv PS) LL) (hsm : ∀ L ∈ LL, L.length ≤ 1000000) (hE : Seq en2 2 w ea PS) :
    Calls Try.prog 33 #[.agg #[.int .i64 a, .int .i64 p, .int .i64 o, iv, .slice ea n ec]] w fun e w' => e = .returned (.tuple #[.string (bodyS a p o LL), .int .i64 (bodyE a p o LL)]) ∧ Below w.heap.size w w' := by
  obtain ⟨R, hR⟩ : ∃ R : Ending → World → Prop, R = (fun e w' => e = .returned (.tuple #[.string (bodyS a p o LL), .int .i64 (bodyE a p o LL)]) ∧ Below w.heap.size w w') := ⟨_, rfl⟩
  rw [← hR]
  have HR := Lib.hid hR
  clear hR
  obtain ⟨ia, im, ic, hiv⟩ := hps.sl (v := iv) (by simp [lvs])
  have hq : ∀ q ∈ PS, isSl q.1 ∧ isSl q.2 := fun q hq => ⟨hps.sl (by simp only [lvs, List.mem_cons, List.mem_flatMap, en2]; exact Or.inr ⟨q, hq, by simp⟩), hps.sl (by simp only [lvs, List.mem_cons, List.mem_flatMap, en2]; exact Or.inr ⟨q, hq, by simp⟩)⟩
  have HQ := Lib.hid hq
  have HP := Lib.hid hps
  have HE := Lib.hid hE
  have HSM := Lib.hid hsm
  have hVL : (lvs iv PS).length = LL.length := hps.1
  rw [lvs_len, hn] at hVL
  subst hiv
  have HB := Lib.hid (bk1 w 82 #[.int .i64 a, .int .i64 p, .int .i64 o, .slice ia im ic, .slice ea n ec])
  have k1 := fun V => may_any a p o (.slice ia im ic) (.slice ea n ec) V
  clear hps hq hE hsm
  cases hm : mayB a p o with
  | false =>
    rw [hm] at k1
    have hbe : bodyE a p o LL = 15 := by unfold bodyE; rw [hm]; rfl
    have HBE := Lib.hid (And.intro hbe (show bodyS a p o LL = nob by unfold bodyS; rw [hbe]; rfl))
    clear hm hbe
    go_enter Try.func33, Try.ntmps33
    go_wp2_with fail
    (with_reducible refine (k1 _).mono ?_); rintro e1 W1 ⟨rfl, hb1⟩
    have hEnd := (HB.out.below hb1).be
    go_wp2_with fail
    rw [HR.out, HBE.out.1, HBE.out.2]
    exact ⟨rfl, hEnd⟩
  | true =>
    obtain ⟨_, ⟨p1, p2⟩, ⟨o1, o2⟩⟩ := may_true hm
    rw [hm] at k1
    have HBE := Lib.hid (show bodyE a p o LL = lpE LL by unfold bodyE; rw [hm]; rfl)
    have k2 := fun V => two_gen p V
    have q1 : IntKind.u8.wrap (p / 65536) = p / 65536 := by rw [IntKind.wrap_u8]; omega
    have q2 : IntKind.u8.wrap o = o := by rw [IntKind.wrap_u8]; omega
    have hadd1 : ∀ U : World, (Op.stringOp .add (strOfNums [p / 65536]) (strOfNums [p / 256 % 256, p % 256])).run Try.prog U = .ok (.string (strOfNums [p / 65536] ++ strOfNums [p / 256 % 256, p % 256])) U := fun U => run_string_add_sum U _ _ (by rw [strOfNums_size, strOfNums_size]; simp)
    have hadd2 : ∀ U : World, (Op.stringOp .add (strOfNums [p / 65536] ++ strOfNums [p / 256 % 256, p % 256]) (strOfNums [o])).run Try.prog U = .ok (.string (str (hdL p o))) U := fun U => by rw [← head_str]; exact run_string_add_sum U _ _ (by rw [ByteArray.size_append, strOfNums_size, strOfNums_size, strOfNums_size]; simp)
    clear hm
    go_enter Try.func33, Try.ntmps33
    go_wp2_with fail
    (with_reducible refine (k1 _).mono ?_); rintro e1 W1 ⟨rfl, hb1⟩
    have HB1 := Lib.hid (HB.out.below hb1)
    have c0 := fun pX => Blk.cell (blk_ext (HB1.out.nth 0 rfl) pX) 0 (v := .int .i64 a) rfl
    have c1 := fun pX => Blk.cell (blk_ext (HB1.out.nth 0 rfl) pX) 1 (v := .int .i64 p) rfl
    have c2 := fun pX => Blk.cell (blk_ext (HB1.out.nth 0 rfl) pX) 2 (v := .int .i64 o) rfl
    clear k1 HB hb1
    go_wp2_with fail
    refine Go.Proofs.Ytbceakdifklocaa.Rg.region_new_all [(4, newS 1 5 #[.int .u8 (p / 65536)] 0), (5, val (.string (strOfNums [p / 65536]))), (8, val (.string (strOfNums [p / 256 % 256, p % 256]))), (13, newS 1 5 #[.int .u8 o] 0), (14, val (.string (strOfNums [o])))] (by kernel_rfl) (by kernel_rfl) (by kernel_rfl) (lk_cons newS_inh (lk_cons val_inh (lk_cons val_inh (lk_cons newS_inh (lk_cons val_inh lk_nil))))) (lk_cons newS_mono (lk_cons val_mono (lk_cons val_mono (lk_cons newS_mono (lk_cons val_mono lk_nil))))) ?_
    intro σ hσ
    have hs5 : σ 5 = .string (strOfNums [p / 65536]) := hσ 5 _ rfl
    have hs8 : σ 8 = .string (strOfNums [p / 256 % 256, p % 256]) := hσ 8 _ rfl
    have hs14 : σ 14 = .string (strOfNums [o]) := hσ 14 _ rfl
    refine Go.Proofs.Ytbceakdifklocaa.Rg.wpN_take 4 (by kernel_rfl) (by kernel_rfl) (by kernel_rfl) ?_
    simp only [List.take_succ_cons, List.take_zero, List.drop_succ_cons, List.drop_zero]
    repeat (go_big_quiet_step (fail))
    refine wpQuiet_nil ?_
    refine wpN_sp _ rfl (by kernel_rfl) (spAt_newS 1 5 #[.int .u8 (p / 65536)] (Nat.zero_le _) (by intro w0; go_simp)) ?_
    simp only [Act.put, List.setIfInBounds_toArray, List.set_cons_zero, List.set_cons_succ]
    refine wpN_sp _ rfl (by kernel_rfl) (spAt_read (fun pX hd => ?_)) ?_
    · obtain ⟨g, hg, _, hblk⟩ := dep_at hd 4 rfl (by kernel_rfl)
      have hcv2 := run_convert_bytes_arg (P := Try.prog) (ext W1 pX) 78 5 Try.underlying78 Try.underlying5 g 0 1 1 [p / 65536] rfl (fun j hj => by
        match j, hj with
        | 0, _ => exact Blk.cell hblk 0 rfl) _ Try.underlying9
      rw [hg]
      go_simp
    simp only [Act.put, List.setIfInBounds_toArray, List.set_cons_zero, List.set_cons_succ]
    rw [hs5]
    refine Go.Proofs.Ytbceakdifklocaa.Rg.wpN_take 2 (by kernel_rfl) (by kernel_rfl) (by kernel_rfl) ?_
    simp only [List.take_succ_cons, List.take_zero, List.drop_succ_cons, List.drop_zero]
    repeat (go_big_quiet_step (fail))
    refine wpQuiet_nil ?_
    refine wpN_sp _ rfl (by kernel_rfl) (spAt_val (f := 40) (args := #[.int .i64 p]) (by intro w0; go_simp) (fun p _ => k2 _)) ?_
    simp only [Act.put, List.setIfInBounds_toArray, List.set_cons_zero, List.set_cons_succ]
    rw [hs8]
    refine Go.Proofs.Ytbceakdifklocaa.Rg.wpN_take 4 (by kernel_rfl) (by kernel_rfl) (by kernel_rfl) ?_
    simp only [List.take_succ_cons, List.take_zero, List.drop_succ_cons, List.drop_zero]
    repeat (go_big_quiet_step (fail))
    refine wpQuiet_nil ?_
    refine wpN_sp _ rfl (by kernel_rfl) (spAt_newS 1 5 #[.int .u8 (o)] (Nat.zero_le _) (by intro w0; go_simp)) ?_
    simp only [Act.put, List.setIfInBounds_toArray, List.set_cons_zero, List.set_cons_succ]
    refine wpN_sp _ rfl (by kernel_rfl) (spAt_read (fun pX hd => ?_)) ?_
    · obtain ⟨g, hg, _, hblk⟩ := dep_at hd 13 rfl (by kernel_rfl)
      have hcv2 := run_convert_bytes_arg (P := Try.prog) (ext W1 pX) 78 5 Try.underlying78 Try.underlying5 g 0 1 1 [o] rfl (fun j hj => by
        match j, hj with
        | 0, _ => exact Blk.cell hblk 0 rfl) _ Try.underlying9
      rw [hg]
      go_simp
    simp only [Act.put, List.setIfInBounds_toArray, List.set_cons_zero, List.set_cons_succ]
    rw [hs14]
    refine Go.Proofs.Ytbceakdifklocaa.Rg.wpN_take 2 (by kernel_rfl) (by kernel_rfl) (by kernel_rfl) ?_
    simp only [List.take_succ_cons, List.take_zero, List.drop_succ_cons, List.drop_zero]
    repeat (go_big_quiet_step (fail))
    refine wpQuiet_nil ?_
    refine wpN_nil ?_
    rintro w9 ⟨pq, rfl⟩ _
    have HB2 := Lib.hid (HB1.out.px pq)
    have d0 := Blk.cell (HB2.out.nth 0 rfl) 0 (v := .int .i64 a) rfl
    have d1 := Blk.cell (HB2.out.nth 0 rfl) 1 (v := .int .i64 p) rfl
    have d2 := Blk.cell (HB2.out.nth 0 rfl) 2 (v := .int .i64 o) rfl
    have d3 := Blk.cell (HB2.out.nth 0 rfl) 3 (v := .slice ia im ic) rfl
    have d4 := Blk.cell (HB2.out.nth 0 rfl) 4 (v := .slice ea n ec) rfl
    have k3 := loops_any a p o (.slice ia im ic) ea n ec PS (ext W1 pq) hn hl ⟨_, _, _, rfl⟩ HQ.out (HE.out.below (Nat.le_refl _) HB2.out.be)
    clear hσ hs5 hs8 hs14 c0 c1 c2 k2 q1 q2 hadd1 hadd2 HB1
    go_wp2_with fail
    (with_reducible refine (k3).mono ?_); rintro e1 W3 ⟨⟨va, vc, rfl, hvs⟩, hb3⟩
    have hb4 := HB2.out.be.trans (hb3.mono HB2.out.be.size)
    have HV := Lib.hid hvs
    have HP3 := Lib.hid (HP.out.below hb4)
    clear k3 HB2 hb3 hvs d0 d1 d2 d3 d4
    go_wp2_with fail
    go_loopw [4, 31] (fun s i wr => ∃ (k : Nat) (b : ByteArray), k ≤ 1 + 2 * n ∧ s = .string b ∧ i = .int .i64 k ∧ Hid (lpE (LL.take k) = 0 ∧ b = str (hdL p o ++ bdL (LL.take k))) ∧ b.size ≤ 4 + 4097 * k ∧ Below W3.heap.size W3 wr) (fun _ i _ => 1 + 2 * n - (intOf i).toNat)
    case atStart => exact ⟨0, str (hdL p o), by omega, rfl, rfl, Lib.hid ⟨rfl, by simp [bdL]⟩, by rw [str_size]; simp [hdL], Below.refl _ _⟩
    case round =>
      obtain ⟨k, b, hk, rfl, rfl, hI, hbs, hb⟩ := hrel
      have hbE := hb4.trans (hb.mono hb4.size)
      by_cases hkl : k < 1 + 2 * n
      · have t0 : decide ((k : Int) < 1 + 2 * (n : Int)) = true := by simp; omega
        obtain ⟨v, hv⟩ : ∃ v, (lvs (.slice ia im ic) PS)[k]? = some v := ⟨_, List.getElem?_eq_getElem (by rw [lvs_len, hn]; exact hkl)⟩
        obtain ⟨L, hLk⟩ : ∃ L, LL[k]? = some L := ⟨_, List.getElem?_eq_getElem (by omega)⟩
        obtain ⟨la, ln, lc, rfl, hlen, hds⟩ := (HP3.out.below hb).2 k v L hv hLk
        obtain ⟨b1, o1, rfl, l1, hc⟩ := HV.out.below (Nat.le_refl _) hb k _ hv
        have c0 : wr.cell? ⟨b1, o1 + k, none⟩ = some (.slice la ln lc) := hc 0 _ rfl
        have hk0 : (0 : Int) ≤ (k : Int) := Int.natCast_nonneg _
        have hk1 : (k : Int) < 1 + 2 * (n : Int) := by omega
        have hk2 : (k : Int) < ((1 + 2 * n : Nat) : Int) := by omega
        have kl := loop_at la lc ln L wr hlen (by have := HSM.out L (List.mem_of_getElem? hLk); omega) hds
        obtain ⟨hf1, hf2⟩ := lpE_take hLk hI.out.1
        by_cases hz : loopE L = 0
        · have hlk := (loop_ok hz).2
          have hll : (str (loopL L)).size = (loopL L).length := str_size _
          rw [hz, if_pos rfl] at kl
          have hnew : b ++ (strOfNums [(61440 + ((loopL L).length : Int)) / 256, (61440 + ((loopL L).length : Int)) % 256] ++ str (loopL L)) = str (hdL p o ++ bdL (LL.take (k + 1))) := by
            rw [enc_str, hI.out.2, str_app, bd_snoc hLk, List.append_assoc]
          have HN := Lib.hid (And.intro (hf1 hz) hnew)
          obtain ⟨N, hN⟩ : ∃ N, (loopL L).length = N := ⟨_, rfl⟩
          obtain ⟨s, hs⟩ : ∃ s, str (loopL L) = s := ⟨_, rfl⟩
          rw [hN, hs] at HN
          rw [hs] at kl
          have hsz : s.size = N := by rw [← hs, hll, hN]
          have hszI : (s.size : Int) = (N : Int) := by omega
          have q3 := or61440 N (by omega)
          have k5 := fun V => two_any (61440 + (N : Int)) V (by omega)
          have hd1 : ∀ U : World, (Op.stringOp .add (strOfNums [(61440 + (N : Int)) / 256, (61440 + (N : Int)) % 256]) s).run Try.prog U = .ok (.string (strOfNums [(61440 + (N : Int)) / 256, (61440 + (N : Int)) % 256] ++ s)) U := fun U => run_string_add_sum U _ _ (by rw [strOfNums_size]; simp only [List.length_cons, List.length_nil]; omega)
          have hd2 : ∀ U : World, (Op.stringOp .add b (strOfNums [(61440 + (N : Int)) / 256, (61440 + (N : Int)) % 256] ++ s)).run Try.prog U = .ok (.string (b ++ (strOfNums [(61440 + (N : Int)) / 256, (61440 + (N : Int)) % 256] ++ s))) U := fun U => run_string_add_sum U _ _ (by rw [ByteArray.size_append, strOfNums_size]; simp only [List.length_cons, List.length_nil]; omega)
          have hbs2 : (b ++ (strOfNums [(61440 + (N : Int)) / 256, (61440 + (N : Int)) % 256] ++ s)).size ≤ 4 + 4097 * (k + 1) := by rw [ByteArray.size_append, ByteArray.size_append, strOfNums_size]; simp only [List.length_cons, List.length_nil]; omega
          clear hz hlk hll hnew hf1 hf2 hI hds hlen hv hLk hc hN hs hbE
          go_wp2_with fail
          (with_reducible refine (kl).mono ?_); rintro e1 W4 ⟨rfl, hb5⟩
          clear kl c0
          go_wp2_with fail
          (with_reducible refine (k5 _).mono ?_); rintro e1 W5 ⟨rfl, hb6⟩
          have hb7 := hb.trans ((hb5.mono hb.size).trans (hb6.mono (Nat.le_trans hb.size hb5.size)))
          clear k5 hb hb5 hb6
          go_wp2_with fail
          go_roundw
          case rel => exact ⟨k + 1, _, by omega, rfl, by go_num, HN, hbs2, hb7⟩
          case measure => simp [intOf]; omega
        · have HZ := Lib.hid (show bodyE a p o LL = loopE L ∧ bodyS a p o LL = nob by
            have : bodyE a p o LL = loopE L := by rw [HBE.out, hf2 hz]
            exact ⟨this, by unfold bodyS; rw [this, if_neg hz]⟩)
          rw [if_neg hz] at kl
          have t5 : (loopE L != 0) = true := by simpa using hz
          obtain ⟨ce, hce⟩ : ∃ ce, loopE L = ce := ⟨_, rfl⟩
          rw [hce] at kl t5 HZ
          clear hz hf1 hf2 hI hds hlen hv hLk hc hce
          go_wp2_with fail
          (with_reducible refine (kl).mono ?_); rintro e1 W4 ⟨rfl, hb5⟩
          have hb7 := hbE.trans (hb5.mono hbE.size)
          clear kl c0
          go_wp2_with fail
          rw [HR.out, HZ.out.1, HZ.out.2]
          exact ⟨rfl, hb7⟩
      · obtain rfl : k = 1 + 2 * n := by omega
        have hI2 := hI.out
        rw [show LL.take (1 + 2 * n) = LL by rw [hVL, List.take_length]] at hI2
        have HZ := Lib.hid (show bodyE a p o LL = 0 ∧ bodyS a p o LL = b by
          have : bodyE a p o LL = 0 := by rw [HBE.out, hI2.1]
          exact ⟨this, by unfold bodyS; rw [this, if_pos rfl, hI2.2]⟩)
        go_wp2_with fail
        rw [HR.out, HZ.out.1, HZ.out.2]
        exact ⟨rfl, hbE⟩
end Go.Proofs.Ytbceakdifklocaa.DuC
