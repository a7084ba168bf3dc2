/- An Int: its loops; take. -/
import Derived.Test.YtbceakdifklocaaDuA
namespace Go.Proofs.Ytbceakdifklocaa.DuB
open Go Go.RowKit Go.Proofs.Ytbceakdifklocaa.Q Go.Proofs.Ytbceakdifklocaa.Mem Go.Proofs.Ytbceakdifklocaa.DsA Go.Proofs.Ytbceakdifklocaa.DsB Go.Proofs.Ytbceakdifklocaa.DsC Go.Proofs.Ytbceakdifklocaa.DsD Go.Proofs.Ytbceakdifklocaa.DsE Go.Proofs.Ytbceakdifklocaa.DsI Go.Proofs.Ytbceakdifklocaa.DsP Go.Proofs.Ytbceakdifklocaa.DsQ Go.Proofs.Ytbceakdifklocaa.DsR Go.Proofs.Ytbceakdifklocaa.DsS Go.Proofs.Ytbceakdifklocaa.DsY Go.Proofs.Ytbceakdifklocaa.DuA Go.Proofs.Ytbceakdifklocaa.Rg Go.Proofs.Ytbceakdifklocaa.Ap

def en1 (v : Value) : List Value := [v]
def en2 (p : Value × Value) : List Value := [p.1, p.2]
theorem en1_len (v : Value) : (en1 v).length = 1 := rfl
theorem en2_len (v : Value × Value) : (en2 v).length = 2 := rfl
theorem elemLL : Elem Try.prog 117 45 1 24 := elem_of Try.underlying117 (z := .slice none 0 0) (by kernel_rfl) rfl (by decide)
/-- the loops of an Int, as values -/
def lvs (iv : Value) (PS : List (Value × Value)) : List Value := iv :: PS.flatMap en2
theorem lvs_len (iv : Value) (PS : List (Value × Value)) : (lvs iv PS).length = 1 + 2 * PS.length := by
  unfold lvs
  rw [List.length_cons]
  induction PS with
  | nil => rfl
  | cons p t ih => simp [en2] at ih ⊢; omega
theorem lvs_snoc {iv : Value} {PS : List (Value × Value)} {k : Nat} {p : Value × Value} (h : PS[k]? = some p) : lvs iv (PS.take (k + 1)) = lvs iv (PS.take k) ++ [p.1, p.2] := by
  unfold lvs; rw [List.take_add_one, h]; simp [en2]
/-- a slice of any elements: a slice's header is one cell -/
def isSl (v : Value) : Prop := ∃ a n c, v = .slice a n c
set_option maxRecDepth 100000
set_option maxHeartbeats 1600000 in
theorem loops_any (a p o : Int) (iv : Value) (ea : Option Addr) (n ec : Nat) (PS : List (Value × Value)) (w : World) (hn : PS.length = n) (hl : n ≤ 100000) (hi : isSl iv) (hps : ∀ q ∈ PS, isSl q.1 ∧ isSl q.2) (hE : Seq en2 2 w ea PS) :
    Calls Try.prog 51 #[.agg #[.int .i64 a, .int .i64 p, .int .i64 o, iv, .slice ea n ec]] w fun e w' => (∃ a' c', e = .returned (.slice a' (1 + 2 * n) c') ∧ Seq en1 1 w' a' (lvs iv PS)) ∧ Below w.heap.size w w' := by
  obtain ⟨ia, im, ic, rfl⟩ := hi
  have HE := Lib.hid hE
  have HP := Lib.hid hps
  have HB := Lib.hid (bk1 w 82 #[.int .i64 a, .int .i64 p, .int .i64 o, .slice ia im ic, .slice ea n ec])
  have hown0 := World.ownsRow_lit (base := w.heap.size + 1) (e := 45) (size := 1) (w.alloc (.cells #[.int .i64 a, .int .i64 p, .int .i64 o, .slice ia im ic, .slice ea n ec] 82)) #[.slice ia im ic] 1 (by simp) (by decide) rfl
  have HO := Lib.hid hown0
  have HBx := Lib.hid (HB.out.al (.cells #[.slice ia im ic] 45))
  clear hE hps hown0
  go_enter Try.func51, Try.ntmps51
  go_wp2_with fail
  go_loopw [3, 12] (fun v i wr => ∃ k : Nat, k ≤ n ∧ i = .int .i64 k ∧ wr.ownsRow (w.heap.size + 1) 45 1 v (1 + 2 * k) (flat en1 (lvs (.slice ia im ic) (PS.take k))) ∧ Bk w wr [(w.heap.size, 82, #[.int .i64 a, .int .i64 p, .int .i64 o, .slice ia im ic, .slice ea n ec])] ∧ w.heap.size + 1 ≤ wr.heap.size) (fun _ i _ => n - (intOf i).toNat)
  case atStart => exact ⟨0, by omega, rfl, by simpa [flat, lvs, en1] using HO.out, HBx.out, by simp⟩
  case round =>
    obtain ⟨k, hk, rfl, hown, hB, hsz⟩ := hrel
    by_cases hkl : k < n
    · have t0 : decide ((k : Int) < (n : Int)) = true := by simp; omega
      obtain ⟨q, hq⟩ : ∃ q, PS[k]? = some q := ⟨PS[k], List.getElem?_eq_getElem (by omega)⟩
      obtain ⟨⟨ta, tn, tc, hv1⟩, ⟨oa, on, oc, hv2⟩⟩ := HP.out q (List.mem_of_getElem? hq)
      obtain ⟨q1, q2⟩ := q
      dsimp only at hv1 hv2
      subst hv1 hv2
      obtain ⟨b1, o1, rfl, l1, hc⟩ := HE.out.below (Nat.le_refl _) hB.be k _ hq
      have c0 : wr.cell? ⟨b1, o1 + k * 2, none⟩ = some (.slice ta tn tc) := hc 0 _ rfl
      have c1 : wr.cell? ⟨b1, o1 + k * 2 + 1, none⟩ = some (.slice oa on oc) := hc 1 _ rfl
      have hk0 : (0 : Int) ≤ (k : Int) := Int.natCast_nonneg _
      have hk1 : (k : Int) < (n : Int) := by omega
      have HQ := Lib.hid hq
      have HB2 := Lib.hid hB
      have hown2 := (hown.alloc (.cells #[.slice ta tn tc, .slice oa on oc] 116)).alloc (.cells #[.slice ta tn tc, .slice oa on oc] 45)
      clear hq hc hB hown
      go_wp2_with (first
        | (at_builtin; (refine wpList_app rfl _ _ rfl elemLL rfl hown2 rfl rfl (blk_news (Blk.newAt (wr.alloc (.cells #[.slice ta tn tc, .slice oa on oc] 116)) 45 #[.slice ta tn tc, .slice oa on oc] (by simp))) (by simp [Value.oneCell']) (by omega) (by unfold maxLen; omega) (by simp; omega) ?_)
           intro v9 w8 hown9 hb8)
        | fail)
      have hown3 : w8.ownsRow (w.heap.size + 1) 45 1 v9 (1 + 2 * (k + 1)) (flat en1 (lvs (.slice ia im ic) (PS.take (k + 1)))) := by
        rw [lvs_snoc HQ.out, flat_app]; exact hown9
      have hB8 := ((HB2.out.al (.cells #[.slice ta tn tc, .slice oa on oc] 116)).al (.cells #[.slice ta tn tc, .slice oa on oc] 45)).belowB (B := w.heap.size + 1) (by omega) (by simp) hb8
      have hsz8 : w.heap.size + 1 ≤ w8.heap.size := by have := hb8.size; simp at this; omega
      clear hown9 hown2 c0 c1 hb8
      go_roundw
      case rel => exact ⟨k + 1, by omega, by go_num, hown3, hB8, hsz8⟩
      case measure => simp [intOf]; omega
    · obtain rfl : k = n := by omega
      have t0 : decide ((k : Int) < (k : Int)) = false := by simp
      rw [show PS.take k = PS by rw [← hn, List.take_length]] at hown
      obtain ⟨a', c', rfl⟩ := own_form hown
      have HS := Lib.hid (own_seq en1_len hown (by rw [lvs_len, hn]))
      have HBE := Lib.hid hB.be
      clear hown hB
      go_wp2_with fail
      go_ret
      exact ⟨⟨a', c', rfl, HS.out⟩, HBE.out⟩

theorem and4095 (a : Int) (h : 0 ≤ a ∧ a ≤ 65535) : bits .and .i64 a 4095 = a % 4096 := by
  obtain ⟨n, rfl⟩ : ∃ n : Nat, a = n := ⟨a.toNat, by omega⟩
  have := (bits_nat .i64 16 (by decide) (fun n h1 h2 => by rw [IntKind.wrap_i64]; omega) n 4095 (by omega) (by decide)).1
  rw [show ((4095 : Nat) : Int) = 4095 from rfl] at this
  rw [this, show (4095 : Nat) = 2 ^ 12 - 1 by decide, Nat.and_two_pow_sub_one_eq_mod]
  omega
def pn (s : ByteArray) : Nat := (pw s 0 % 4096).toNat
theorem pw_range (s : ByteArray) (i : Nat) : 0 ≤ pw s i ∧ pw s i ≤ 65535 := by
  have := at_range s i; have := at_range s (i + 1); unfold pw; omega
def tkBad (s : ByteArray) : Prop := s.size < 2 ∨ s.size < 2 + pn s
instance (s : ByteArray) : Decidable (tkBad s) := by unfold tkBad; infer_instance
def tkE (s : ByteArray) : Int := if tkBad s then 10 else prsE (s.extract 2 (2 + pn s))
def tkL (s : ByteArray) : List Dc := if tkBad s then [] else prsL (s.extract 2 (2 + pn s))
def tkR (s : ByteArray) : ByteArray := if tkBad s then nob else s.extract (2 + pn s) s.size
set_option maxHeartbeats 1600000 in
theorem take_any (s : ByteArray) (w : World) (hs : s.size ≤ 1000000) :
    Calls Try.prog 52 #[.string s] w fun e w' => ∃ a' c', e = .returned (.tuple #[.slice a' (tkL s).length c', .string (tkR s), .int .i64 (tkE s)]) ∧ (Ds w' a' (tkL s) ∧ Fresh w a') ∧ Below w.heap.size w w' := by
  obtain ⟨R, hR⟩ : ∃ R : Ending → World → Prop, R = (fun e w' => ∃ a' c', e = .returned (.tuple #[.slice a' (tkL s).length c', .string (tkR s), .int .i64 (tkE s)]) ∧ (Ds w' a' (tkL s) ∧ Fresh w a') ∧ Below w.heap.size w w') := ⟨_, rfl⟩
  rw [← hR]
  have HR := Lib.hid hR
  clear hR
  by_cases h1 : s.size < 2
  · have hb : tkBad s := Or.inl h1
    have HE := Lib.hid (show tkE s = 10 ∧ tkL s = [] ∧ tkR s = nob by unfold tkE tkL tkR; rw [if_pos hb, if_pos hb, if_pos hb]; exact ⟨rfl, rfl, rfl⟩)
    have t1 : decide ((s.size : Int) < 2) = true := by simp; omega
    clear h1 hb
    go_enter Try.func52, Try.ntmps52
    go_wp2_with fail
    rw [HR.out, HE.out.1, HE.out.2.1, HE.out.2.2]
    exact bodyPost_ret (v := .tuple #[.slice none 0 0, .string { data := #[] }, .int .i64 10]) (by simp [results, Try.results52, go_sem]) rfl ⟨none, 0, rfl, ⟨fun i x hi => by simp at hi, fun b o e => by cases e⟩, Below.refl _ _⟩
  have t1 : decide ((s.size : Int) < 2) = false := by simp; omega
  have kp := fun V => pair_any s V (by omega)
  have r := pw_range s 0
  have q1 := and4095 (pw s 0) r
  obtain ⟨N, hN⟩ : ∃ N, pn s = N := ⟨_, rfl⟩
  have hN2 : pw s 0 % 4096 = (N : Int) := by rw [← hN]; unfold pn; omega
  rw [hN2] at q1
  have hN3 : N ≤ 4095 := by omega
  have q2 : IntKind.i64.wrap (2 + (N : Int)) = 2 + (N : Int) := by rw [IntKind.wrap_i64]; omega
  obtain ⟨y, hy⟩ : ∃ y, pw s 0 = y := ⟨_, rfl⟩
  rw [hy] at kp q1
  by_cases h2 : s.size < 2 + N
  · have hb : tkBad s := Or.inr (by rw [hN]; exact h2)
    have HE := Lib.hid (show tkE s = 10 ∧ tkL s = [] ∧ tkR s = nob by unfold tkE tkL tkR; rw [if_pos hb, if_pos hb, if_pos hb]; exact ⟨rfl, rfl, rfl⟩)
    have t2 : decide ((s.size : Int) < 2 + (N : Int)) = true := by simp; omega
    clear h1 hb h2 hN hN2 hy r
    go_enter Try.func52, Try.ntmps52
    go_wp2_with fail
    (with_reducible refine (kp _).mono ?_); rintro e1 W1 ⟨rfl, hb1⟩
    go_wp2_with fail
    rw [HR.out, HE.out.1, HE.out.2.1, HE.out.2.2]
    exact bodyPost_ret (v := .tuple #[.slice none 0 0, .string { data := #[] }, .int .i64 10]) (by simp [results, Try.results52, go_sem]) rfl ⟨none, 0, rfl, ⟨fun i x hi => by simp at hi, fun b o e => by cases e⟩, hb1⟩
  have hb : ¬ tkBad s := by unfold tkBad; rw [hN]; omega
  have HE := Lib.hid (show tkE s = prsE (s.extract 2 (2 + N)) ∧ tkL s = prsL (s.extract 2 (2 + N)) ∧ tkR s = s.extract (2 + N) s.size by unfold tkE tkL tkR; rw [if_neg hb, if_neg hb, if_neg hb, hN]; exact ⟨rfl, rfl, rfl⟩)
  have t2 : decide ((s.size : Int) < 2 + (N : Int)) = false := by simp; omega
  have kq := fun V => parse_new (s.extract 2 (2 + N)) V
  have s1 : (2 : Int) ≤ 2 + (N : Int) := by omega
  have s2 : 2 + (N : Int) ≤ (s.size : Int) := by omega
  have s3 : (0 : Int) ≤ 2 + (N : Int) := by omega
  obtain ⟨A, hA⟩ : ∃ A, prsL (s.extract 2 (2 + N)) = A := ⟨_, rfl⟩
  obtain ⟨g, hg⟩ : ∃ g, prsE (s.extract 2 (2 + N)) = g := ⟨_, rfl⟩
  rw [hA, hg] at kq HE
  clear h1 hb h2 hN hN2 hy r hA hg
  go_enter Try.func52, Try.ntmps52
  go_wp2_with fail
  (with_reducible refine (kp _).mono ?_); rintro e1 W1 ⟨rfl, hb1⟩
  go_wp2_with fail
  (with_reducible refine (kp _).mono ?_); rintro e1 W2 ⟨rfl, hb2⟩
  have hb3 := hb1.trans (hb2.mono hb1.size)
  clear kp hb1 hb2
  go_wp2_with fail
  (with_reducible refine (kq _).mono ?_); rintro e1 W3 ⟨a3, c3, rfl, ⟨hd, hfr⟩, hb4⟩
  have HFR := Lib.hid (show Fresh w a3 from fun b o e => Nat.le_trans hb3.size (hfr b o e))
  have hb5 := hb3.trans (hb4.mono hb3.size)
  clear kq hb3 hb4 hfr
  go_wp2_with fail
  refine Go.Proofs.Ytbceakdifklocaa.Q.region_ext (by kernel_rfl) (by kernel_rfl) ?_
  repeat (go_big_quiet_step (fail))
  refine wpQuiet_nil ?_
  rintro w9 ⟨pq, rfl⟩
  have hb6 := hb5.trans ((below_ext _ pq).mono hb5.size)
  have hd6 := hd.below (Nat.le_refl _) (below_ext _ pq)
  clear hd hb5
  go_wp2_with fail
  rw [HR.out, HE.out.1, HE.out.2.1, HE.out.2.2]
  exact bodyPost_ret (v := .tuple #[.slice a3 A.length c3, .string (s.extract (2 + N) s.size), .int .i64 g]) (by simp [results, Try.results52, go_sem]) rfl ⟨a3, c3, rfl, ⟨hd6, HFR.out⟩, hb6⟩
end Go.Proofs.Ytbceakdifklocaa.DuB
