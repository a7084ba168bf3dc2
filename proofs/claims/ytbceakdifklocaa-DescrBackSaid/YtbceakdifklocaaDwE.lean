/- DescrBack: the walk. -/
import Derived.Test.YtbceakdifklocaaDwC
import Derived.Test.YtbceakdifklocaaDwD
import Derived.Test.YtbceakdifklocaaDwB
import Derived.Deep.DeepCutAuto
namespace Go.Proofs.Ytbceakdifklocaa.DwE
open Go Go.RowKit Go.Proofs.Ytbceakdifklocaa.Q Go.Proofs.Ytbceakdifklocaa.Mem Go.Proofs.Ytbceakdifklocaa.DsA Go.Proofs.Ytbceakdifklocaa.DsB Go.Proofs.Ytbceakdifklocaa.DsC Go.Proofs.Ytbceakdifklocaa.DsD Go.Proofs.Ytbceakdifklocaa.DsE Go.Proofs.Ytbceakdifklocaa.DsI Go.Proofs.Ytbceakdifklocaa.DsO Go.Proofs.Ytbceakdifklocaa.DsP Go.Proofs.Ytbceakdifklocaa.DsQ Go.Proofs.Ytbceakdifklocaa.DsR Go.Proofs.Ytbceakdifklocaa.DsS Go.Proofs.Ytbceakdifklocaa.DsU Go.Proofs.Ytbceakdifklocaa.DsW Go.Proofs.Ytbceakdifklocaa.DsX Go.Proofs.Ytbceakdifklocaa.DsY Go.Proofs.Ytbceakdifklocaa.DuA Go.Proofs.Ytbceakdifklocaa.DuB Go.Proofs.Ytbceakdifklocaa.DuC Go.Proofs.Ytbceakdifklocaa.DuD Go.Proofs.Ytbceakdifklocaa.DuE Go.Proofs.Ytbceakdifklocaa.DvO Go.Proofs.Ytbceakdifklocaa.DvP Go.Proofs.Ytbceakdifklocaa.DwA Go.Proofs.Ytbceakdifklocaa.DwB Go.Proofs.Ytbceakdifklocaa.DwC Go.Proofs.Ytbceakdifklocaa.DwD Go.Proofs.Ytbceakdifklocaa.DwP Go.Proofs.Ytbceakdifklocaa.Rg Go.Proofs.Ytbceakdifklocaa.Ap
/-- an Int, as the document's answer has it -/
def pI (a p o : Int) (m : Nat) (LL : List (List Dc)) : Sp := ⟨fun _ => True, fun v W => ∃ x c VS, v = .agg #[.int .i64 a, .int .i64 p, .int .i64 o, .slice x m c] ∧ Seq en1 1 W x VS ∧ Lps W VS LL⟩
theorem pI_inh {a p o : Int} {m : Nat} {LL : List (List Dc)} : ∃ v, (pI a p o m LL).is v := ⟨undef, trivial⟩
theorem pI_mono {a p o : Int} {m : Nat} {LL : List (List Dc)} : ∀ v w w', (pI a p o m LL).post v w → Le w w' → (pI a p o m LL).post v w' := fun _ _ _ ⟨x, c, VS, h1, h2, h3⟩ hle => ⟨x, c, VS, h1, h2.below (Nat.le_refl _) (le_below hle), h3.below (le_below hle)⟩
/-- the three arguments' boxes -/
abbrev L3 (w : World) (X : Sl) (Y : Pl) (tv : Array Value) : List (Nat × TypeId × Array Value) := [(w.heap.size + 1 + 1, 82, tv), (w.heap.size + 1, 26, #[.int .i64 Y.n, .int .i64 Y.o, .int .i64 Y.s, .int .i64 Y.v, .int .i64 Y.t]), (w.heap.size, 23, #[.bool X.sl, .bool X.fec, .int .i64 X.rows, .int .i64 X.burst, .int .i64 X.rate, .int .i64 X.id, .string X.more])]
theorem bd_le : ∀ (LL : List (List Dc)), (∀ L ∈ LL, loopE L = 0) → (bdL LL).length ≤ 4097 * LL.length
  | [], _ => by simp [bdL]
  | L :: M, h => by
    have h1 := (loop_ok (h L (List.mem_cons_self ..))).2
    have h2 := bd_le M (fun x hx => h x (List.mem_cons_of_mem _ hx))
    have e : bdL (L :: M) = encLp L ++ bdL M := by simp [bdL]
    have h3 : (encLp L).length = 2 + (loopL L).length := by simp [encLp]; omega
    rw [e, List.length_append, List.length_cons]
    omega
theorem body_size {a p o : Int} {LL : List (List Dc)} (h : bodyE a p o LL = 0) (hl : LL.length ≤ 21) : (bodyS a p o LL).size ≤ 100000 := by
  have h0 := h
  unfold bodyS
  rw [if_pos h, str_size, List.length_append]
  unfold bodyE at h0
  split at h0
  · have := bd_le LL (lp_all h0)
    have : (hdL p o).length = 4 := rfl
    omega
  · omega
/-- the call of plain, of an Int that lies there -/
theorem spAt_pI {W : World} {sp : List (Nat × Sp)} {σ : Nat → Value} {op : Oper} {A : Act} (a p o : Int) (iv : Value) (ea : Option Addr) (n ec : Nat) (PS : List (Value × Value)) (LL : List (List Dc)) (hn : PS.length = n) (hl : n ≤ 100000) (hps : Lps W (lvs iv PS) LL) (hsm : ∀ L ∈ LL, L.length ≤ 1000000) (hE : Seq en2 2 W ea PS)
    (hrun : ∀ w : World, (execOp A.eval op).run Try.prog w = .ok (.enter 37 #[.agg #[.int .i64 a, .int .i64 p, .int .i64 o, iv, .slice ea n ec]]) w) : spAt Try.prog (fun w' => ∃ p : Ext, w' = ext W p) sp σ (pI a p o (1 + 2 * n) LL) op A :=
  spAt_call hrun (fun w hw _ => (plainI_any a p o iv ea n ec PS LL w hn hl (hps.below (le_below hw)) hsm (hE.below (Nat.le_refl _) (le_below hw))).mono fun _ _ ⟨⟨x, c, VS, he, h1, h2⟩, hb⟩ => ⟨_, he, hb, trivial, x, c, VS, rfl, h1, h2⟩)
set_option maxRecDepth 100000
set_option maxHeartbeats 3200000 in
theorem back_go (X : Sl) (Y : Pl) (a p o : Int) (iv : Value) (ea : Option Addr) (n ec : Nat) (PS : List (Value × Value)) (LL : List (List Dc)) (w : World) (h300 : ¬ 300 < X.more.size) (hn : PS.length = n) (hl : n ≤ 9223372036854775807) (hps : Lps w (lvs iv PS) LL) (hsm : ∀ L ∈ LL, L.length ≤ 9223372036854775807) (hE : Seq en2 2 w ea PS) :
    Calls Try.prog 8 #[.agg X.vals, .agg Y.vals, .agg #[.int .i64 a, .int .i64 p, .int .i64 o, iv, .slice ea n ec]] w fun e w' => e = .returned (.bool true) ∧ Below w.heap.size w w' := by
  have t1 : decide (300 < (X.more.size : Int)) = false := by simp; omega
  have hlen := hps.1
  rw [lvs_len, hn] at hlen
  have HLEN := Lib.hid hlen
  obtain ⟨ia, im, ic, rfl⟩ := hps.sl (v := iv) (by simp [lvs])
  have ks := fun V (hb : Below w.heap.size w V) => some_any a p o (.slice ia im ic) ea n ec PS LL V hn hl (hps.below hb) hsm (hE.below (Nat.le_refl _) hb)
  have kaw := fun V => awake_any V
  have HP := Lib.hid hps
  have HE := Lib.hid hE
  have HN := Lib.hid hn
  have hB : Bk w (((w.alloc (.cells #[.bool X.sl, .bool X.fec, .int .i64 X.rows, .int .i64 X.burst, .int .i64 X.rate, .int .i64 X.id, .string X.more] 23)).alloc (.cells #[.int .i64 Y.n, .int .i64 Y.o, .int .i64 Y.s, .int .i64 Y.v, .int .i64 Y.t] 26)).alloc (.cells #[.int .i64 a, .int .i64 p, .int .i64 o, .slice ia im ic, .slice ea n ec] 82)) (L3 w X Y #[.int .i64 a, .int .i64 p, .int .i64 o, .slice ia im ic, .slice ea n ec]) := bk3 w 23 26 82 _ _ _
  have HB := Lib.hid hB
  unfold Sl.vals Pl.vals
  clear hps hE hn hsm hlen h300 hB
  go_enter Try.func8, Try.ntmps8
  go_wp2_with fail
  (with_reducible refine (ks _ (Bk.be HB.out)).mono ?_); rintro e1 W1 ⟨⟨b, rfl, hb⟩, hb1⟩
  have HB1 := Lib.hid (HB.out.below hb1)
  clear ks HB hb1
  cases b with
  | false =>
    go_wp2_with fail
    (with_reducible refine (kaw _).mono ?_); rintro e1 W2 ⟨rfl, hb2⟩
    have hE := Bk.be (HB1.out.below hb2)
    go_wp2_with fail
    go_ret
    exact ⟨rfl, hE⟩
  | true =>
    obtain ⟨hn10, hfew⟩ := hb rfl
    have HF := Lib.hid (show ∀ L ∈ LL, L.length ≤ 40 from fun L hL => few_true (hfew L hL))
    clear hb hfew t1
    have k1 := fun V => make_any X V
    unfold Sl.vals at k1
    have c0 := Blk.cell (HB1.out.nth 2 rfl) 0 (v := .bool X.sl) rfl
    have c1 := Blk.cell (HB1.out.nth 2 rfl) 1 (v := .bool X.fec) rfl
    have c2 := Blk.cell (HB1.out.nth 2 rfl) 2 (v := .int .i64 X.rows) rfl
    have c3 := Blk.cell (HB1.out.nth 2 rfl) 3 (v := .int .i64 X.burst) rfl
    have c4 := Blk.cell (HB1.out.nth 2 rfl) 4 (v := .int .i64 X.rate) rfl
    have c5 := Blk.cell (HB1.out.nth 2 rfl) 5 (v := .int .i64 X.id) rfl
    have c6 := Blk.cell (HB1.out.nth 2 rfl) 6 (v := .string X.more) rfl
    go_upto_if 36 with fail
    (with_reducible refine (k1 _).mono ?_); rintro e1 W2 ⟨rfl, hb2⟩
    have HB2 := Lib.hid (HB1.out.below hb2)
    have HQ := Lib.hid (Blk.new W2 30 #[.int .i64 (slD X).tag, .string (slD X).body])
    clear c0 c1 c2 c3 c4 c5 c6 hb2 HB1 k1
    go_upto_if 36 with fail
    go_cut [8] (fun s8 wx => Bk w wx (L3 w X Y #[.int .i64 a, .int .i64 p, .int .i64 o, .slice ia im ic, .slice ea n ec]))
    case first =>
      have HB3 := Lib.hid (HB2.out.al (.cells #[.int .i64 (slD X).tag, .string (slD X).body] 30))
      by_cases hx : X.makeE = 0
      · obtain ⟨q1, q2⟩ := sl_back hx
        have k2 := fun V => read_any (slD X) V
        rw [q1, q2] at k2
        have he := fun V => eqS X X V
        rw [decide_eq_true rfl] at he
        unfold Sl.vals at k2 he
        have z0 := Blk.cell (HQ.out) 0 (v := .int .i64 (slD X).tag) rfl
        have z1 := Blk.cell (HQ.out) 1 (v := .string (slD X).body) rfl
        rw [hx]
        clear q1 q2 hx HQ
        go_wp2_with fail
        (with_reducible refine (k2 _).mono ?_); rintro e1 W3 ⟨rfl, hb3⟩
        have HB4 := Lib.hid (HB3.out.below hb3)
        have HB5 := Lib.hid (Bk.new HB4.out 23 #[.bool X.sl, .bool X.fec, .int .i64 X.rows, .int .i64 X.burst, .int .i64 X.rate, .int .i64 X.id, .string X.more])
        have c0 := Blk.cell (HB5.out.nth 3 rfl) 0 (v := .bool X.sl) rfl
        have c1 := Blk.cell (HB5.out.nth 3 rfl) 1 (v := .bool X.fec) rfl
        have c2 := Blk.cell (HB5.out.nth 3 rfl) 2 (v := .int .i64 X.rows) rfl
        have c3 := Blk.cell (HB5.out.nth 3 rfl) 3 (v := .int .i64 X.burst) rfl
        have c4 := Blk.cell (HB5.out.nth 3 rfl) 4 (v := .int .i64 X.rate) rfl
        have c5 := Blk.cell (HB5.out.nth 3 rfl) 5 (v := .int .i64 X.id) rfl
        have c6 := Blk.cell (HB5.out.nth 3 rfl) 6 (v := .string X.more) rfl
        have d0 := Blk.cell (HB5.out.nth 0 rfl) 0 (v := .bool X.sl) rfl
        have d1 := Blk.cell (HB5.out.nth 0 rfl) 1 (v := .bool X.fec) rfl
        have d2 := Blk.cell (HB5.out.nth 0 rfl) 2 (v := .int .i64 X.rows) rfl
        have d3 := Blk.cell (HB5.out.nth 0 rfl) 3 (v := .int .i64 X.burst) rfl
        have d4 := Blk.cell (HB5.out.nth 0 rfl) 4 (v := .int .i64 X.rate) rfl
        have d5 := Blk.cell (HB5.out.nth 0 rfl) 5 (v := .int .i64 X.id) rfl
        have d6 := Blk.cell (HB5.out.nth 0 rfl) 6 (v := .string X.more) rfl
        have HB6 := Lib.hid (HB4.out.al (.cells #[.bool X.sl, .bool X.fec, .int .i64 X.rows, .int .i64 X.burst, .int .i64 X.rate, .int .i64 X.id, .string X.more] 23))
        clear z0 z1 k2 hb3 HB3
        go_wp2_with fail
        go_meet
        case rel => exact HB6.out
      · have t2 : (X.makeE == 0) = false := by simpa using hx
        clear hx
        go_wp2_with fail
        go_meet
        case rel => exact HB3.out
    case rest =>
      have HC := Lib.hid hcut
      clear hcut HB2 HQ
      have k1 := fun V => pmake_any Y V
      unfold Pl.vals at k1
      have c0 := Blk.cell (HC.out.nth 1 rfl) 0 (v := .int .i64 Y.n) rfl
      have c1 := Blk.cell (HC.out.nth 1 rfl) 1 (v := .int .i64 Y.o) rfl
      have c2 := Blk.cell (HC.out.nth 1 rfl) 2 (v := .int .i64 Y.s) rfl
      have c3 := Blk.cell (HC.out.nth 1 rfl) 3 (v := .int .i64 Y.v) rfl
      have c4 := Blk.cell (HC.out.nth 1 rfl) 4 (v := .int .i64 Y.t) rfl
      go_upto_if 55 with fail
      (with_reducible refine (k1 _).mono ?_); rintro e1 W2 ⟨rfl, hb2⟩
      have HB2 := Lib.hid (HC.out.below hb2)
      have HQ := Lib.hid (Blk.new W2 30 #[.int .i64 (plD Y).tag, .string (plD Y).body])
      clear c0 c1 c2 c3 c4 hb2 HC k1
      go_upto_if 55 with fail
      go_cut [8] (fun s8 wx => Bk w wx (L3 w X Y #[.int .i64 a, .int .i64 p, .int .i64 o, .slice ia im ic, .slice ea n ec]))
      case first =>
        have HB3 := Lib.hid (HB2.out.al (.cells #[.int .i64 (plD Y).tag, .string (plD Y).body] 30))
        by_cases hx : Y.makeE = 0
        · obtain ⟨q1, q2⟩ := pl_back hx
          have k2 := fun V => rplace_any (plD Y) V
          rw [q1, q2] at k2
          have he := fun V => eqP Y Y V
          rw [decide_eq_true rfl] at he
          unfold Pl.vals at k2 he
          have z0 := Blk.cell (HQ.out) 0 (v := .int .i64 (plD Y).tag) rfl
          have z1 := Blk.cell (HQ.out) 1 (v := .string (plD Y).body) rfl
          rw [hx]
          clear q1 q2 hx HQ
          go_wp2_with fail
          (with_reducible refine (k2 _).mono ?_); rintro e1 W3 ⟨rfl, hb3⟩
          have HB4 := Lib.hid (HB3.out.below hb3)
          have HB5 := Lib.hid (Bk.new HB4.out 26 #[.int .i64 Y.n, .int .i64 Y.o, .int .i64 Y.s, .int .i64 Y.v, .int .i64 Y.t])
          have c0 := Blk.cell (HB5.out.nth 2 rfl) 0 (v := .int .i64 Y.n) rfl
          have c1 := Blk.cell (HB5.out.nth 2 rfl) 1 (v := .int .i64 Y.o) rfl
          have c2 := Blk.cell (HB5.out.nth 2 rfl) 2 (v := .int .i64 Y.s) rfl
          have c3 := Blk.cell (HB5.out.nth 2 rfl) 3 (v := .int .i64 Y.v) rfl
          have c4 := Blk.cell (HB5.out.nth 2 rfl) 4 (v := .int .i64 Y.t) rfl
          have d0 := Blk.cell (HB5.out.nth 0 rfl) 0 (v := .int .i64 Y.n) rfl
          have d1 := Blk.cell (HB5.out.nth 0 rfl) 1 (v := .int .i64 Y.o) rfl
          have d2 := Blk.cell (HB5.out.nth 0 rfl) 2 (v := .int .i64 Y.s) rfl
          have d3 := Blk.cell (HB5.out.nth 0 rfl) 3 (v := .int .i64 Y.v) rfl
          have d4 := Blk.cell (HB5.out.nth 0 rfl) 4 (v := .int .i64 Y.t) rfl
          have HB6 := Lib.hid (HB4.out.al (.cells #[.int .i64 Y.n, .int .i64 Y.o, .int .i64 Y.s, .int .i64 Y.v, .int .i64 Y.t] 26))
          clear z0 z1 k2 hb3 HB3
          go_wp2_with fail
          go_meet
          case rel => exact HB6.out
        · have t2 : (Y.makeE == 0) = false := by simpa using hx
          clear hx
          go_wp2_with fail
          go_meet
          case rel => exact HB3.out
      case rest =>
        have HC := Lib.hid hcut
        clear hcut HB2 HQ
        have hL0 : 0 < LL.length := by have := HLEN.out; omega
        obtain ⟨L0, hL0⟩ : ∃ L, LL[0]? = some L := ⟨_, List.getElem?_eq_getElem hL0⟩
        have hl0 := HF.out L0 (List.mem_of_getElem? hL0)
        have HI := Lib.hid (show ∀ V : World, Below w.heap.size w V → Ds V ia L0 ∧ L0.length = im from fun V hb => by
          obtain ⟨a0, n0, c0, e0, hn0, d0⟩ := (HP.out.below hb).2 0 (.slice ia im ic) L0 rfl hL0
          obtain ⟨rfl, rfl, rfl⟩ : ia = a0 ∧ im = n0 ∧ ic = c0 := by simpa using e0
          exact ⟨d0, hn0⟩)
        have him : L0.length = im := (HI.out w (Below.refl _ _)).2
        have k1 := fun V (hb : Below w.heap.size w V) => loop_at ia ic im L0 V him (by omega) (HI.out V hb).1
        have c0 := Blk.cell (HC.out.nth 0 rfl) 0 (v := .int .i64 a) rfl
        have c1 := Blk.cell (HC.out.nth 0 rfl) 1 (v := .int .i64 p) rfl
        have c2 := Blk.cell (HC.out.nth 0 rfl) 2 (v := .int .i64 o) rfl
        have c3 := Blk.cell (HC.out.nth 0 rfl) 3 (v := .slice ia im ic) rfl
        have c4 := Blk.cell (HC.out.nth 0 rfl) 4 (v := .slice ea n ec) rfl
        go_upto_if 75 with fail
        (with_reducible refine (k1 _ (Bk.be HC.out)).mono ?_); rintro e1 W2 ⟨rfl, hb2⟩
        have HB2 := Lib.hid (HC.out.below hb2)
        clear c0 c1 c2 c3 c4 hb2 HC k1 hL0
        go_upto_if 75 with fail
        go_cut [8, 14] (fun s8 s14 wx => Bk w wx (L3 w X Y #[.int .i64 a, .int .i64 p, .int .i64 o, .slice ia im ic, .slice ea n ec]))
        case first =>
          by_cases hx : loopE L0 = 0
          · obtain ⟨q1, q2⟩ := prs_joined hx
            have k2 := fun V => parse_any (str (loopL L0)) V
            rw [q1, q2] at k2
            rw [if_pos hx, hx]
            clear q1 q2 hx
            go_wp2_with fail
            (with_reducible refine (k2 _).mono ?_); rintro e1 W3 ⟨a3, c3, rfl, hd3, hb3⟩
            have HB4 := Lib.hid (HB2.out.below hb3)
            have kp := plain_at ia ic im L0 W3 him (by omega) (HI.out W3 (Bk.be HB4.out)).1
            have cc0 := Blk.cell (HB4.out.nth 0 rfl) 0 (v := .int .i64 a) rfl
            have cc1 := Blk.cell (HB4.out.nth 0 rfl) 1 (v := .int .i64 p) rfl
            have cc2 := Blk.cell (HB4.out.nth 0 rfl) 2 (v := .int .i64 o) rfl
            have cc3 := Blk.cell (HB4.out.nth 0 rfl) 3 (v := .slice ia im ic) rfl
            have cc4 := Blk.cell (HB4.out.nth 0 rfl) 4 (v := .slice ea n ec) rfl
            have HD := Lib.hid hd3
            clear k2 hb3 hd3
            go_wp2_with fail
            (with_reducible refine (kp).mono ?_); rintro e1 W4 ⟨a4, c4, rfl, hd4, hb4⟩
            have HB5 := Lib.hid (HB4.out.below hb4)
            have ks := same_any a3 a4 c3 c4 im im L0 L0 W4 him him (by omega) (by omega) (HD.out.below (Nat.le_refl _) hb4) hd4
            rw [decide_eq_true rfl] at ks
            clear kp hb4 hd4 cc0 cc1 cc2 cc3 cc4 HB4 HD
            go_wp2_with fail
            (with_reducible refine (ks).mono ?_); rintro e1 W5 ⟨rfl, hb5⟩
            have HB6 := Lib.hid (HB5.out.below hb5)
            clear ks hb5
            go_wp2_with fail
            go_meet
            case rel => exact HB6.out
          · have t2 : (loopE L0 == 0) = false := by simpa using hx
            rw [if_neg hx]
            clear hx
            go_wp2_with fail
            go_meet
            case rel => exact HB2.out
        case rest =>
          have HC := Lib.hid hcut
          clear hcut HB2 HI him hl0 hL0
          have k1 := fun V (hb : Below w.heap.size w V) => body_any a p o (.slice ia im ic) ea n ec PS LL V HN.out (by omega) (HP.out.below hb) (fun L hL => by have := HF.out L hL; omega) (HE.out.below (Nat.le_refl _) hb)
          have c0 := Blk.cell (HC.out.nth 0 rfl) 0 (v := .int .i64 a) rfl
          have c1 := Blk.cell (HC.out.nth 0 rfl) 1 (v := .int .i64 p) rfl
          have c2 := Blk.cell (HC.out.nth 0 rfl) 2 (v := .int .i64 o) rfl
          have c3 := Blk.cell (HC.out.nth 0 rfl) 3 (v := .slice ia im ic) rfl
          have c4 := Blk.cell (HC.out.nth 0 rfl) 4 (v := .slice ea n ec) rfl
          have k2 := k1 wc (Bk.be HC.out)
          clear k1
          by_cases hx : bodyE a p o LL = 0
          · obtain ⟨r1, r2, r3, r4, r5⟩ := ri_body hx (by have := HLEN.out; omega)
            rw [hx] at k2
            have hsz : (bodyS a p o LL).size ≤ 100000 := body_size hx (by have := HLEN.out; omega)
            have kr := fun V => ri_any (extN a p o) (bodyS a p o LL) V hsz
            have ke := fun V => ext_any a p o (.slice ia im ic) (.slice ea n ec) V ⟨ia, im, ic, rfl⟩ ⟨ea, n, ec, rfl⟩
            obtain ⟨S, hS⟩ : ∃ S, bodyS a p o LL = S := ⟨_, rfl⟩
            obtain ⟨EX, hEX⟩ : ∃ EX, extN a p o = EX := ⟨_, rfl⟩
            rw [hS] at k2 kr r1 r2 r3 r4
            rw [hEX] at kr ke r1 r5
            have HR := Lib.hid (And.intro r1 (And.intro r2 (And.intro r3 (And.intro r4 r5))))
            clear hS hEX hsz hx r1 r2 r3 r4 r5
            go_wp2_with fail
            (with_reducible refine (k2).mono ?_); rintro e1 W2 ⟨rfl, hb2⟩
            have HB2 := Lib.hid (HC.out.below hb2)
            clear k2 hb2 HC c0 c1 c2 c3 c4
            have c0 := Blk.cell (HB2.out.nth 0 rfl) 0 (v := .int .i64 a) rfl
            have c1 := Blk.cell (HB2.out.nth 0 rfl) 1 (v := .int .i64 p) rfl
            have c2 := Blk.cell (HB2.out.nth 0 rfl) 2 (v := .int .i64 o) rfl
            have c3 := Blk.cell (HB2.out.nth 0 rfl) 3 (v := .slice ia im ic) rfl
            have c4 := Blk.cell (HB2.out.nth 0 rfl) 4 (v := .slice ea n ec) rfl
            go_wp2_with fail
            (with_reducible refine (ke _).mono ?_); rintro e1 W3 ⟨rfl, hb3⟩
            have HB3 := Lib.hid (HB2.out.below hb3)
            clear ke hb3 HB2 c0 c1 c2 c3 c4
            go_wp2_with fail
            (with_reducible refine (kr _).mono ?_); rintro e1 W4 ⟨⟨v, rfl, hz, hv⟩, hb4⟩
            obtain ⟨iv', ea', n', ec', PS', rfl, hn', hps', hse'⟩ := hv HR.out.1
            obtain ⟨ra, rb, rc, rd, re⟩ := HR.out
            rw [rb] at hps'
            rw [ra, rc, rd, re]
            have HB4 := Lib.hid (HB3.out.below hb4)
            have hnn : n' = n := by
              have h1 := hps'.1
              rw [lvs_len, hn'] at h1
              have := HLEN.out
              omega
            subst hnn
            obtain ⟨ja, jm, jc, rfl⟩ := hps'.sl (v := iv') (by simp [lvs])
            have HX := Lib.hid (And.intro hn' (And.intro hps' hse'))
            clear hz hv hb4 kr hn' hps' hse' ra rb rc rd re HB3
            go_wp2_with fail
            have HB5 := Lib.hid (Bk.new HB4.out 82 #[.int .i64 a, .int .i64 p, .int .i64 o, .slice ja jm jc, .slice ea' n' ec'])
            obtain ⟨gy, hgy⟩ : ∃ gy, W4.heap.size = gy := ⟨_, rfl⟩
            obtain ⟨V0, hV0⟩ : ∃ V0, W4.alloc (.cells #[.int .i64 a, .int .i64 p, .int .i64 o, .slice ja jm jc, .slice ea' n' ec'] 82) = V0 := ⟨_, rfl⟩
            have hbV : Below W4.heap.size W4 V0 := by rw [← hV0]; exact (Below.refl _ _).alloc (Nat.le_refl _) _
            have HX1 := Lib.hid (HX.out.2.1.below hbV)
            have HX2 := Lib.hid (HX.out.2.2.below (Nat.le_refl _) hbV)
            have hbe : Below w.heap.size w V0 := by rw [← hV0]; exact Bk.be HB5.out
            have HX3 := Lib.hid (HP.out.below hbe)
            have HX4 := Lib.hid (HE.out.below (Nat.le_refl _) hbe)
            rw [hV0, hgy] at HB5
            rw [hV0, hgy]
            have y0 := fun pX => Blk.cell (blk_ext (HB5.out.nth 0 rfl) pX) 0 (v := .int .i64 a) rfl
            have y1 := fun pX => Blk.cell (blk_ext (HB5.out.nth 0 rfl) pX) 1 (v := .int .i64 p) rfl
            have y2 := fun pX => Blk.cell (blk_ext (HB5.out.nth 0 rfl) pX) 2 (v := .int .i64 o) rfl
            have y3 := fun pX => Blk.cell (blk_ext (HB5.out.nth 0 rfl) pX) 3 (v := .slice ja jm jc) rfl
            have y4 := fun pX => Blk.cell (blk_ext (HB5.out.nth 0 rfl) pX) 4 (v := .slice ea' n' ec') rfl
            have z0 := fun pX => Blk.cell (blk_ext (HB5.out.nth 1 rfl) pX) 0 (v := .int .i64 a) rfl
            have z1 := fun pX => Blk.cell (blk_ext (HB5.out.nth 1 rfl) pX) 1 (v := .int .i64 p) rfl
            have z2 := fun pX => Blk.cell (blk_ext (HB5.out.nth 1 rfl) pX) 2 (v := .int .i64 o) rfl
            have z3 := fun pX => Blk.cell (blk_ext (HB5.out.nth 1 rfl) pX) 3 (v := .slice ia im ic) rfl
            have z4 := fun pX => Blk.cell (blk_ext (HB5.out.nth 1 rfl) pX) 4 (v := .slice ea n' ec) rfl
            clear hV0 hgy hbV
            refine Go.Proofs.Ytbceakdifklocaa.Rg.region_new_all [(4, pI a p o (1 + 2 * n') LL), (6, pI a p o (1 + 2 * n') LL), (7, val (.bool true)), (10, val (.bool true))] (by kernel_rfl) (by kernel_rfl) (by kernel_rfl) (lk_cons pI_inh (lk_cons pI_inh (lk_cons val_inh (lk_cons val_inh lk_nil)))) (lk_cons pI_mono (lk_cons pI_mono (lk_cons val_mono (lk_cons val_mono lk_nil)))) ?_
            intro σ hσ
            have hs7 : σ 7 = .bool true := hσ 7 _ rfl
            have hs10 : σ 10 = .bool true := hσ 10 _ rfl
            refine Go.Proofs.Ytbceakdifklocaa.Rg.wpN_take 4 (by kernel_rfl) (by kernel_rfl) (by kernel_rfl) ?_
            simp only [List.take_succ_cons, List.take_zero, List.drop_succ_cons, List.drop_zero]
            repeat (go_big_quiet_step (fail))
            refine wpQuiet_nil ?_
            refine wpN_sp _ rfl (by kernel_rfl) (spAt_pI a p o (.slice ja jm jc) ea' n' ec' PS' LL HX.out.1 (by omega) HX1.out (fun L hL => by have := HF.out L hL; omega) HX2.out (by intro w0; go_simp)) ?_
            simp only [Act.put, List.setIfInBounds_toArray, List.set_cons_zero, List.set_cons_succ]
            refine Go.Proofs.Ytbceakdifklocaa.Rg.wpN_take 1 (by kernel_rfl) (by kernel_rfl) (by kernel_rfl) ?_
            simp only [List.take_succ_cons, List.take_zero, List.drop_succ_cons, List.drop_zero]
            repeat (go_big_quiet_step (fail))
            refine wpQuiet_nil ?_
            refine wpN_sp _ rfl (by kernel_rfl) (spAt_pI a p o (.slice ia im ic) ea n' ec PS LL HN.out (by omega) HX3.out (fun L hL => by have := HF.out L hL; omega) HX4.out (by intro w0; go_simp)) ?_
            simp only [Act.put, List.setIfInBounds_toArray, List.set_cons_zero, List.set_cons_succ]
            refine wpN_sp _ rfl (by kernel_rfl) (spAt_val (f := 36) (args := #[σ 4, σ 6]) (by intro w0; go_simp) (fun pq hd => ?_)) ?_
            · obtain ⟨x1, d1, VS1, e1, s1, l1⟩ := dep_at hd 4 rfl (by kernel_rfl)
              obtain ⟨x2, d2, VS2, e2, s2, l2⟩ := dep_at hd 6 rfl (by kernel_rfl)
              rw [e1, e2]
              exact alike_any a p o x1 x2 (1 + 2 * n') d1 d2 VS1 VS2 LL _ (by have := HLEN.out; omega) (by omega) l1 l2 s1 s2 (fun L hL => by have := HF.out L hL; omega)
            simp only [Act.put, List.setIfInBounds_toArray, List.set_cons_zero, List.set_cons_succ]
            rw [hs7]
            refine Go.Proofs.Ytbceakdifklocaa.Rg.wpN_take 2 (by kernel_rfl) (by kernel_rfl) (by kernel_rfl) ?_
            simp only [List.take_succ_cons, List.take_zero, List.drop_succ_cons, List.drop_zero]
            repeat (go_big_quiet_step (fail))
            refine wpQuiet_nil ?_
            refine wpN_sp _ rfl (by kernel_rfl) (spAt_val (f := 10) (args := #[]) (by intro w0; go_simp) (fun pq _ => kaw _)) ?_
            simp only [Act.put, List.setIfInBounds_toArray, List.set_cons_zero, List.set_cons_succ]
            rw [hs10]
            refine Go.Proofs.Ytbceakdifklocaa.Rg.wpN_take 2 (by kernel_rfl) (by kernel_rfl) (by kernel_rfl) ?_
            simp only [List.take_succ_cons, List.take_zero, List.drop_succ_cons, List.drop_zero]
            repeat (go_big_quiet_step (fail))
            refine wpQuiet_nil ?_
            refine wpN_nil ?_
            rintro w9 ⟨pq, rfl⟩ hp
            have hEE := hbe.trans ((below_ext V0 pq).mono hbe.size)
            clear hp hσ hs7 hs10 y0 y1 y2 y3 y4 z0 z1 z2 z3 z4
            go_wp2_with fail
            go_ret
            exact ⟨rfl, hEE⟩
          · have hS : bodyS a p o LL = nob := by unfold bodyS; rw [if_neg hx]
            rw [hS] at k2
            obtain ⟨ER, hER⟩ : ∃ ER, bodyE a p o LL = ER := ⟨_, rfl⟩
            rw [hER] at hx k2
            have t2 : (ER != 0) = true := by simpa using hx
            clear hx hER hS
            go_wp2_with fail
            (with_reducible refine (k2).mono ?_); rintro e1 W2 ⟨rfl, hb2⟩
            have HB2 := Lib.hid (HC.out.below hb2)
            clear k2 hb2 HC c0 c1 c2 c3 c4
            go_wp2_with fail
            (with_reducible refine (kaw _).mono ?_); rintro e1 W3 ⟨rfl, hb3⟩
            have hE := Bk.be (HB2.out.below hb3)
            go_wp2_with fail
            go_ret
            exact ⟨rfl, hE⟩
theorem back_long (X : Sl) (Y : Pl) (a p o : Int) (iv : Value) (ea : Option Addr) (n ec : Nat) (w : World) (h300 : 300 < X.more.size) :
    Calls Try.prog 8 #[.agg X.vals, .agg Y.vals, .agg #[.int .i64 a, .int .i64 p, .int .i64 o, iv, .slice ea n ec]] w fun e w' => e = .returned (.bool true) ∧ Below w.heap.size w w' := by
  have t1 : decide (300 < (X.more.size : Int)) = true := by simp; omega
  have kaw := fun V => awake_any V
  have HB := Lib.hid (bk3 w 23 26 82 #[.bool X.sl, .bool X.fec, .int .i64 X.rows, .int .i64 X.burst, .int .i64 X.rate, .int .i64 X.id, .string X.more] #[.int .i64 Y.n, .int .i64 Y.o, .int .i64 Y.s, .int .i64 Y.v, .int .i64 Y.t] #[.int .i64 a, .int .i64 p, .int .i64 o, iv, .slice ea n ec])
  unfold Sl.vals Pl.vals
  clear h300
  go_enter Try.func8, Try.ntmps8
  go_wp2_with fail
  (with_reducible refine (kaw _).mono ?_); rintro e1 W2 ⟨rfl, hb2⟩
  have hE := Bk.be (HB.out.below hb2)
  go_wp2_with fail
  go_ret
  exact ⟨rfl, hE⟩
end Go.Proofs.Ytbceakdifklocaa.DwE
