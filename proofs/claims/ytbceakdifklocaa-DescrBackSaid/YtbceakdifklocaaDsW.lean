/- DescrJoins, walked. -/
import Derived.Test.YtbceakdifklocaaDsU
import Derived.Test.YtbceakdifklocaaDsS
import Derived.Laws.AppendOwn
namespace Go.Proofs.Ytbceakdifklocaa.DsW
open Go.RowKit Go.Proofs.Ytbceakdifklocaa.Q Go.Proofs.Ytbceakdifklocaa.Mem Go.Proofs.Ytbceakdifklocaa.DsA Go.Proofs.Ytbceakdifklocaa.DsB Go.Proofs.Ytbceakdifklocaa.DsC Go.Proofs.Ytbceakdifklocaa.DsD Go.Proofs.Ytbceakdifklocaa.DsE Go.Proofs.Ytbceakdifklocaa.DsI Go.Proofs.Ytbceakdifklocaa.DsP Go.Proofs.Ytbceakdifklocaa.DsQ Go.Proofs.Ytbceakdifklocaa.DsR Go.Proofs.Ytbceakdifklocaa.DsS Go.Proofs.Ytbceakdifklocaa.DsU Go.Proofs.Ytbceakdifklocaa.Rg Go.Proofs.Ytbceakdifklocaa.Ap

/-- a slice as it came in, or as one's own -/
structure SlD (w : World) (a : Option Addr) (n c : Nat) (L : List Dc) : Prop where
  len : L.length = n
  nil : a = none → n = 0 ∧ c = 0
  form : ∀ a', a = some a' → ∃ b o, a' = ⟨b, o, none⟩
  ds : Ds w a L
theorem SlD.below {w w' : World} {a : Option Addr} {n c : Nat} {L : List Dc} (h : SlD w a n c L) (hb : Below w.heap.size w w') : SlD w' a n c L := ⟨h.len, h.nil, h.form, h.ds.below (Nat.le_refl _) hb⟩
theorem few_true {L : List Dc} (h : few L = true) : L.length ≤ 40 := by
  unfold few at h
  simp only [Bool.and_eq_true, decide_eq_true_eq] at h
  exact h.2
theorem loop_at (a : Option Addr) (c n : Nat) (L : List Dc) (w : World) (hn : L.length = n) (hl : n ≤ 1000000) (hL : Ds w a L) :
    Calls Try.prog 18 #[.slice a n c] w fun e w' => e = .returned (.tuple #[.string (if loopE L = 0 then str (loopL L) else nob), .int .i64 (loopE L)]) ∧ Below w.heap.size w w' := by
  subst hn
  exact loop_any a c L w hl hL
theorem few_at (a : Option Addr) (c n : Nat) (L : List Dc) (w : World) (hn : L.length = n) (hl : n ≤ 9223372036854775807) (hL : Ds w a L) :
    Calls Try.prog 17 #[.slice a n c] w fun e w' => e = .returned (.bool (few L)) ∧ w = w' := by
  subst hn
  exact few_any a c L w hl hL
theorem plain_at (a : Option Addr) (c n : Nat) (L : List Dc) (w : World) (hn : L.length = n) (hl : n ≤ 1000000) (hL : Ds w a L) :
    Calls Try.prog 21 #[.slice a n c] w fun e w' => ∃ a' c', e = .returned (.slice a' n c') ∧ Ds w' a' L ∧ Below w.heap.size w w' := by
  subst hn
  exact plain_any a c L w hl hL

set_option maxRecDepth 100000
theorem joins_many (a b : Option Addr) (n m c d : Nat) (L M : List Dc) (w : World) (hL : SlD w a n c L) (hM : SlD w b m d M) (hn : n ≤ 9223372036854775807) (hm : m ≤ 9223372036854775807) (h : few L = false ∨ few M = false) :
    Calls Try.prog 5 #[.slice a n c, .slice b m d] w fun e w' => e = .returned (.bool true) ∧ Below w.heap.size w w' := by
  have k1 := few_at a c n L w hL.len hn hL.ds
  have k2 := few_at b d m M w hM.len hm hM.ds
  cases h1 : few L with
  | false =>
    rw [h1] at k1
    clear k2 h h1 hL hM
    go_enter Try.func5, Try.ntmps5
    go_wp2_with fail
    (with_reducible refine (k1).mono ?_); rintro e W1 ⟨rfl, rfl⟩
    clear k1
    go_wp2_with fail
    (with_reducible refine (awake_any _).mono ?_); rintro e W1 ⟨rfl, hb1⟩
    go_wp2_with fail
    go_ret
    exact ⟨rfl, hb1⟩
  | true =>
    have h2 : few M = false := by rcases h with h | h <;> simp_all
    rw [h1] at k1
    rw [h2] at k2
    clear h h1 h2 hL hM
    go_enter Try.func5, Try.ntmps5
    go_wp2_with fail
    (with_reducible refine (k1).mono ?_); rintro e W1 ⟨rfl, rfl⟩
    clear k1
    go_wp2_with fail
    (with_reducible refine (k2).mono ?_); rintro e W1 ⟨rfl, rfl⟩
    clear k2
    go_wp2_with fail
    (with_reducible refine (awake_any _).mono ?_); rintro e W1 ⟨rfl, hb1⟩
    go_wp2_with fail
    go_ret
    exact ⟨rfl, hb1⟩

set_option maxHeartbeats 3200000 in
theorem joins_go (a b : Option Addr) (n m c d : Nat) (L M : List Dc) (w : World) (hL : SlD w a n c L) (hM : SlD w b m d M) (h1 : few L = true) (h2 : few M = true) :
    Calls Try.prog 5 #[.slice a n c, .slice b m d] w fun e w' => e = .returned (.bool true) ∧ Below w.heap.size w w' := by
  have hn : n ≤ 40 := by have := few_true h1; have := hL.len; omega
  have hm : m ≤ 40 := by have := few_true h2; have := hM.len; omega
  have k1 := few_at a c n L w hL.len (by omega) hL.ds
  have k2 := few_at b d m M w hM.len (by omega) hM.ds
  rw [h1] at k1
  rw [h2] at k2
  have HL := Lib.hid hL
  have HM := Lib.hid hM
  have k3 := fun V h => loop_at a c n L V HL.out.len (by omega) h
  have k4 := fun V h => loop_at b d m M V HM.out.len (by omega) h
  obtain ⟨e, he⟩ : ∃ e, loopE L = e := ⟨_, rfl⟩
  obtain ⟨f, hf⟩ : ∃ f, loopE M = f := ⟨_, rfl⟩
  obtain ⟨g, hg⟩ : ∃ g, loopE (L ++ M) = g := ⟨_, rfl⟩
  obtain ⟨s, hs⟩ : ∃ s, (if e = 0 then str (loopL L) else nob) = s := ⟨_, rfl⟩
  obtain ⟨t, ht⟩ : ∃ t, (if f = 0 then str (loopL M) else nob) = t := ⟨_, rfl⟩
  obtain ⟨u, hu⟩ : ∃ u, (if g = 0 then str (loopL (L ++ M)) else nob) = u := ⟨_, rfl⟩
  rw [he, hs] at k3
  rw [hf, ht] at k4
  have k5 := fun V a c (h : Ds V a (L ++ M)) => loop_at a c (n + m) (L ++ M) V (by rw [List.length_append, HL.out.len, HM.out.len]) (by omega) h
  rw [hg, hu] at k5
  have HE := Lib.hid (And.intro he (And.intro hf hg))
  have HS := Lib.hid (And.intro hs (And.intro ht hu))
  clear he hf hg hs ht hu h1 h2 hL hM
  go_enter Try.func5, Try.ntmps5
  go_wp2_with fail
  (with_reducible refine (k1).mono ?_); rintro e1 W1 ⟨rfl, rfl⟩
  clear k1
  go_wp2_with fail
  (with_reducible refine (k2).mono ?_); rintro e1 W1 ⟨rfl, rfl⟩
  clear k2
  go_wp2_with fail
  (with_reducible refine (k3 _ HL.out.ds).mono ?_); rintro e1 W1 ⟨rfl, hb1⟩
  have HL1 := Lib.hid (HL.out.below hb1)
  have HM1 := Lib.hid (HM.out.below hb1)
  clear k3
  go_wp2_with fail
  (with_reducible refine (k4 _ HM1.out.ds).mono ?_); rintro e1 W2 ⟨rfl, hb2⟩
  have HL2 := Lib.hid (HL1.out.below hb2)
  have HM2 := Lib.hid (HM1.out.below hb2)
  have hb3 := hb1.trans (hb2.mono hb1.size)
  have hown := World.ownsRow_nil W2 W2.heap.size 30 2
  clear k4 HL1 HM1 hb1 hb2
  go_wp2_with (first
    | (at_builtin; refine wpList_appS (A := []) (L := L) (n := 0) (m := n) rfl _ _ rfl enD_len enD_one elemD rfl rfl hown rfl HL2.out.len HL2.out.nil (ds_seq HL2.out.ds) HL2.out.form (by omega) (by unfold maxLen; omega) (Nat.le_refl _) ?_; intro v9 w8 hown9 hb8)
    | (at_builtin; go_loud (refine wpList_appS (A := [] ++ L) (L := M) (n := 0 + n) (m := m) rfl _ _ rfl enD_len enD_one elemD rfl (by have := HL2.out.len; simpa using this) hown9 rfl HM2.out.len HM2.out.nil (ds_seq (HM2.out.below hb8).ds) HM2.out.form (by omega) (by unfold maxLen; omega) hb8.size ?_); intro v7 w7 hown7 hb7) | fail)
  have h7 : w7.ownsRow W2.heap.size 30 2 v7 (n + m) (flat enD (L ++ M)) := by simpa using hown7
  obtain ⟨a7, c7, rfl⟩ := own_form h7
  have hlen : (L ++ M).length = n + m := by rw [List.length_append, HL.out.len, HM.out.len]
  have D7 : Ds w7 a7 (L ++ M) := seq_ds (own_seq enD_len h7 hlen)
  have hb9 : Below w.heap.size w w7 := hb3.trans ((hb8.trans hb7).mono hb3.size)
  (with_reducible refine (k5 _ _ _ D7).mono ?_); rintro e1 W3 ⟨rfl, hb4⟩
  have hb10 := hb9.trans (hb4.mono hb9.size)
  have D8 := Lib.hid (D7.below (Nat.le_refl _) hb4)
  clear hown hown9 hown7 h7 hb9 hb8 hb7 hb4 D7 k5 hb3 HL2 HM2
  obtain ⟨he, hf, hg⟩ := HE.out
  obtain ⟨hs, ht, hu⟩ := HS.out
  have ss : s.size ≤ 4095 := by
    rw [← hs]; split
    · rw [str_size]; exact (loop_ok (by rw [he]; assumption)).2
    · decide
  have st : t.size ≤ 4095 := by
    rw [← ht]; split
    · rw [str_size]; exact (loop_ok (by rw [hf]; assumption)).2
    · decide
  have q1 : IntKind.i64.wrap ((s.size : Int) + (t.size : Int)) = (s.size : Int) + (t.size : Int) := by rw [IntKind.wrap_i64]; omega
  have nobE : nob.toList.isEmpty = true := by rw [isEmpty_iff]; decide
  by_cases e0 : e = 0
  · by_cases f0 : f = 0
    · by_cases hlong : 4095 < s.size + t.size
      · have g0 : g ≠ 0 := by rw [← hg]; exact join_bad3 (by rw [he, e0]) (by rw [hf, f0]) (by rw [← str_size, ← str_size]; rw [if_pos e0] at hs; rw [if_pos f0] at ht; rw [hs, ht]; exact hlong)
        rw [if_neg g0] at hu
        subst hu
        have t5 : (g != 0) = true := by simpa using g0
        have t1 : (e != 0) = false := by simpa using e0
        have t2 : (f != 0) = false := by simpa using f0
        have t3 : decide (4095 < (s.size : Int) + (t.size : Int)) = true := decide_eq_true (by omega)
        clear he hf hg hs ht ss st HE HS e0 g0
        go_wp2_with fail
        (with_reducible refine (awake_any _).mono ?_); rintro e1 W4 ⟨rfl, hb5⟩
        have hb11 := hb10.trans (hb5.mono hb10.size)
        clear hb10 hb5
        go_wp2_with fail
        go_ret
        exact ⟨rfl, hb11⟩
      · have t1 : (e != 0) = false := by simpa using e0
        have t2 : (f != 0) = false := by simpa using f0
        have t3 : decide (4095 < (s.size : Int) + (t.size : Int)) = false := by simp; omega
        rw [if_pos e0] at hs
        rw [if_pos f0] at ht
        have g0 : g = 0 := by rw [← hg]; exact join_good (by rw [he, e0]) (by rw [hf, f0]) (by rw [← str_size, ← str_size, hs, ht]; omega)
        rw [if_pos g0] at hu
        have hst : s ++ t = u := by rw [← hs, ← ht, ← hu, str_app, loop_app]
        have hadd : ∀ U : World, (Op.stringOp .add s t).run Try.prog U = .ok (.string u) U := fun U => by rw [← hst]; exact run_string_add_sum U _ _ (by omega)
        have t4 : (u.toList == u.toList) = true := by simp
        have kp := fun V => parse_any u V
        obtain ⟨pj1, pj2⟩ := prs_joined (L := L ++ M) (by rw [hg, g0])
        rw [hu] at pj1 pj2
        rw [pj1, pj2] at kp
        subst g0
        have hE := Lib.hid e0
        have kq := fun V h => plain_at a7 c7 (n + m) (L ++ M) V hlen (by omega) h
        clear he hf hg hs ht hu ss st HE HS pj1 pj2 e0 f0 hlong hst
        go_wp2_with fail
        (with_reducible refine (kp _).mono ?_); rintro e1 W4 ⟨a8, c8, rfl, D9, hb5⟩
        have D8b := D8.out.below (Nat.le_refl _) hb5
        have hb11 := hb10.trans (hb5.mono hb10.size)
        clear kp D8 hb10 hb5
        go_wp2_with fail
        (with_reducible refine (kq _ D8b).mono ?_); rintro e1 W5 ⟨a9, c9, rfl, D10, hb6⟩
        have D9b := D9.below (Nat.le_refl _) hb6
        have hb12 := hb11.trans (hb6.mono hb11.size)
        have ks := same_any a8 a9 c8 c9 (n + m) (n + m) (L ++ M) (L ++ M) W5 hlen hlen (by omega) (by omega) D9b D10
        rw [show decide (L ++ M = L ++ M) = true by simp] at ks
        clear kq D8b D9 D9b D10 hb11 hb6
        go_wp2_with fail
        (with_reducible refine (ks).mono ?_); rintro e1 W6 ⟨rfl, hb7⟩
        have hb13 := hb12.trans (hb7.mono hb12.size)
        clear ks hb12 hb7
        go_wp2_with fail
        (with_reducible refine (awake_any _).mono ?_); rintro e1 W7 ⟨rfl, hb8⟩
        have hb14 := hb13.trans (hb8.mono hb13.size)
        clear hb13 hb8
        go_wp2_with fail
        go_ret
        exact ⟨rfl, hb14⟩
    · have g0 : g ≠ 0 := by rw [← hg]; exact join_bad2 (by rw [he, e0]) (by rw [hf]; exact f0)
      rw [if_neg g0] at hu
      subst hu
      have t5 : (g != 0) = true := by simpa using g0
      have t1 : (e != 0) = false := by simpa using e0
      have t2 : (f != 0) = true := by simpa using f0
      skip
      clear he hf hg hs ht ss st HE HS e0 g0
      go_wp2_with fail
      (with_reducible refine (awake_any _).mono ?_); rintro e1 W4 ⟨rfl, hb5⟩
      have hb11 := hb10.trans (hb5.mono hb10.size)
      clear hb10 hb5
      go_wp2_with fail
      go_ret
      exact ⟨rfl, hb11⟩
  · have g0 : g ≠ 0 := by rw [← hg]; exact join_bad1 (by rw [he]; exact e0)
    rw [if_neg g0] at hu
    subst hu
    have t5 : (g != 0) = true := by simpa using g0
    have t1 : (e != 0) = true := by simpa using e0
    skip
    skip
    clear he hf hg hs ht ss st HE HS e0 g0
    go_wp2_with fail
    (with_reducible refine (awake_any _).mono ?_); rintro e1 W4 ⟨rfl, hb5⟩
    have hb11 := hb10.trans (hb5.mono hb10.size)
    clear hb10 hb5
    go_wp2_with fail
    go_ret
    exact ⟨rfl, hb11⟩
theorem joins_any (a b : Option Addr) (n m c d : Nat) (L M : List Dc) (w : World) (hL : SlD w a n c L) (hM : SlD w b m d M) (hn : n ≤ 9223372036854775807) (hm : m ≤ 9223372036854775807) :
    Calls Try.prog 5 #[.slice a n c, .slice b m d] w fun e w' => e = .returned (.bool true) ∧ Below w.heap.size w w' := by
  cases h1 : few L with
  | false => exact joins_many a b n m c d L M w hL hM hn hm (Or.inl h1)
  | true =>
    cases h2 : few M with
    | false => exact joins_many a b n m c d L M w hL hM hn hm (Or.inr h2)
    | true => exact joins_go a b n m c d L M w hL hM h1 h2
end Go.Proofs.Ytbceakdifklocaa.DsW
