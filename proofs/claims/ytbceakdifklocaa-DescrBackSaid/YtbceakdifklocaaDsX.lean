/- DescrLoops, walked. -/
import Derived.Test.YtbceakdifklocaaDsW
import Derived.Test.YtbceakdifklocaaDsT
namespace Go.Proofs.Ytbceakdifklocaa.DsX
open Go.RowKit Go.Proofs.Ytbceakdifklocaa.Q Go.Proofs.Ytbceakdifklocaa.Mem Go.Proofs.Ytbceakdifklocaa.DsA Go.Proofs.Ytbceakdifklocaa.DsB Go.Proofs.Ytbceakdifklocaa.DsC Go.Proofs.Ytbceakdifklocaa.DsD Go.Proofs.Ytbceakdifklocaa.DsE Go.Proofs.Ytbceakdifklocaa.DsI Go.Proofs.Ytbceakdifklocaa.DsP Go.Proofs.Ytbceakdifklocaa.DsQ Go.Proofs.Ytbceakdifklocaa.DsR Go.Proofs.Ytbceakdifklocaa.DsS Go.Proofs.Ytbceakdifklocaa.DsT Go.Proofs.Ytbceakdifklocaa.DsU Go.Proofs.Ytbceakdifklocaa.DsW Go.Proofs.Ytbceakdifklocaa.Rg Go.Proofs.Ytbceakdifklocaa.Ap

theorem prs_len : ∀ (n : Nat) (l : List UInt8) (A : List Dc), l.length ≤ n → prs l = some A → 2 * A.length ≤ l.length
  | _, [], A, _, h => by rw [prs] at h; injection h with h; subst h; simp
  | _, [_], A, _, h => by rw [prs] at h; cases h
  | 0, _ :: _ :: _, _, hn, _ => by simp at hn
  | n + 1, t :: x :: r, A, hn, h => by
    rw [prs] at h
    split at h
    · cases h
    · cases hp : prs (r.drop x.toNat) with
      | none => rw [hp] at h; cases h
      | some B =>
        rw [hp] at h
        injection h with h
        have := prs_len n (r.drop x.toNat) B (by simp at hn ⊢; omega) hp
        subst h
        simp at this ⊢
        omega
theorem prsL_len (s : ByteArray) : (prsL s).length ≤ 4200 := by
  unfold prsL
  split
  · simp
  · cases hp : prs s.data.toList with
    | none => simp
    | some A =>
      have := prs_len _ _ A (Nat.le_refl _) hp
      have e : s.data.toList.length = s.size := Array.length_toList
      simp only [Option.getD_some]
      omega
theorem first_uniq {tag : Int} {L : List Dc} {i k : Nat} {d x : Dc} (h : First tag L i d) (hx : L[k]? = some x) (ht : x.tag = tag) (hk : ∀ (j : Nat), j < k → ∀ (y : Dc), L[j]? = some y → y.tag ≠ tag) : d = x := by
  obtain ⟨h1, h2, h3⟩ := h
  have : i = k := by
    rcases Nat.lt_trichotomy i k with hlt | he | hlt
    · exact absurd h2 (hk i hlt d h1)
    · exact he
    · exact absurd ht (h3 k hlt x hx)
  subst this
  rw [h1] at hx; injection hx

set_option maxRecDepth 100000
theorem loops_many (a : Option Addr) (n c : Nat) (L : List Dc) (s : ByteArray) (tag : Int) (w : World) (hL : SlD w a n c L) (hn : n ≤ 9223372036854775807) (h : few L = false ∨ 4200 < s.size) :
    Calls Try.prog 6 #[.slice a n c, .string s, .int .i64 tag] w fun e w' => e = .returned (.bool true) ∧ Below w.heap.size w w' := by
  have k1 := few_at a c n L w hL.len hn hL.ds
  cases h1 : few L with
  | false =>
    rw [h1] at k1
    clear h h1 hL
    go_enter Try.func6, Try.ntmps6
    go_wp2_with fail
    (with_reducible refine (k1).mono ?_); rintro e W1 ⟨rfl, rfl⟩
    clear k1
    go_wp2_with fail
    (with_reducible refine (awake_any _).mono ?_); rintro e W1 ⟨rfl, hb1⟩
    go_wp2_with fail
    go_ret
    exact ⟨rfl, hb1⟩
  | true =>
    have t1 : decide (4200 < (s.size : Int)) = true := by
      have : 4200 < s.size := by rcases h with h | h <;> simp_all
      simp; omega
    rw [h1] at k1
    clear h h1 hL
    go_enter Try.func6, Try.ntmps6
    go_wp2_with fail
    (with_reducible refine (k1).mono ?_); rintro e W1 ⟨rfl, rfl⟩
    clear k1
    go_wp2_with fail
    (with_reducible refine (awake_any _).mono ?_); rintro e W1 ⟨rfl, hb1⟩
    go_wp2_with fail
    go_ret
    exact ⟨rfl, hb1⟩

set_option maxHeartbeats 3200000 in
theorem loops_go (a : Option Addr) (n c : Nat) (L : List Dc) (s : ByteArray) (tag : Int) (w : World) (hL : SlD w a n c L) (h1 : few L = true) (h2 : ¬ 4200 < s.size) :
    Calls Try.prog 6 #[.slice a n c, .string s, .int .i64 tag] w fun e w' => e = .returned (.bool true) ∧ Below w.heap.size w w' := by
  have hn : n ≤ 40 := by have := few_true h1; have := hL.len; omega
  have k1 := few_at a c n L w hL.len (by omega) hL.ds
  rw [h1] at k1
  have t1 : decide (4200 < (s.size : Int)) = false := by simp; omega
  have HL := Lib.hid hL
  have hlen := hL.len
  have k2 := fun V h => loop_at a c n L V hlen (by omega) h
  have k3 := fun V h => plain_at a c n L V hlen (by omega) h
  have k4 := fun V a c h => rloop_any a c n L V hlen (by omega) h
  have k5 := fun V => parse_any s V
  have k6 := fun V => rparse_any s V
  have k7 := fun V h => find_any tag a c n L V hlen (by omega) h
  obtain ⟨u, hu⟩ : ∃ u, (if loopE L = 0 then str (loopL L) else nob) = u := ⟨_, rfl⟩
  obtain ⟨f, hf⟩ : ∃ f, loopE L = f := ⟨_, rfl⟩
  obtain ⟨A, hA⟩ : ∃ A, prsL s = A := ⟨_, rfl⟩
  obtain ⟨g, hg⟩ : ∃ g, prsE s = g := ⟨_, rfl⟩
  rw [hu, hf] at k2 k4
  rw [hA, hg] at k5 k6
  have hAl : A.length ≤ 4200 := by rw [← hA]; exact prsL_len s
  have t2 : (u.toList == u.toList) = true := by simp
  have t3 : (f != f) = false := by simp
  have t4 : (g != g) = false := by simp
  clear hL h1 h2 hu hf hA hg
  go_enter Try.func6, Try.ntmps6
  go_wp2_with fail
  (with_reducible refine (k1).mono ?_); rintro e1 W1 ⟨rfl, rfl⟩
  clear k1
  go_wp2_with fail
  (with_reducible refine (k2 _ HL.out.ds).mono ?_); rintro e1 W1 ⟨rfl, hb1⟩
  have HL1 := Lib.hid (HL.out.below hb1)
  clear k2
  go_wp2_with fail
  (with_reducible refine (k3 _ HL1.out.ds).mono ?_); rintro e1 W2 ⟨a2, c2, rfl, hd2, hb2⟩
  have HL2 := Lib.hid (HL1.out.below hb2)
  have hb3 := hb1.trans (hb2.mono hb1.size)
  clear k3 HL1 hb1 hb2
  go_wp2_with fail
  (with_reducible refine (k4 _ _ _ hd2).mono ?_); rintro e1 W3 ⟨rfl, hb4⟩
  have HL3 := Lib.hid (HL2.out.below hb4)
  have hb5 := hb3.trans (hb4.mono hb3.size)
  clear k4 HL2 hb3 hb4 hd2
  go_wp2_with fail
  (with_reducible refine (k5 _).mono ?_); rintro e1 W4 ⟨a4, c4, rfl, hd4, hb6⟩
  have HL4 := Lib.hid (HL3.out.below hb6)
  have hb7 := hb5.trans (hb6.mono hb5.size)
  clear k5 HL3 hb5 hb6
  go_wp2_with fail
  (with_reducible refine (k6 _).mono ?_); rintro e1 W5 ⟨a5, c5, rfl, hd5, hb8⟩
  have HL5 := Lib.hid (HL4.out.below hb8)
  have hb9 := hb7.trans (hb8.mono hb7.size)
  have ks := same_any a4 a5 c4 c5 A.length A.length A A W5 rfl rfl (by omega) (by omega) (hd4.below (Nat.le_refl _) hb8) hd5
  rw [show decide (A = A) = true by simp] at ks
  clear k6 HL4 hb7 hb8 hd4 hd5
  go_wp2_with fail
  (with_reducible refine (ks).mono ?_); rintro e1 W6 ⟨rfl, hb10⟩
  have HL6 := Lib.hid (HL5.out.below hb10)
  have hb11 := hb9.trans (hb10.mono hb9.size)
  clear ks HL5 hb9 hb10
  go_wp2_with fail
  (with_reducible refine (k7 _ HL6.out.ds).mono ?_); rintro e1 W7 ⟨⟨d, x, rfl, hF⟩, hb12⟩
  have HL7 := Lib.hid (HL6.out.below hb12)
  have hb13 := hb11.trans (hb12.mono hb11.size)
  have HF := Lib.hid hF
  clear k7 HL6 hb11 hb12 hF
  go_wp2_with fail
  have HB := Lib.hid (Blk.new W7 30 #[.int .i64 d.tag, .string d.body])
  have HL8 := Lib.hid (HL7.out.below (le_below (le_alloc W7 (.cells #[.int .i64 d.tag, .string d.body] 30))))
  have hb14 := hb13.alloc hb13.size (.cells #[.int .i64 d.tag, .string d.body] 30)
  obtain ⟨W8, hW8⟩ : ∃ W8, W7.alloc (.cells #[.int .i64 d.tag, .string d.body] 30) = W8 := ⟨_, rfl⟩
  rw [hW8] at HB HL8 hb14 ⊢
  clear HL7 hb13 hW8
  go_loop [17] (fun i => ∃ k : Nat, k ≤ n ∧ i = .int .i64 k ∧ Hid (∀ (j : Nat), j < k → ∀ (y : Dc), L[j]? = some y → y.tag ≠ tag)) (fun i => n - (intOf i).toNat)
  case atStart => exact ⟨0, by omega, rfl, Lib.hid (fun j hj => by omega)⟩
  case round =>
    obtain ⟨k, hk, rfl, hI⟩ := hrel
    by_cases hkl : k < n
    · have t0 : decide ((k : Int) < (n : Int)) = true := by simp; omega
      obtain ⟨y, hy⟩ : ∃ y, L[k]? = some y := ⟨L[k], List.getElem?_eq_getElem (by omega)⟩
      obtain ⟨b1, o1, rfl, l1, c0, c1⟩ := HL8.out.ds k y hy
      have hk0 : (0 : Int) ≤ (k : Int) := Int.natCast_nonneg _
      have hk1 : (k : Int) < (n : Int) := by omega
      by_cases hyt : y.tag = tag
      · have t5 : (y.tag == tag) = true := by simpa using hyt
        have hd : x = 0 ∧ d = y := by
          rcases HF.out with ⟨h0, i, hi⟩ | ⟨_, _, hN⟩
          · exact ⟨h0, first_uniq hi hy hyt hI.out⟩
          · exact absurd hyt (hN k y hy)
        obtain ⟨rfl, rfl⟩ := hd
        have e1 : ∀ V : World, (Op.equalIn 10000 30 (.agg #[.int .i64 d.tag, .string d.body]) (.agg #[.int .i64 d.tag, .string d.body])).run Try.prog V = .ok true V := fun V => by rw [eqD]; simp
        have z0 := fun pX => Blk.cell (blk_ext (HB.out) pX) 0 (v := .int .i64 d.tag) rfl
        have z1 := fun pX => Blk.cell (blk_ext (HB.out) pX) 1 (v := .string d.body) rfl
        have f0 := fun p => cell_ext l1 c0 p
        have f1 := fun p => cell_ext l1 c1 p
        clear hyt hy hI HF HB HL8
        go_wp2_with fail
        refine Go.Proofs.Ytbceakdifklocaa.Q.region_ext (by kernel_rfl) (by kernel_rfl) ?_
        repeat (go_big_quiet_step ((go_at_call 10; refine ext_call (awake_any _))))
        refine wpQuiet_nil ?_
        rintro w9 ⟨pq, rfl⟩
        have hb15 := hb14.trans ((below_ext _ pq).mono hb14.size)
        clear z0 z1 f0 f1 c0 c1 e1 hb14
        go_wp2_with fail
        go_ret
        exact ⟨rfl, hb15⟩
      · have t5 : (y.tag == tag) = false := by simpa using hyt
        have HI := Lib.hid (show ∀ (j : Nat), j < k + 1 → ∀ (z : Dc), L[j]? = some z → z.tag ≠ tag from fun j hj z hz => by
          rcases Nat.lt_or_ge j k with h | h
          · exact hI.out j h z hz
          · obtain rfl : j = k := by omega
            rw [hy] at hz; injection hz with hz; rw [← hz]; exact hyt)
        clear hyt hy hI
        go_wp2_with fail
        go_round
        case rel => exact ⟨k + 1, by omega, by go_num, HI⟩
        case measure => simp [intOf]; omega
    · obtain rfl : k = n := by omega
      have t0 : decide ((k : Int) < (k : Int)) = false := by simp
      have hd : x = 18 ∧ d = ⟨0, nob⟩ := by
        rcases HF.out with ⟨_, i, hi⟩ | ⟨h0, h1, _⟩
        · exact absurd hi.2.1 (hI.out i (by rw [← hlen]; exact (List.getElem?_eq_some_iff.1 hi.1).1) d hi.1)
        · exact ⟨h0, h1⟩
      obtain ⟨rfl, rfl⟩ := hd
      have e1 : ∀ V : World, (Op.equalIn 10000 30 (.agg #[.int .i64 0, .string { data := #[] }]) (.agg #[.int .i64 0, .string { data := #[] }])).run Try.prog V = .ok true V := fun V => by rw [eqD ⟨0, nob⟩ ⟨0, nob⟩ V]; simp
      have z0 := Blk.cell (HB.out) 0 (v := .int .i64 0) rfl
      have z1 := Blk.cell (HB.out) 1 (v := .string { data := #[] }) rfl
      clear hI HF HB HL8
      go_wp2_with fail
      (with_reducible refine (awake_any _).mono ?_); rintro e1 W9 ⟨rfl, hb15⟩
      have hb16 := hb14.trans (hb15.mono hb14.size)
      clear z0 z1 e1 hb14 hb15
      go_wp2_with fail
      go_ret
      exact ⟨rfl, hb16⟩
theorem loops_any (a : Option Addr) (n c : Nat) (L : List Dc) (s : ByteArray) (tag : Int) (w : World) (hL : SlD w a n c L) (hn : n ≤ 9223372036854775807) :
    Calls Try.prog 6 #[.slice a n c, .string s, .int .i64 tag] w fun e w' => e = .returned (.bool true) ∧ Below w.heap.size w w' := by
  cases h1 : few L with
  | false => exact loops_many a n c L s tag w hL hn (Or.inl h1)
  | true =>
    by_cases h2 : 4200 < s.size
    · exact loops_many a n c L s tag w hL hn (Or.inr h2)
    · exact loops_go a n c L s tag w hL h1 h2
end Go.Proofs.Ytbceakdifklocaa.DsX
