/- SliceMany: the walk (the chapter's example is still a hypothesis: kaw). -/
import Derived.Test.YteabmloeopoehaaSlP
namespace Go.Proofs.Yteabmloeopoehaa.SlQ
open Go Go.RowKit Go.Proofs.Yteabmloeopoehaa.Q Go.Proofs.Yteabmloeopoehaa.Mem Go.Proofs.Yteabmloeopoehaa.Rg Go.Proofs.Yteabmloeopoehaa.Ap Go.Proofs.Yteabmloeopoehaa.St Go.Proofs.Yteabmloeopoehaa.CrB Go.Proofs.Yteabmloeopoehaa.CrC Go.Proofs.Yteabmloeopoehaa.SeI Go.Proofs.Yteabmloeopoehaa.SeC Go.Proofs.Yteabmloeopoehaa.DgN Go.Proofs.Yteabmloeopoehaa.MpA Go.Proofs.Yteabmloeopoehaa.MpP Go.Proofs.Yteabmloeopoehaa.PaA Go.Proofs.Yteabmloeopoehaa.PaK Go.Proofs.Yteabmloeopoehaa.PaP Go.Proofs.Yteabmloeopoehaa.SlM Go.Proofs.Yteabmloeopoehaa.SlA Go.Proofs.Yteabmloeopoehaa.SlB Go.Proofs.Yteabmloeopoehaa.SlC Go.Proofs.Yteabmloeopoehaa.SlP

theorem len_le (p : Pc) : p.len ≤ 4000 := by unfold Pc.len; omega
theorem bytes_size (p : Pc) (h : p.text.size ≤ 5000) (hb : p.b < 256) : p.bytes.size ≤ 5000 := by
  have hl := len_le p
  unfold Pc.bytes
  split
  · split
    · have h1 := gramP_ok p.b p.len hb hl
      have h2 := enc_size h1
      have h3 : (gramP p.b p.len).enc = bytesS (gramP p.b p.len).sec := if_pos h1
      have h4 : (gramP p.b p.len).text.size = 20 + (str (bodyL p.b p.len)).size := (mk_ok _ _ _ 17 rfl rfl (by rw [← bl_len, bl_str, body_len]; omega)).2
      have h5 : (str (bodyL p.b p.len)).size = p.len := by rw [← bl_len, bl_str, body_len]
      rw [← h3, h2, h4, h5]
      omega
    · rw [← bl_len, bl_str, seal_len, List.length_append, body_len]
      show 8 + p.len + 4 ≤ 5000
      omega
  · exact h
theorem each_le : ∀ {S : List ByteArray}, (∀ s ∈ S, s.size ≤ 5000) → eachN S ≤ 28 * S.length
  | [], _ => by simp [eachN]
  | x :: t, h => by
    have h1 := manyN_le (S := [x]) (B := 5000) (by intro y hy; simp at hy; subst hy; exact h y (by simp))
    have h2 := each_le (S := t) (fun s hs => h s (by simp [hs]))
    unfold eachN at h2 ⊢
    simp only [List.map_cons, List.sum_cons, List.length_cons] at h1 h2 ⊢
    simp at h1
    omega
/-- what is wrong with the first q -/
def want (n : Nat) (S : List ByteArray) (q : Nat) : Int := if n = 0 then 18 else firstE (S.take q)
theorem own_cap {w : World} {B n sz : Nat} {e : TypeId} {v : Value} {xs : List Value} (h : w.ownsRow B e sz v n xs) : ∃ a c, v = .slice a n c ∧ n ≤ c := by
  rcases h.2 with ⟨e1, e0⟩ | ⟨g, cap, cur, e1, _, _, hc, _⟩
  · exact ⟨none, 0, by rw [e1, e0], by omega⟩
  · exact ⟨some ⟨g, 0, none⟩, cap, e1, hc⟩
set_option maxRecDepth 100000
set_option maxHeartbeats 3200000 in
theorem law_any (kaw : ∀ V, Calls Try.prog 6 #[] V fun e w' => e = .returned (.bool true) ∧ Below V.heap.size V w') (a : Option Addr) (n c : Nat) (L : List Pc) (w : World) (hn : L.length = n) (hl : n ≤ 9223372036854775807) (hL : Seq enPc 5 w a L) (hok : ∀ p ∈ L, PcOk p) :
    Calls Try.prog 3 #[.slice a n c] w fun e w' => e = .returned (.bool true) ∧ Below w.heap.size w w' := by
  have hb0 := (Below.refl w.heap.size w).alloc (Nat.le_refl _) (.cells #[.int .i64 0, .int .i64 0, .slice a n c] 25)
  have hL1 := hL.below (Nat.le_refl _) hb0
  have hbk := Blk.new w 25 #[.int .i64 0, .int .i64 0, .slice a n c]
  have kf := few_any (some ⟨w.heap.size, 0, none⟩) 1 1 [⟨0, 0, a, c, L⟩] (w.alloc (.cells #[.int .i64 0, .int .i64 0, .slice a n c] 25)) rfl (by decide)
    (seq_blk (sz := 3) (fun _ => rfl) hbk (by simp [flat, enRn, hn])) (by intro r hr; simp at hr; subst hr; exact ⟨hL1, by show L.length ≤ _; omega⟩)
  obtain ⟨F, hF⟩ : ∃ F, fewB [(⟨0, 0, a, c, L⟩ : Rn)] = F := ⟨_, rfl⟩
  rw [hF] at kf
  have HL := Lib.hid hL1
  have HN := Lib.hid hn
  have HO := Lib.hid hok
  have HF := Lib.hid hF
  clear hL hL1 hn hok hF hbk
  cases F with
  | false =>
    go_enter Try.func3, Try.ntmps3
    go_wp2_with fail
    (with_reducible refine (kf).mono ?_); rintro e1 W1 ⟨rfl, rfl⟩
    go_wp2_with fail
    (with_reducible refine (kaw _).mono ?_); rintro e2 W2 ⟨rfl, hb2⟩
    have hb3 := hb0.trans (hb2.mono hb0.size)
    go_wp2_with fail
    go_ret
    exact ⟨rfl, hb3⟩
  | true =>
    have hfw : n ≤ 8 ∧ ∀ p ∈ L, p.text.size ≤ 5000 := by
      have h := HF.out
      unfold fewB at h
      simp only [List.all_cons, List.all_nil, Bool.and_true, List.length_cons, List.length_nil, Bool.and_eq_true, decide_eq_true_eq] at h
      exact ⟨by have := h.1.1; rw [HN.out] at this; exact this, h.1.2.2⟩
    go_enter Try.func3, Try.ntmps3
    go_wp2_with fail
    (with_reducible refine (kf).mono ?_); rintro e1 W1 ⟨rfl, rfl⟩
    go_wp2_with fail
    have kt := texts_any a n c L (w.alloc (.cells #[.int .i64 0, .int .i64 0, .slice a n c] 25)) HN.out (by omega) HL.out HO.out
    (with_reducible refine (kt).mono ?_); rintro e2 W2 ⟨v, rfl, hown, hb2⟩
    obtain ⟨a1, c1, rfl, hc1⟩ := own_cap hown
    have hSz : ∀ s ∈ L.map Pc.bytes, s.size ≤ 5000 := fun s hs => by
      obtain ⟨p, hp, rfl⟩ := List.mem_map.1 hs
      exact bytes_size p (hfw.2 p hp) (HO.out p hp).2
    have hSl : (L.map Pc.bytes).length = n := by rw [List.length_map, HN.out]
    have hq := own_seq (en := enS) (sz := 1) enS_len hown hSl
    obtain ⟨S, hS⟩ : ∃ S, L.map Pc.bytes = S := ⟨_, rfl⟩
    rw [hS] at hq hSz hSl
    have km := many_any a1 n c1 S W2 hSl (by omega) hc1 hq (fun s hs => by have := hSz s hs; omega)
    have hmN := manyN_le hSz
    have hb3 := hb0.trans (hb2.mono (by have := hb0.size; omega))
    have HQ := Lib.hid hq
    have HSZ := Lib.hid hSz
    have HSL := Lib.hid hSl
    obtain ⟨E, hE⟩ : ∃ E, manyE S = E := ⟨_, rfl⟩
    obtain ⟨N, hNN⟩ : ∃ N, manyN S = N := ⟨_, rfl⟩
    rw [hE, hNN] at km
    rw [hNN, hSl] at hmN
    have HE := Lib.hid (And.intro hE hNN)
    have hn8 := hfw.1
    clear hown hb2 hb0 kt kf hq hSz hSl hS hE hNN hfw
    go_wp2_with fail
    (with_reducible refine (km).mono ?_); rintro e3 W3 ⟨rfl, hb4⟩
    have hb5 := hb3.trans (hb4.mono hb3.size)
    have hq3 := HQ.out.below (Nat.le_refl _) hb4
    have HQ3 := Lib.hid hq3
    clear hb3 hb4 km hq3
    by_cases h0 : n = 0
    · have t0 : ((n : Int) == 0) = true := by simp; exact h0
      have t1 : (n == 0) = true := by simp; exact h0
      have HW := Lib.hid (show want n S 0 = 18 from if_pos h0)
      have H0 := Lib.hid h0
      clear h0
      go_wp2_with fail
      go_loopw [6, 7, 8, 9] (fun ea by_ wa i wr => ∃ q : Nat, q ≤ n ∧ i = .int .i64 q ∧ ea = .int .i64 (eachN (S.take q) : Int) ∧ by_ = .int .i64 ((((S.take q).map ByteArray.size).sum : Nat) : Int) ∧ wa = .int .i64 (want n S q) ∧ Below w.heap.size w wr ∧ Seq enS 1 wr a1 S) (fun _ _ _ i _ => n - (intOf i).toNat)
      case atStart => exact ⟨0, by omega, rfl, rfl, rfl, by rw [HW.out], hb5, HQ3.out⟩
      case round =>
        obtain ⟨q, hq, rfl, rfl, rfl, rfl, hb, hqs⟩ := hrel
        obtain rfl : q = n := by have := H0.out; omega
        have t3 : decide (q < q) = false := by simp
        have htk : S.take q = S := List.take_of_length_le (by rw [HSL.out]; exact Nat.le_refl _)
        have hwE : want q S q = E := by
          have h1 : manyE S = if S.length = 0 then 18 else firstE S := rfl
          rw [← HE.out.1, h1, HSL.out]
          unfold want
          rw [htk]
        rw [htk, hwE]
        clear hqs htk hwE
        by_cases hE0 : E = 0
        · subst hE0
          have p1 := each_ge HE.out.1
          have p2 := bytes_le HE.out.1
          have p3 := fun h => one_each (S := S) h
          rw [HE.out.2] at p1 p2 p3
          rw [HSL.out] at p3
          obtain ⟨ea, hea⟩ : ∃ ea, eachN S = ea := ⟨_, rfl⟩
          obtain ⟨by', hby⟩ : ∃ by', (S.map ByteArray.size).sum = by' := ⟨_, rfl⟩
          rw [hea] at p1 p3 ⊢
          have hbB := sum_B HSZ.out
          rw [hby] at p2 hbB ⊢
          rw [HSL.out] at hbB
          have d1 : decide (N ≤ ea) = true := decide_eq_true p1
          have d2 : decide (((by' : Int) + 183) / 184 ≤ (N : Int)) = true := decide_eq_true (by omega)
          have d3 : decide (((by' : Int) + 183).tdiv 184 ≤ (N : Int)) = true := by rw [Int.tdiv_eq_ediv_of_nonneg (by omega)]; exact d2
          have n1 : (by' : Int) ≤ 40000 := by omega
          have n2 : (0 : Int) ≤ (by' : Int) := by omega
          by_cases hq1 : 1 < q
          · have d4 : decide (1 < q) = true := decide_eq_true hq1
            have d5 : decide ((1 : Int) < (q : Int)) = true := decide_eq_true (by omega)
            clear hq1 hea hby p3 hbB
            go_wp2_with fail
            (with_reducible refine (kaw _).mono ?_); rintro e6 W6 ⟨rfl, hb9⟩
            have hbz := hb.trans (hb9.mono hb.size)
            go_wp2_with fail
            go_ret
            exact ⟨rfl, hbz⟩
          · have hq0 : q = 1 := by
              have h1 : manyE S = if S.length = 0 then 18 else firstE S := rfl
              rw [HE.out.1, HSL.out] at h1
              by_cases hz : q = 0
              · rw [if_pos hz] at h1; cases h1
              · omega
            have hNe := p3 hq0
            have d4 : decide (1 < q) = false := decide_eq_false hq1
            have d5 : decide ((1 : Int) < (q : Int)) = false := decide_eq_false (by omega)
            have d6 : ((N : Int) == (ea : Int)) = true := by rw [hNe]; exact beq_self_eq_true _
            have d7 : (N == ea) = true := by rw [hNe]; exact beq_self_eq_true _
            clear hq1 hea hby p3 hbB hq0 hNe
            go_wp2_with fail
            (with_reducible refine (kaw _).mono ?_); rintro e6 W6 ⟨rfl, hb9⟩
            have hbz := hb.trans (hb9.mono hb.size)
            go_wp2_with fail
            go_ret
            exact ⟨rfl, hbz⟩
        · have t4 : (E == 0) = false := beq_eq_false_iff_ne.2 hE0
          have t5 : (E == E) = true := beq_self_eq_true E
          go_wp2_with fail
          (with_reducible refine (kaw _).mono ?_); rintro e6 W6 ⟨rfl, hb9⟩
          have hbz := hb.trans (hb9.mono hb.size)
          go_wp2_with fail
          go_ret
          exact ⟨rfl, hbz⟩
    · have t0 : ((n : Int) == 0) = false := by simp; omega
      have t1 : (n == 0) = false := by simp; omega
      have HW := Lib.hid (show want n S 0 = 0 from if_neg h0)
      clear h0
      go_wp2_with fail
      go_loopw [6, 7, 8, 9] (fun ea by_ wa i wr => ∃ q : Nat, q ≤ n ∧ i = .int .i64 q ∧ ea = .int .i64 (eachN (S.take q) : Int) ∧ by_ = .int .i64 ((((S.take q).map ByteArray.size).sum : Nat) : Int) ∧ wa = .int .i64 (want n S q) ∧ Below w.heap.size w wr ∧ Seq enS 1 wr a1 S) (fun _ _ _ i _ => n - (intOf i).toNat)
      case atStart => exact ⟨0, by omega, rfl, rfl, rfl, by rw [HW.out], hb5, HQ3.out⟩
      case round =>
        obtain ⟨q, hq, rfl, rfl, rfl, rfl, hb, hqs⟩ := hrel
        by_cases hqn : q < n
        · have t3 : decide (q < n) = true := decide_eq_true hqn
          obtain ⟨s, hs⟩ : ∃ s, S[q]? = some s := ⟨_, List.getElem?_eq_getElem (by rw [HSL.out]; exact hqn)⟩
          obtain ⟨b0, o0, rfl, hlt, hc⟩ := hqs q s hs
          have c0 : wr.cell? ⟨b0, o0 + q, none⟩ = some (.string s) := hc 0 _ rfl
          have k0 : (0 : Int) ≤ (q : Int) := Int.natCast_nonneg _
          have k1 : (q : Int) < (n : Int) := by omega
          have hs5 := HSZ.out s (List.mem_of_getElem? hs)
          have hbk := Blk.new wr 9 #[.string s]
          have kone := many_any (some ⟨wr.heap.size, 0, none⟩) 1 1 [s] (wr.alloc (.cells #[.string s] 9)) rfl (by decide) (Nat.le_refl _) (seq_blk enS_len hbk rfl) (by intro x hx; simp at hx; subst hx; omega)
          have hN1 : manyN [s] ≤ 28 := by
            have := manyN_le (S := [s]) (B := 5000) (by intro x hx; simp at hx; subst hx; exact hs5)
            simpa using this
          have hea := each_le (fun x hx => HSZ.out x (List.mem_of_mem_take hx) : ∀ x ∈ S.take q, x.size ≤ 5000)
          have hba := sum_B (fun x hx => HSZ.out x (List.mem_of_mem_take hx) : ∀ x ∈ S.take q, x.size ≤ 5000)
          rw [List.length_take, HSL.out, Nat.min_eq_left (by omega)] at hea hba
          have he1 := each_app (S.take q) s
          have he2 := bytes_app (S.take q) s
          have he3 := first_app (S.take q) s
          rw [← take_snoc hs] at he1 he2 he3
          rw [one_E] at kone
          obtain ⟨E1, hE1⟩ : ∃ E1, paE s = E1 := ⟨_, rfl⟩
          obtain ⟨N1, hNN1⟩ : ∃ N1, manyN [s] = N1 := ⟨_, rfl⟩
          rw [hE1, hNN1] at kone
          rw [hNN1] at hN1 he1
          obtain ⟨ea, hea1⟩ : ∃ ea, eachN (S.take q) = ea := ⟨_, rfl⟩
          obtain ⟨by', hby⟩ : ∃ by', ((S.take q).map ByteArray.size).sum = by' := ⟨_, rfl⟩
          rw [hea1] at hea he1 ⊢
          rw [hby] at hba he2 ⊢
          obtain ⟨wa, hwa⟩ : ∃ wa, want n S q = wa := ⟨_, rfl⟩
          have hw1 : want n S (q + 1) = if wa = 0 then E1 else wa := by
            have h1 : want n S q = firstE (S.take q) := if_neg (by omega)
            have h2 : want n S (q + 1) = firstE (S.take (q + 1)) := if_neg (by omega)
            rw [h2, he3, ← h1, hwa, hE1]
          rw [hwa]
          have HX := Lib.hid (And.intro he1 (And.intro he2 hw1))
          have hb1 := hb.alloc hb.size (.cells #[.string s] 9)
          have hqs1 := hqs.below (Nat.le_refl _) ((Below.refl wr.heap.size wr).alloc (Nat.le_refl _) (.cells #[.string s] 9))
          have HSS := Lib.hid hs
          clear hc hlt hs hbk he1 he2 he3 hE1 hNN1 hea1 hby hwa hw1 hqs hb
          go_wp2_with fail
          (with_reducible refine (kone).mono ?_); rintro e4 W4 ⟨rfl, hb4⟩
          have hb6 := hb1.trans (hb4.mono hb1.size)
          have hqs2 := hqs1.below (Nat.le_refl _) hb4
          have c9 : W4.cell? ⟨b0, o0 + q, none⟩ = some (.string s) := by
            obtain ⟨b8, o8, e8, _, hc8⟩ := hqs2 q s HSS.out
            injection e8 with e8
            injection e8 with e9 e10 _
            subst e9 e10
            exact hc8 0 _ rfl
          have HQ2 := Lib.hid hqs2
          clear kone hb1 hb4 hqs1 hqs2 c0
          have n1 : (ea : Int) ≤ 300 := by omega
          have n2 : (N1 : Int) ≤ 28 := by omega
          have n3 : (by' : Int) ≤ 50000 := by omega
          have n4 : (s.size : Int) ≤ 5000 := by omega
          have n5 : (0 : Int) ≤ (ea : Int) := by omega
          have n6 : (0 : Int) ≤ (N1 : Int) := by omega
          have n7 : (0 : Int) ≤ (by' : Int) := by omega
          by_cases hE0 : E1 = 0
          · subst hE0
            have HWW := Lib.hid (show (if wa = 0 then 0 else wa) = wa from by split <;> simp_all)
            go_wp2_with fail
            go_roundw
            case rel => exact ⟨q + 1, by omega, by go_num, congrArg (Value.int .i64) (by rw [HX.out.1]; omega), congrArg (Value.int .i64) (by rw [HX.out.2.1]; omega), congrArg (Value.int .i64) (by rw [HX.out.2.2, HWW.out]), hb6, HQ2.out⟩
            case measure => simp [intOf]; omega
          · have t4 : (E1 == 0) = false := beq_eq_false_iff_ne.2 hE0
            by_cases hw0 : wa = 0
            · subst hw0
              have HWW := Lib.hid (show (if (0 : Int) = 0 then E1 else 0) = E1 from if_pos rfl)
              go_wp2_with fail
              go_roundw
              case rel => exact ⟨q + 1, by omega, by go_num, congrArg (Value.int .i64) (by rw [HX.out.1]; omega), congrArg (Value.int .i64) (by rw [HX.out.2.1]; omega), congrArg (Value.int .i64) (by rw [HX.out.2.2, HWW.out]), hb6, HQ2.out⟩
              case measure => simp [intOf]; omega
            · have t5 : (wa == 0) = false := beq_eq_false_iff_ne.2 hw0
              have HWW := Lib.hid (show (if wa = 0 then E1 else wa) = wa from if_neg hw0)
              go_wp2_with fail
              go_roundw
              case rel => exact ⟨q + 1, by omega, by go_num, congrArg (Value.int .i64) (by rw [HX.out.1]; omega), congrArg (Value.int .i64) (by rw [HX.out.2.1]; omega), congrArg (Value.int .i64) (by rw [HX.out.2.2, HWW.out]), hb6, HQ2.out⟩
              case measure => simp [intOf]; omega
        · obtain rfl : q = n := by omega
          have t3 : decide (q < q) = false := by simp
          have htk : S.take q = S := List.take_of_length_le (by rw [HSL.out]; exact Nat.le_refl _)
          have hwE : want q S q = E := by
            have h1 : manyE S = if S.length = 0 then 18 else firstE S := rfl
            rw [← HE.out.1, h1, HSL.out]
            unfold want
            rw [htk]
          rw [htk, hwE]
          clear hqs htk hwE
          by_cases hE0 : E = 0
          · subst hE0
            have p1 := each_ge HE.out.1
            have p2 := bytes_le HE.out.1
            have p3 := fun h => one_each (S := S) h
            rw [HE.out.2] at p1 p2 p3
            rw [HSL.out] at p3
            obtain ⟨ea, hea⟩ : ∃ ea, eachN S = ea := ⟨_, rfl⟩
            obtain ⟨by', hby⟩ : ∃ by', (S.map ByteArray.size).sum = by' := ⟨_, rfl⟩
            rw [hea] at p1 p3 ⊢
            have hbB := sum_B HSZ.out
            rw [hby] at p2 hbB ⊢
            rw [HSL.out] at hbB
            have d1 : decide (N ≤ ea) = true := decide_eq_true p1
            have d2 : decide (((by' : Int) + 183) / 184 ≤ (N : Int)) = true := decide_eq_true (by omega)
            have d3 : decide (((by' : Int) + 183).tdiv 184 ≤ (N : Int)) = true := by rw [Int.tdiv_eq_ediv_of_nonneg (by omega)]; exact d2
            have n1 : (by' : Int) ≤ 40000 := by omega
            have n2 : (0 : Int) ≤ (by' : Int) := by omega
            by_cases hq1 : 1 < q
            · have d4 : decide (1 < q) = true := decide_eq_true hq1
              have d5 : decide ((1 : Int) < (q : Int)) = true := decide_eq_true (by omega)
              clear hq1 hea hby p3 hbB
              go_wp2_with fail
              (with_reducible refine (kaw _).mono ?_); rintro e6 W6 ⟨rfl, hb9⟩
              have hbz := hb.trans (hb9.mono hb.size)
              go_wp2_with fail
              go_ret
              exact ⟨rfl, hbz⟩
            · have hq0 : q = 1 := by
                have h1 : manyE S = if S.length = 0 then 18 else firstE S := rfl
                rw [HE.out.1, HSL.out] at h1
                by_cases hz : q = 0
                · rw [if_pos hz] at h1; cases h1
                · omega
              have hNe := p3 hq0
              have d4 : decide (1 < q) = false := decide_eq_false hq1
              have d5 : decide ((1 : Int) < (q : Int)) = false := decide_eq_false (by omega)
              have d6 : ((N : Int) == (ea : Int)) = true := by rw [hNe]; exact beq_self_eq_true _
              have d7 : (N == ea) = true := by rw [hNe]; exact beq_self_eq_true _
              clear hq1 hea hby p3 hbB hq0 hNe
              go_wp2_with fail
              (with_reducible refine (kaw _).mono ?_); rintro e6 W6 ⟨rfl, hb9⟩
              have hbz := hb.trans (hb9.mono hb.size)
              go_wp2_with fail
              go_ret
              exact ⟨rfl, hbz⟩
          · have t4 : (E == 0) = false := beq_eq_false_iff_ne.2 hE0
            have t5 : (E == E) = true := beq_self_eq_true E
            go_wp2_with fail
            (with_reducible refine (kaw _).mono ?_); rintro e6 W6 ⟨rfl, hb9⟩
            have hbz := hb.trans (hb9.mono hb.size)
            go_wp2_with fail
            go_ret
            exact ⟨rfl, hbz⟩
end Go.Proofs.Yteabmloeopoehaa.SlQ
