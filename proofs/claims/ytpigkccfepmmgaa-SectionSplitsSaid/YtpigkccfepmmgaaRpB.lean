/- the document's Join. -/
import Derived.Test.YtpigkccfepmmgaaSpB
import Derived.Test.YtpigkccfepmmgaaSeB
namespace Go.Proofs.Ytpigkccfepmmgaa.RpB
open Go Go.RowKit Go.Proofs.Ytpigkccfepmmgaa.Q Go.Proofs.Ytpigkccfepmmgaa.Mem Go.Proofs.Ytpigkccfepmmgaa.Rg Go.Proofs.Ytpigkccfepmmgaa.Ap Go.Proofs.Ytpigkccfepmmgaa.St Go.Proofs.Ytpigkccfepmmgaa.SeA Go.Proofs.Ytpigkccfepmmgaa.SeB Go.Proofs.Ytpigkccfepmmgaa.SeE Go.Proofs.Ytpigkccfepmmgaa.SpA Go.Proofs.Ytpigkccfepmmgaa.SpB
/-- the fields that are the same in all sections of a table -/
theorem kin_iff (a b : Sc) : kinS a = kinS b ↔ a.table = b.table ∧ a.priv = b.priv ∧ a.ext = b.ext ∧ a.version = b.version ∧ a.now = b.now ∧ a.last = b.last := by
  obtain ⟨t, p, e, v, n, m, l, x⟩ := a
  obtain ⟨t', p', e', v', n', m', l', x'⟩ := b
  unfold kinS
  simp only [Sc.mk.injEq]
  constructor
  · rintro ⟨h1, h2, h3, h4, h5, _, h7, _⟩; exact ⟨h1, h2, h3, h4, h5, h7⟩
  · rintro ⟨h1, h2, h3, h4, h5, h7⟩; exact ⟨h1, h2, h3, h4, h5, trivial, h7, trivial⟩
set_option maxRecDepth 100000
set_option maxHeartbeats 3200000 in
theorem rjoin_go (a : Option Addr) (n c : Nat) (L : List Sc) (w : World) (hn : L.length = n) (h0 : n ≠ 0) (hl : n ≤ 100000) (hL : Seq enSc 8 w a L) :
    Calls Try.prog 19 #[.slice a n c] w fun e w' => e = .returned (.tuple #[.string (joS L), .int .i64 (joE L)]) ∧ Below w.heap.size w w' := by
  obtain ⟨R, hR⟩ : ∃ R : Ending → World → Prop, R = (fun e w' => e = .returned (.tuple #[.string (joS L), .int .i64 (joE L)]) ∧ Below w.heap.size w w') := ⟨_, rfl⟩
  rw [← hR]
  have HR := Lib.hid hR
  have HL := Lib.hid hL
  obtain ⟨A, t, rfl⟩ : ∃ A t, L = A :: t := by
    cases L with
    | nil => simp at hn; omega
    | cons A t => exact ⟨A, t, rfl⟩
  obtain ⟨L, hLe⟩ : ∃ L, A :: t = L := ⟨_, rfl⟩
  have hJ : joE (A :: t) = if firstE (A :: t) ≠ 0 then firstE (A :: t) else if ¬ kinA A (A :: t) then 14 else if ¬ ordA (A :: t).length 0 (A :: t) then 22 else 0 := rfl
  have hA0 : (A :: t)[0]? = some A := rfl
  have hJS : joS (A :: t) = if joE (A :: t) = 0 then str (bodies (A :: t)) else nob := rfl
  rw [hLe] at hJ hA0 HR HL hn hJS
  have HJ := Lib.hid hJ
  have HJS := Lib.hid hJS
  have HA0 := Lib.hid hA0
  have HN := Lib.hid hn
  have t9 : ((n : Int) == 0) = false := by simp; omega
  have t9' : (n == 0) = false := by simp; omega
  clear hR hL hLe hJ hA0 hJS
  go_enter Try.func19, Try.ntmps19
  go_wp2_with fail
  go_loopw [4] (fun i wr => ∃ k : Nat, k ≤ n ∧ i = .int .i64 k ∧ firstE (L.take k) = 0 ∧ Below w.heap.size w wr) (fun i _ => n - (intOf i).toNat)
  case atStart => exact ⟨0, by omega, rfl, rfl, Below.refl _ _⟩
  case round =>
    obtain ⟨k, hk, rfl, hf, hb⟩ := hrel
    by_cases hkn : k < n
    · have t0 : decide ((k : Int) < (n : Int)) = true := by simp; omega
      obtain ⟨s, hs⟩ : ∃ s, L[k]? = some s := ⟨_, List.getElem?_eq_getElem (by rw [HN.out]; exact hkn)⟩
      obtain ⟨hf1, hf2⟩ := first_take hs hf
      have kc := fun V => rcheck_any s V
      by_cases hE : s.chk = 0
      · have HF := Lib.hid (hf1 hE)
        rw [hE] at kc
        obtain ⟨t, p, e, v, nn, m, l, x⟩ := s
        obtain ⟨b1, o1, rfl, hlt, c0, c1, c2, c3, c4, c5, c6, c7⟩ := seq_cells (HL.out.below (Nat.le_refl _) hb) hs
        unfold Sc.vals at kc
        dsimp only at kc
        have k0 : (0 : Int) ≤ (k : Int) := Int.natCast_nonneg _
        have k1 : (k : Int) < (n : Int) := by omega
        have HB := Lib.hid hb
        clear hs hf1 hf2 hE hf hlt hb
        go_wp2_with fail
        (with_reducible refine (kc _).mono ?_); rintro e1 W1 ⟨rfl, hb1⟩
        have hb2 := HB.out.trans (hb1.mono HB.out.size)
        clear kc c0 c1 c2 c3 c4 c5 c6 c7 hb1
        go_wp2_with fail
        go_roundw
        case rel => exact ⟨k + 1, by omega, by go_num, HF.out, hb2⟩
        case measure => simp [intOf]; omega
      · have hFE := hf2 hE
        have hjE : joE L = s.chk := by rw [HJ.out, if_pos (by rw [hFE]; exact hE), hFE]
        obtain ⟨ce, hce⟩ : ∃ ce, s.chk = ce := ⟨_, rfl⟩
        rw [hce] at kc hE hjE
        have HE := Lib.hid (show joE L = ce ∧ joS L = nob from ⟨hjE, by rw [HJS.out, hjE, if_neg hE]⟩)
        have t1 : (ce != 0) = true := by simpa using hE
        obtain ⟨t, p, e, v, nn, m, l, x⟩ := s
        have hL2 := HL.out.below (Nat.le_refl _) hb
        have hs2 := hs
        obtain ⟨b1, o1, rfl, hlt, c0, c1, c2, c3, c4, c5, c6, c7⟩ := seq_cells hL2 hs
        unfold Sc.vals at kc
        dsimp only at kc
        have k0 : (0 : Int) ≤ (k : Int) := Int.natCast_nonneg _
        have k1 : (k : Int) < (n : Int) := by omega
        have HB := Lib.hid hb
        have HL2 := Lib.hid hL2
        have HS2 := Lib.hid hs2
        clear hs hf1 hf2 hE hf hlt hb hFE hjE hce hL2 hs2
        go_wp2_with fail
        (with_reducible refine (kc _).mono ?_); rintro e1 W1 ⟨rfl, hb1⟩
        obtain ⟨b2, o2, ea, hlt2, d0, d1, d2, d3, d4, d5, d6, d7⟩ := seq_cells (HL2.out.below (Nat.le_refl _) hb1) HS2.out
        simp only [Option.some.injEq, Addr.mk.injEq] at ea
        obtain ⟨rfl, rfl, _⟩ := ea
        have hb2 := HB.out.trans (hb1.mono HB.out.size)
        have HB2 := Lib.hid hb2
        clear c0 c1 c2 c3 c4 c5 c6 c7 hb1 hb2 hlt2
        go_wp2_with fail
        (with_reducible refine (kc _).mono ?_); rintro e1 W2 ⟨rfl, hb3⟩
        have hb4 := HB2.out.trans (hb3.mono HB2.out.size)
        clear hb3 kc d0 d1 d2 d3 d4 d5 d6 d7
        go_wp2_with fail
        rw [HR.out, HE.out.1, HE.out.2]
        exact ⟨rfl, hb4⟩
    · obtain rfl : k = n := by omega
      have t0 : decide ((k : Int) < (k : Int)) = false := by simp
      rw [show L.take k = L by rw [← HN.out, List.take_length]] at hf
      have HF := Lib.hid hf
      clear hf
      obtain ⟨t', p', e', v', nn', m', l', x'⟩ := A
      obtain ⟨b0, o0, rfl, hlt, c0, c1, c2, c3, c4, c5, c6, c7⟩ := seq_cells (HL.out.below (Nat.le_refl _) hb) HA0.out
      simp only [Nat.zero_mul, Nat.add_zero] at c0 c1 c2 c3 c4 c5 c6 c7
      have k2 : (0 : Int) < (k : Int) := by omega
      have hBx : Bk w wr [] := ⟨hb, fun _ h => by cases h⟩
      have HBx := Lib.hid (hBx.new 28 #[.int .i64 t', .bool p', .int .i64 e', .int .i64 v', .bool nn', .int .i64 m', .int .i64 l', .string x'])
      clear hb hlt hBx
      obtain ⟨wo, rfl⟩ : ∃ wo : World, wo = wr := ⟨_, rfl⟩
      go_wp2_with fail
      clear c0 c1 c2 c3 c4 c5 c6 c7
      go_loopw [6] (fun i wr => ∃ j : Nat, j ≤ k ∧ i = .int .i64 j ∧ Hid (kinA ⟨t', p', e', v', nn', m', l', x'⟩ (L.take j)) ∧ Bk w wr [(wo.heap.size, 28, #[.int .i64 t', .bool p', .int .i64 e', .int .i64 v', .bool nn', .int .i64 m', .int .i64 l', .string x'])]) (fun i _ => k - (intOf i).toNat)
      case atStart => exact ⟨0, by omega, rfl, Lib.hid (fun s hs => by simp at hs), HBx.out⟩
      case round =>
        obtain ⟨j, hj, rfl, hK, hB⟩ := hrel
        by_cases hjk : j < k
        · have t0 : decide ((j : Int) < (k : Int)) = true := by simp; omega
          obtain ⟨s, hs⟩ : ∃ s, L[j]? = some s := ⟨_, List.getElem?_eq_getElem (by rw [HN.out]; exact hjk)⟩
          have HK1 := Lib.hid (show kinS s = kinS ⟨t', p', e', v', nn', m', l', x'⟩ → kinA ⟨t', p', e', v', nn', m', l', x'⟩ (L.take (j + 1)) from fun h y hy => by
            rw [List.take_add_one, hs] at hy
            rcases List.mem_append.1 hy with hy | hy
            · exact hK.out y hy
            · simp at hy; subst hy; exact h)
          have HK2 := Lib.hid (show ¬ kinS s = kinS ⟨t', p', e', v', nn', m', l', x'⟩ → joE L = 14 ∧ joS L = nob from fun h => by
            have hnk : ¬ kinA ⟨t', p', e', v', nn', m', l', x'⟩ L := fun hh => h (hh _ (List.mem_of_getElem? hs))
            have hjE : joE L = 14 := by rw [HJ.out, if_neg (by simpa using HF.out), if_pos hnk]
            exact ⟨hjE, by rw [HJS.out, hjE, if_neg (by decide)]⟩)
          rw [kin_iff] at HK1 HK2
          obtain ⟨t, p, e, v, nn, m, l, x⟩ := s
          dsimp only at HK1 HK2
          obtain ⟨b1, o1, ea, hlt, c0, c1, c2, c3, c4, c5, c6, c7⟩ := seq_cells (HL.out.below (Nat.le_refl _) hB.be) hs
          simp only [Option.some.injEq, Addr.mk.injEq] at ea
          obtain ⟨rfl, rfl, _⟩ := ea
          have HB := Lib.hid (hB.new 28 #[.int .i64 t, .bool p, .int .i64 e, .int .i64 v, .bool nn, .int .i64 m, .int .i64 l, .string x])
          have z0 := Blk.cell (HB.out.nth 1 rfl) 0 (v := .int .i64 t') rfl
          have z1 := Blk.cell (HB.out.nth 1 rfl) 1 (v := .bool p') rfl
          have z2 := Blk.cell (HB.out.nth 1 rfl) 2 (v := .int .i64 e') rfl
          have z3 := Blk.cell (HB.out.nth 1 rfl) 3 (v := .int .i64 v') rfl
          have z4 := Blk.cell (HB.out.nth 1 rfl) 4 (v := .bool nn') rfl
          have z5 := Blk.cell (HB.out.nth 1 rfl) 5 (v := .int .i64 m') rfl
          have z6 := Blk.cell (HB.out.nth 1 rfl) 6 (v := .int .i64 l') rfl
          have z7 := Blk.cell (HB.out.nth 1 rfl) 7 (v := .string x') rfl
          have k0 : (0 : Int) ≤ (j : Int) := Int.natCast_nonneg _
          have k1 : (j : Int) < (k : Int) := by omega
          have HB0 := Lib.hid hB
          clear hs hlt hB hK
          go_wp2_with fail
          all_goals first
            | (rename_i h
               rw [HR.out, (HK2.out (by intro hh; simp [hh.1, hh.2.1, hh.2.2.1, hh.2.2.2.1, hh.2.2.2.2.1, hh.2.2.2.2.2] at h)).1, (HK2.out (by intro hh; simp [hh.1, hh.2.1, hh.2.2.1, hh.2.2.2.1, hh.2.2.2.2.1, hh.2.2.2.2.2] at h)).2]
               exact ⟨rfl, HB.out.be⟩)
            | (rename_i h1 h2 h3 h4 h5 h6
               have hk9 := Lib.hid (HK1.out ⟨h1.symm, h2.symm, h3.symm, h4.symm, h5.symm, (by simpa using h6 : l' = l).symm⟩)
               have hB9 := HB0.out.al (.cells #[.int .i64 t, .bool p, .int .i64 e, .int .i64 v, .bool nn, .int .i64 m, .int .i64 l, .string x] 28)
               subst h1 h2 h3 h4 h5
               clear h6
               clear z0 z1 z2 z3 z4 z5 z6 z7 c0 c1 c2 c3 c4 c5 c6 c7
               refine ⟨⟨_, _, .int .i64 ((j : Int) + 1), ⟨j + 1, by omega, by go_num, hk9, hB9⟩, rfl, rfl, rfl⟩, ?_⟩
               simp [intOf]; omega)
        · obtain rfl : j = k := by omega
          have t0 : decide ((j : Int) < (j : Int)) = false := by simp
          rw [show L.take j = L by rw [← HN.out, List.take_length]] at hK
          have hAm := List.mem_of_getElem? HA0.out
          have hAok := (chk_zero (first_body HF.out _ hAm)).1
          unfold Sc.ok at hAok
          dsimp only at hAok
          have w1 : 0 ≤ l' := by omega
          have w2 : l' ≤ 255 := by omega
          have HB := Lib.hid hB
          clear hB hAm hAok
          obtain ⟨w2', rfl⟩ : ∃ wo : World, wo = wr := ⟨_, rfl⟩
          go_wp2_with fail
          go_loopw [8, 9] (fun sv i wr => ∃ q : Nat, q ≤ j ∧ i = .int .i64 q ∧ sv = .string (str (bodies (L.take q))) ∧ Hid ((∀ r s, r < q → L[r]? = some s → s.number = (r : Int) ∧ s.last = (j : Int) - 1) ∧ (bodies (L.take q)).length ≤ 4084 * q) ∧ w2' = wr) (fun _ i _ => j - (intOf i).toNat)
          case atStart => exact ⟨0, by omega, rfl, rfl, Lib.hid ⟨fun r s h => by omega, by simp [bodies]⟩, rfl⟩
          case round =>
            obtain ⟨q, hq, rfl, rfl, hI, rfl⟩ := hrel
            have z0 := Blk.cell (HB.out.nth 0 rfl) 0 (v := .int .i64 t') rfl
            have z1 := Blk.cell (HB.out.nth 0 rfl) 1 (v := .bool p') rfl
            have z2 := Blk.cell (HB.out.nth 0 rfl) 2 (v := .int .i64 e') rfl
            have z3 := Blk.cell (HB.out.nth 0 rfl) 3 (v := .int .i64 v') rfl
            have z4 := Blk.cell (HB.out.nth 0 rfl) 4 (v := .bool nn') rfl
            have z5 := Blk.cell (HB.out.nth 0 rfl) 5 (v := .int .i64 m') rfl
            have z6 := Blk.cell (HB.out.nth 0 rfl) 6 (v := .int .i64 l') rfl
            have z7 := Blk.cell (HB.out.nth 0 rfl) 7 (v := .string x') rfl
            by_cases hqj : q < j
            · have t0 : decide ((q : Int) < (j : Int)) = true := by simp; omega
              obtain ⟨s, hs⟩ : ∃ s, L[q]? = some s := ⟨_, List.getElem?_eq_getElem (by rw [HN.out]; exact hqj)⟩
              obtain ⟨h1, h2⟩ := chk_zero (first_body HF.out s (List.mem_of_getElem? hs))
              have hlast : s.last = l' := ((kin_iff _ _).1 (hK.out s (List.mem_of_getElem? hs))).2.2.2.2.2
              have hsn := bodies_snoc hs
              obtain ⟨t, p, e, v, nn, m, l, x⟩ := s
              dsimp only at h1 h2 hsn hlast
              subst hlast
              obtain ⟨b1, o1, ea, hlt2, c0, c1, c2, c3, c4, c5, c6, c7⟩ := seq_cells (HL.out.below (Nat.le_refl _) HB.out.be) hs
              simp only [Option.some.injEq, Addr.mk.injEq] at ea
              obtain ⟨rfl, rfl, _⟩ := ea
              have k0 : (0 : Int) ≤ (q : Int) := Int.natCast_nonneg _
              have k1 : (q : Int) < (j : Int) := by omega
              by_cases hE : m = (q : Int) ∧ l = (j : Int) - 1
              · obtain ⟨rfl, hl9⟩ := hE
                have hl1 := hI.out.2
                have HI2 := Lib.hid (show (∀ r s, r < q + 1 → L[r]? = some s → s.number = (r : Int) ∧ s.last = (j : Int) - 1) ∧ (bodies (L.take (q + 1))).length ≤ 4084 * (q + 1) from ⟨fun r y hr hy => by
                  rcases Nat.lt_or_ge r q with h | h
                  · exact hI.out.1 r y h hy
                  · obtain rfl : r = q := by omega
                    rw [hs] at hy; injection hy with hy; subst hy; exact ⟨rfl, hl9⟩, by rw [hsn, List.length_append, bl_len]; omega⟩)
                have hadd := fun U => add_at (str (bodies (L.take q))) x (by show (bodies (L.take q)).length + _ ≤ _; omega) U
                have e9 : str (bodies (L.take q)) ++ x = str (bodies (L.take (q + 1))) := by rw [hsn, ← str_app, str_bl]
                rw [e9] at hadd
                have t2 : ((j : Int) != l + 1) = false := by simp; omega
                clear hs h1 h2 hI hlt2 hl1 hsn hl9 e9
                go_wp2_with fail
                go_roundw
                case rel => exact ⟨q + 1, by omega, by go_num, rfl, HI2, by trivial⟩
                case measure => simp [intOf]; omega
              · have hno : ¬ ordA L.length 0 L := fun h => hE (by
                  have := ord_get.1 h q _ hs
                  rw [Nat.zero_add, HN.out] at this
                  exact this)
                have hjE : joE L = 22 := by rw [HJ.out, if_neg (by simpa using HF.out), if_neg (by simpa using hK.out), if_pos hno]
                have HE := Lib.hid (show joE L = 22 ∧ joS L = nob from ⟨hjE, by rw [HJS.out, hjE, if_neg (by decide)]⟩)
                by_cases hm : m = (q : Int)
                · have t1 : (m != (q : Int)) = false := by simpa using hm
                  have t2 : ((j : Int) != l + 1) = true := by simp; intro h; exact hE ⟨hm, by omega⟩
                  clear hs h1 h2 hI hlt2 hsn hE hno hjE hm
                  go_wp2_with fail
                  rw [HR.out, HE.out.1, HE.out.2]
                  exact ⟨rfl, HB.out.be⟩
                · have t1 : (m != (q : Int)) = true := by simpa using hm
                  clear hs h1 h2 hI hlt2 hsn hE hno hjE hm
                  go_wp2_with fail
                  rw [HR.out, HE.out.1, HE.out.2]
                  exact ⟨rfl, HB.out.be⟩
            · obtain rfl : q = j := by omega
              have t0 : decide ((q : Int) < (q : Int)) = false := by simp
              have ho : ordA L.length 0 L := ord_get.2 fun r s hs => by
                have hr : r < q := by rw [← HN.out]; exact (List.getElem?_eq_some_iff.1 hs).1
                have := hI.out.1 r s hr hs
                rw [Nat.zero_add, HN.out]; exact this
              have hjE : joE L = 0 := by rw [HJ.out, if_neg (by simpa using HF.out), if_neg (by simpa using hK.out), if_neg (by simpa using ho)]
              have HE := Lib.hid (show joE L = 0 ∧ joS L = str (bodies L) from ⟨hjE, by rw [HJS.out, if_pos hjE]⟩)
              rw [show L.take q = L by rw [← HN.out, List.take_length]]
              clear hI ho hjE z0 z1 z2 z3 z4 z5 z6 z7
              go_wp2_with fail
              rw [HR.out, HE.out.1, HE.out.2]
              exact ⟨rfl, HB.out.be⟩
theorem rjoin_any (a : Option Addr) (n c : Nat) (L : List Sc) (w : World) (hn : L.length = n) (hl : n ≤ 100000) (hL : Seq enSc 8 w a L) :
    Calls Try.prog 19 #[.slice a n c] w fun e w' => e = .returned (.tuple #[.string (joS L), .int .i64 (joE L)]) ∧ Below w.heap.size w w' := by
  by_cases h0 : n = 0
  · subst h0
    obtain rfl : L = [] := List.eq_nil_of_length_eq_zero hn
    clear hn hl hL
    go_enter Try.func19, Try.ntmps19
    go_wp2_with fail
    go_ret2
    exact ⟨rfl, Below.refl _ _⟩
  · exact rjoin_go a n c L w hn h0 hl hL
end Go.Proofs.Ytpigkccfepmmgaa.RpB
