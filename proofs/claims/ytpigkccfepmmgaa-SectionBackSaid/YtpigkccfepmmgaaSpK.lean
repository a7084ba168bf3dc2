/- SectionBack: the walk. -/
import Derived.Test.YtpigkccfepmmgaaSpP
import Derived.Test.YtpigkccfepmmgaaSeL
namespace Go.Proofs.Ytpigkccfepmmgaa.SpK
open Go Go.RowKit Go.Proofs.Ytpigkccfepmmgaa.Q Go.Proofs.Ytpigkccfepmmgaa.Mem Go.Proofs.Ytpigkccfepmmgaa.Rg Go.Proofs.Ytpigkccfepmmgaa.Ap Go.Proofs.Ytpigkccfepmmgaa.St Go.Proofs.Ytpigkccfepmmgaa.CrP Go.Proofs.Ytpigkccfepmmgaa.CrC Go.Proofs.Ytpigkccfepmmgaa.SeA Go.Proofs.Ytpigkccfepmmgaa.SeB Go.Proofs.Ytpigkccfepmmgaa.SeC Go.Proofs.Ytpigkccfepmmgaa.SeE Go.Proofs.Ytpigkccfepmmgaa.SeG Go.Proofs.Ytpigkccfepmmgaa.SeEq Go.Proofs.Ytpigkccfepmmgaa.SeI Go.Proofs.Ytpigkccfepmmgaa.SeI2 Go.Proofs.Ytpigkccfepmmgaa.SeK Go.Proofs.Ytpigkccfepmmgaa.SeP Go.Proofs.Ytpigkccfepmmgaa.SpA Go.Proofs.Ytpigkccfepmmgaa.SpB Go.Proofs.Ytpigkccfepmmgaa.SpP

theorem turned_bad {s : Sc} {i : Nat} {c d : UInt8} (hc : (bl (bytesS s))[i]? = some c) (hd : c ≠ d) : decE (str ((bl (bytesS s)).set i d)) ≠ 0 ∧ decS (str ((bl (bytesS s)).set i d)) = zeroS := by
  obtain ⟨hlt, hce⟩ := List.getElem?_eq_some_iff.1 hc
  have h0 : sumL (bl (bytesS s)) = 0#32 := by rw [bytes_bl]; exact open_seal _
  have h1 : sumL ((bl (bytesS s)).set i d) ≠ 0#32 := by
    have e1 : bl (bytesS s) = (bl (bytesS s)).take i ++ c :: (bl (bytesS s)).drop (i + 1) := by
      rw [← hce, List.getElem_cons_drop, List.take_append_drop]
    rw [List.set_eq_take_append_cons_drop, if_pos hlt, ← h0]
    conv => rhs; rw [e1]
    exact crc_turned _ _ (Ne.symm hd)
  have h2 : openE (str ((bl (bytesS s)).set i d)) ≠ 0 := by
    unfold openE
    split
    · decide
    · rw [bl_str, if_neg h1]; decide
  have h3 : decE (str ((bl (bytesS s)).set i d)) ≠ 0 := by
    unfold decE
    split
    · assumption
    · split
      · decide
      · split
        · decide
        · exact h2
  exact ⟨h3, (dec_zero rfl h3).2⟩
/-- one byte that is turned -/
theorem byte_turned (c : UInt8) (y : Int) (hy : y.tmod 256 ≠ 0) : ∃ d : UInt8, bits .xor .u8 (c.toNat : Int) (y % 256) = (d.toNat : Int) ∧ c ≠ d := by
  have h2 : y % 256 ≠ 0 := fun h => hy (Int.tmod_eq_zero_of_dvd (Int.dvd_of_emod_eq_zero h))
  obtain ⟨e, he⟩ : ∃ e : UInt8, (e.toNat : Int) = y % 256 := ⟨UInt8.ofNat (y % 256).toNat, by rw [UInt8.toNat_ofNat']; omega⟩
  refine ⟨c ^^^ e, ?_, fun h => h2 ?_⟩
  · rw [← he, CrB.xor_u8, UInt8.toNat_xor]
  · have h3 : e = 0 := by
      have := congrArg (c ^^^ ·) h
      simp only [UInt8.xor_self, ← UInt8.xor_assoc, UInt8.zero_xor] at this
      exact this.symm
    rw [← he, h3]; rfl
theorem jo_len (n : Nat) (ts : Array TypeId) (ty : TypeId) (V : World) : (Builtin.max_ ts ty #[.int .i64 1, .int .i64 (((n : Int) + 4083) / 4084)]).run Try.prog V = .ok (.int .i64 (many n : Int)) V := by
  rw [run_max_int2]
  congr 2
  unfold many
  split <;> omega
theorem any_gen {F : World → Prop} {w : World} (S : World → Prop) (hS : S w) (h : ∀ V, S V → F V) : F w := h w hS
theorem conv_set {W : World} {T : ByteArray} {g i : Nat} (h : ∀ j, j < T.size → W.cell? ⟨g, j, none⟩ = some (.int .u8 (at' T j))) (hi : i < T.size) (r : UInt8) (c : Nat) :
    (convert 54 9 (.slice (some ⟨g, 0, none⟩) T.size c)).run Try.prog (W.setCell ⟨g, i, none⟩ (.int .u8 (r.toNat : Int))).drew = .ok (.string (str ((bl T).set i r))) (W.setCell ⟨g, i, none⟩ (.int .u8 (r.toNat : Int))).drew := by
  have hl : ((bl T).set i r).length = T.size := by rw [List.length_set, bl_len]
  have := run_convert_bytes_back (P := Try.prog) (W.setCell ⟨g, i, none⟩ (.int .u8 (r.toNat : Int))).drew 54 9 5 ⟨g, 0, none⟩ c ((bl T).set i r) Try.underlying54 Try.underlying5 Try.underlying9 (fun j hj => by
    rw [add_off, Nat.zero_add]
    rw [hl] at hj
    show (W.setCell ⟨g, i, none⟩ (.int .u8 (r.toNat : Int))).cell? _ = _
    by_cases e : i = j
    · subst e
      rw [World.cell?_setCell_same _ _ _ (h i hi)]
      simp
    · rw [World.cell?_setCell_other _ _ _ _ (by intro e'; simp only [Addr.mk.injEq] at e'; omega), h j hj, at_of (List.getElem?_eq_getElem (by rw [bl_len]; exact hj)), List.getElem_set_ne e])
  rw [hl] at this
  exact this
set_option maxRecDepth 100000
set_option maxHeartbeats 3200000 in
theorem back_any (s : Sc) (b : ByteArray) (x y : Int) (w : World) : Calls Try.prog 8 #[.agg s.vals, .string b, .agg #[.int .i64 x, .int .i64 y]] w fun e w' => e = .returned (.bool true) ∧ Below w.heap.size w w' := by
  have kaw := fun V => awake_any V
  have kf := fun V => few_any s.body V
  by_cases h1 : fewB s.body = false
  · rw [h1] at kf
    clear h1
    obtain ⟨t, p, e, v, n, m, l, d⟩ := s
    unfold Sc.vals
    dsimp only at *
    have HB := Lib.hid (bk2 w 23 46 #[.int .i64 t, .bool p, .int .i64 e, .int .i64 v, .bool n, .int .i64 m, .int .i64 l, .string d] #[.int .i64 x, .int .i64 y])
    go_enter Try.func8, Try.ntmps8
    go_wp2_with fail
    (with_reducible refine (kf _).mono ?_); rintro e1 W1 ⟨rfl, rfl⟩
    go_wp2_with fail
    (with_reducible refine (kaw _).mono ?_); rintro e1 W2 ⟨rfl, hb1⟩
    have hE := (HB.out.below hb1).be
    go_wp2_with fail
    go_ret
    exact ⟨rfl, hE⟩
  have h1 : fewB s.body = true := by simpa using h1
  rw [h1] at kf
  by_cases h2 : 9000 < b.size
  · have t2 : decide (9000 < (b.size : Int)) = true := by simp; omega
    clear h1 h2
    obtain ⟨t, p, e, v, n, m, l, d⟩ := s
    unfold Sc.vals
    dsimp only at *
    have HB := Lib.hid (bk2 w 23 46 #[.int .i64 t, .bool p, .int .i64 e, .int .i64 v, .bool n, .int .i64 m, .int .i64 l, .string d] #[.int .i64 x, .int .i64 y])
    go_enter Try.func8, Try.ntmps8
    go_wp2_with fail
    (with_reducible refine (kf _).mono ?_); rintro e1 W1 ⟨rfl, rfl⟩
    go_wp2_with fail
    (with_reducible refine (kaw _).mono ?_); rintro e1 W2 ⟨rfl, hb1⟩
    have hE := (HB.out.below hb1).be
    go_wp2_with fail
    go_ret
    exact ⟨rfl, hE⟩
  have t2 : decide (9000 < (b.size : Int)) = false := by simp; omega
  have z9 : (b.size : Int) ≤ 9000 := by omega
  have ks := fun V => split_any 9 8 7 b V (by omega)
  have hg := good987 (b := b) (by omega)
  have hM2 : many b.size ≤ 3 := by unfold many; omega
  have hjs := jo_spl hg
  have hlen := spl_len hg
  have hmx := jo_len b.size
  rw [spl_E hg] at ks
  obtain ⟨L, hL⟩ : ∃ L, splL 9 8 7 b = L := ⟨_, rfl⟩
  obtain ⟨M, hM⟩ : ∃ M, many b.size = M := ⟨_, rfl⟩
  rw [hL] at ks hjs hlen
  rw [hM] at hM2 hlen hmx
  have HJS := Lib.hid hjs
  have HLE := Lib.hid hlen
  have hfl := fewB_le h1
  have kp := fun V => plain_any s V
  have krc := fun V => rcheck_any s V
  clear hL hM hg h1 h2 hjs hlen
  by_cases hc : s.chk = 0
  · have ken := fun V => enc_any s V
    obtain ⟨hd1, hd2, hd3, hd4⟩ := enc_dec hc
    have hsz := bytes_size s
    have kd := fun V => decode_any (bytesS s) V (by omega)
    have kn := fun V => need_any (bytesS s) V (by omega)
    have kd2 := fun i d V => decode_any (str ((bl (bytesS s)).set i d)) V (by show ((bl (bytesS s)).set i d).length ≤ _; rw [List.length_set, bl_len]; omega)
    have hbad := fun i c d => @turned_bad s i c d
    rw [hd1, hd2] at kd
    rw [hd3, hd4, ← hsz] at kn
    rw [show encS s = bytesS s by unfold encS; rw [if_pos hc], hc] at ken
    rw [hc] at krc
    have hq := fun V => eqTS s s V
    rw [decide_eq_true rfl] at hq
    obtain ⟨T, hT⟩ : ∃ T, bytesS s = T := ⟨_, rfl⟩
    rw [hT] at kd kn ken kd2 hbad hsz
    clear hc hd1 hd2 hd3 hd4 hT
    obtain ⟨t, p, e, v, n, m, l, d⟩ := s
    unfold Sc.vals at *
    dsimp only at *
    have u1 : ((T.size : Int) != (d.size : Int) + 12) = false := by simp; omega
    have u2 : (T.size : Int) ≤ 5012 := by omega
    have u3 : (d.size : Int) ≤ 5000 := by omega
    have HSZ := Lib.hid hsz
    have HBAD := Lib.hid hbad
    clear hsz hbad hfl
    have HB := Lib.hid (bk2 w 23 46 #[.int .i64 t, .bool p, .int .i64 e, .int .i64 v, .bool n, .int .i64 m, .int .i64 l, .string d] #[.int .i64 x, .int .i64 y])
    go_enter Try.func8, Try.ntmps8
    go_wp2_with fail
    (with_reducible refine (kf _).mono ?_); rintro e1 W1 ⟨rfl, rfl⟩
    go_wp2_with fail
    (with_reducible refine (ks _).mono ?_); rintro e1 W1 ⟨⟨a, n1, c, rfl, hn1, hS, -⟩, hb1⟩
    obtain rfl : M = n1 := by rw [← hn1, HLE.out]
    have HB1 := Lib.hid (HB.out.below hb1)
    have kj := join_any a M c L _ HLE.out (by omega) hS
    rw [HJS.out.1, HJS.out.2] at kj
    clear ks hS hn1 hb1 hM2 kf
    go_wp2_with fail
    (with_reducible refine (kj).mono ?_); rintro e1 W2 ⟨rfl, hb2⟩
    have HB2 := Lib.hid (HB1.out.below hb2)
    have c0 := Blk.cell (HB2.out.nth 1 rfl) 0 (v := .int .i64 t) rfl
    have c1 := Blk.cell (HB2.out.nth 1 rfl) 1 (v := .bool p) rfl
    have c2 := Blk.cell (HB2.out.nth 1 rfl) 2 (v := .int .i64 e) rfl
    have c3 := Blk.cell (HB2.out.nth 1 rfl) 3 (v := .int .i64 v) rfl
    have c4 := Blk.cell (HB2.out.nth 1 rfl) 4 (v := .bool n) rfl
    have c5 := Blk.cell (HB2.out.nth 1 rfl) 5 (v := .int .i64 m) rfl
    have c6 := Blk.cell (HB2.out.nth 1 rfl) 6 (v := .int .i64 l) rfl
    have c7 := Blk.cell (HB2.out.nth 1 rfl) 7 (v := .string d) rfl
    clear kj hb2
    go_wp2_with fail
    (with_reducible refine (kp _).mono ?_); rintro e1 W3 ⟨rfl, hb3⟩
    have HB3 := Lib.hid (HB2.out.below hb3)
    clear kp hb3 c0 c1 c2 c3 c4 c5 c6 c7 hmx
    go_wp2_with fail
    (with_reducible refine (krc _).mono ?_); rintro e1 W4 ⟨rfl, hb4⟩
    have HB4 := Lib.hid (HB3.out.below hb4)
    have c0 := Blk.cell (HB4.out.nth 1 rfl) 0 (v := .int .i64 t) rfl
    have c1 := Blk.cell (HB4.out.nth 1 rfl) 1 (v := .bool p) rfl
    have c2 := Blk.cell (HB4.out.nth 1 rfl) 2 (v := .int .i64 e) rfl
    have c3 := Blk.cell (HB4.out.nth 1 rfl) 3 (v := .int .i64 v) rfl
    have c4 := Blk.cell (HB4.out.nth 1 rfl) 4 (v := .bool n) rfl
    have c5 := Blk.cell (HB4.out.nth 1 rfl) 5 (v := .int .i64 m) rfl
    have c6 := Blk.cell (HB4.out.nth 1 rfl) 6 (v := .int .i64 l) rfl
    have c7 := Blk.cell (HB4.out.nth 1 rfl) 7 (v := .string d) rfl
    clear krc hb4
    go_wp2_with fail
    (with_reducible refine (ken _).mono ?_); rintro e1 W5 ⟨rfl, hb5⟩
    have HB5 := Lib.hid (HB4.out.below hb5)
    clear ken hb5 c0 c1 c2 c3 c4 c5 c6 c7
    go_wp2_with fail
    (with_reducible refine (kd _).mono ?_); rintro e1 W6 ⟨rfl, hb6⟩
    have HB6 := Lib.hid ((HB5.out.below hb6).new 23 #[.int .i64 t, .bool p, .int .i64 e, .int .i64 v, .bool n, .int .i64 m, .int .i64 l, .string d])
    clear kd hb6
    go_wp2_with fail
    (with_reducible refine (kn _).mono ?_); rintro e1 W7 ⟨rfl, hb7⟩
    have HB7 := Lib.hid (HB6.out.below hb7)
    have c0 := Blk.cell (HB7.out.nth 2 rfl) 0 (v := .int .i64 t) rfl
    have c1 := Blk.cell (HB7.out.nth 2 rfl) 1 (v := .bool p) rfl
    have c2 := Blk.cell (HB7.out.nth 2 rfl) 2 (v := .int .i64 e) rfl
    have c3 := Blk.cell (HB7.out.nth 2 rfl) 3 (v := .int .i64 v) rfl
    have c4 := Blk.cell (HB7.out.nth 2 rfl) 4 (v := .bool n) rfl
    have c5 := Blk.cell (HB7.out.nth 2 rfl) 5 (v := .int .i64 m) rfl
    have c6 := Blk.cell (HB7.out.nth 2 rfl) 6 (v := .int .i64 l) rfl
    have c7 := Blk.cell (HB7.out.nth 2 rfl) 7 (v := .string d) rfl
    have d0 := Blk.cell (HB7.out.nth 0 rfl) 0 (v := .int .i64 t) rfl
    have d1 := Blk.cell (HB7.out.nth 0 rfl) 1 (v := .bool p) rfl
    have d2 := Blk.cell (HB7.out.nth 0 rfl) 2 (v := .int .i64 e) rfl
    have d3 := Blk.cell (HB7.out.nth 0 rfl) 3 (v := .int .i64 v) rfl
    have d4 := Blk.cell (HB7.out.nth 0 rfl) 4 (v := .bool n) rfl
    have d5 := Blk.cell (HB7.out.nth 0 rfl) 5 (v := .int .i64 m) rfl
    have d6 := Blk.cell (HB7.out.nth 0 rfl) 6 (v := .int .i64 l) rfl
    have d7 := Blk.cell (HB7.out.nth 0 rfl) 7 (v := .string d) rfl
    have z0 := Blk.cell (HB7.out.nth 1 rfl) 0 (v := .int .i64 x) rfl
    have z1 := Blk.cell (HB7.out.nth 1 rfl) 1 (v := .int .i64 y) rfl
    clear kn hb7
    by_cases hx0 : x < 0
    · have t4 : decide (x < 0) = true := by simpa using hx0
      clear hx0
      go_wp2_with fail
      (with_reducible refine (kaw _).mono ?_); rintro e1 W8 ⟨rfl, hb8⟩
      have hE := (HB7.out.below hb8).be
      go_wp2_with fail
      go_ret
      exact ⟨rfl, hE⟩
    have t4 : decide (x < 0) = false := by simpa using hx0
    by_cases hx1 : (T.size : Int) ≤ x
    · have t5 : decide ((T.size : Int) ≤ x) = true := by simpa using hx1
      clear hx0 hx1
      go_wp2_with fail
      (with_reducible refine (kaw _).mono ?_); rintro e1 W8 ⟨rfl, hb8⟩
      have hE := (HB7.out.below hb8).be
      go_wp2_with fail
      go_ret
      exact ⟨rfl, hE⟩
    have t5 : decide ((T.size : Int) ≤ x) = false := by simpa using hx1
    by_cases hy : y.tmod 256 = 0
    · have t6 : (y.tmod 256 == 0) = true := by simpa using hy
      clear hx0 hx1 hy
      go_wp2_with fail
      (with_reducible refine (kaw _).mono ?_); rintro e1 W8 ⟨rfl, hb8⟩
      have hE := (HB7.out.below hb8).be
      go_wp2_with fail
      go_ret
      exact ⟨rfl, hE⟩
    have t6 : (y.tmod 256 == 0) = false := by simpa using hy
    obtain ⟨i, rfl⟩ : ∃ i : Nat, x = (i : Int) := ⟨x.toNat, by omega⟩
    have hi : i < T.size := by omega
    obtain ⟨q, hq1⟩ : ∃ q, (bl T)[i]? = some q := ⟨_, List.getElem?_eq_getElem (by rw [bl_len]; exact hi)⟩
    obtain ⟨r, hr, hqr⟩ := byte_turned q y hy
    obtain ⟨hbE, hbS⟩ := HBAD.out i q r hq1 hqr
    have kd3 := fun V => kd2 i r V
    rw [hbS] at kd3
    have hconv := fun (w : World) (s : ByteArray) => run_bytes_of_string w 9 54 5 s Try.underlying9 Try.underlying54 Try.underlying5
    clear hx0 hx1 hy hqr hbS kd2
    go_wp2_with fail
    generalize hcg : grownCap W7 T.size 0 5 = cap
    have hcap : T.size ≤ cap := by rw [← hcg]; exact grownCap_ge _ _ _ _
    refine wp_gen (fun W => (∀ j, j < T.size → W.cell? ⟨W7.heap.size, j, none⟩ = some (.int .u8 (at' T j))) ∧ W.frozen? ⟨W7.heap.size, i, none⟩ = false ∧ W7.heap.size < W.heap.size ∧ Below W7.heap.size W7 W) ⟨fun j hj => ?_, ?_, by simp, ((Below.refl _ _).alloc (Nat.le_refl _) _).drew⟩ ?_
    · show World.cell? (W7.alloc _) _ = _
      rw [World.cell?_alloc_mark, bytesRow_at _ _ _ hj]
      unfold at'
      rw [Array.getElem?_eq_getElem hj]; rfl
    · refine (World.frozen?_alloc_mark W7 (bytesRow T cap) 5 (bytesRow T cap).size ((bytesRow T cap).size + 1) i).trans ?_
      have hsz : T.size ≤ (bytesRow T cap).size := by have e : T.size = T.data.size := rfl; simp only [bytesRow, Array.size_append, Array.size_map, Array.size_replicate]; omega
      simp
      omega
    rintro W8 ⟨hby, hfz, hlt8, hb8⟩
    have HB8 := Lib.hid (HB7.out.below hb8)
    have hci := hby i hi
    rw [at_of hq1] at hci
    have HCV := Lib.hid (conv_set hby hi r)
    clear c0 c1 c2 c3 c4 c5 c6 c7 d0 d1 d2 d3 d4 d5 d6 d7 z0 z1 hby hcg hq1 hconv
    have z0 := Blk.cell (HB8.out.nth 1 rfl) 0 (v := .int .i64 (i : Int)) rfl
    have z1 := Blk.cell (HB8.out.nth 1 rfl) 1 (v := .int .i64 y) rfl
    have i0 : (0 : Int) ≤ (i : Int) := by omega
    have i1 : (i : Int) < (T.size : Int) := by omega
    have HBS := Lib.hid ((HB8.out.be.size))
    clear hb8
    go_region
    refine any_gen (F := fun V => Exit.then _ _ Exit.normal _ V) (fun V => (convert 54 9 (.slice (some ⟨W7.heap.size, 0, none⟩) T.size cap)).run Try.prog V = .ok (.string (str ((bl T).set i r))) V ∧ Below w.heap.size w V) ⟨HCV.out cap, (HB8.out.be.trans ((Below.refl _ _).setCell (p := ⟨W7.heap.size, i, none⟩) HB7.out.be.size _)).drew⟩ ?_
    rintro V ⟨hcv, hbV⟩
    obtain ⟨TB, hTB⟩ : ∃ TB, str ((bl T).set i r) = TB := ⟨_, rfl⟩
    rw [hTB] at hcv kd3 hbE
    obtain ⟨DE, hDE⟩ : ∃ DE, decE TB = DE := ⟨_, rfl⟩
    rw [hDE] at kd3 hbE
    have v1 : (DE != 0) = true := by simpa using hbE
    have hq2 := fun V => eqTS zeroS zeroS V
    rw [decide_eq_true rfl] at hq2
    unfold zeroS at hq2 kd3
    unfold Sc.vals at hq2
    dsimp only at hq2 kd3
    clear hTB hDE hbE HCV z0 z1 hr hci hfz
    go_wp2_with fail
    (with_reducible refine (kd3 _).mono ?_); rintro e1 W9 ⟨rfl, hb9⟩
    have HB9 := Lib.hid (show Bk w W9 [] from ⟨hbV.trans (hb9.mono hbV.size), fun _ h => by cases h⟩)
    have HB10 := Lib.hid (HB9.out.new 23 #[.int .i64 0, .bool false, .int .i64 0, .int .i64 0, .bool false, .int .i64 0, .int .i64 0, .string nob])
    clear kd3 hb9 hbV hcv
    go_wp2_with fail
    (with_reducible refine (kaw _).mono ?_); rintro e1 W10 ⟨rfl, hb10⟩
    have hE := (HB10.out.below hb10).be
    go_wp2_with fail
    go_ret
    exact ⟨rfl, hE⟩
  · obtain ⟨D, hDe⟩ : ∃ D, s.chk = D := ⟨_, rfl⟩
    rw [hDe] at krc hc
    have t3 : (D != 0) = true := by simpa using hc
    clear hc hDe hfl
    obtain ⟨t, p, e, v, n, m, l, d⟩ := s
    unfold Sc.vals at *
    dsimp only at *
    have HB := Lib.hid (bk2 w 23 46 #[.int .i64 t, .bool p, .int .i64 e, .int .i64 v, .bool n, .int .i64 m, .int .i64 l, .string d] #[.int .i64 x, .int .i64 y])
    go_enter Try.func8, Try.ntmps8
    go_wp2_with fail
    (with_reducible refine (kf _).mono ?_); rintro e1 W1 ⟨rfl, rfl⟩
    go_wp2_with fail
    (with_reducible refine (ks _).mono ?_); rintro e1 W1 ⟨⟨a, n1, c, rfl, hn1, hS, -⟩, hb1⟩
    obtain rfl : M = n1 := by rw [← hn1, HLE.out]
    have HB1 := Lib.hid (HB.out.below hb1)
    have kj := join_any a M c L _ HLE.out (by omega) hS
    rw [HJS.out.1, HJS.out.2] at kj
    clear ks hS hn1 hb1 hM2 kf
    go_wp2_with fail
    (with_reducible refine (kj).mono ?_); rintro e1 W2 ⟨rfl, hb2⟩
    have HB2 := Lib.hid (HB1.out.below hb2)
    have c0 := Blk.cell (HB2.out.nth 1 rfl) 0 (v := .int .i64 t) rfl
    have c1 := Blk.cell (HB2.out.nth 1 rfl) 1 (v := .bool p) rfl
    have c2 := Blk.cell (HB2.out.nth 1 rfl) 2 (v := .int .i64 e) rfl
    have c3 := Blk.cell (HB2.out.nth 1 rfl) 3 (v := .int .i64 v) rfl
    have c4 := Blk.cell (HB2.out.nth 1 rfl) 4 (v := .bool n) rfl
    have c5 := Blk.cell (HB2.out.nth 1 rfl) 5 (v := .int .i64 m) rfl
    have c6 := Blk.cell (HB2.out.nth 1 rfl) 6 (v := .int .i64 l) rfl
    have c7 := Blk.cell (HB2.out.nth 1 rfl) 7 (v := .string d) rfl
    clear kj hb2
    go_wp2_with fail
    (with_reducible refine (kp _).mono ?_); rintro e1 W3 ⟨rfl, hb3⟩
    have HB3 := Lib.hid (HB2.out.below hb3)
    clear kp hb3 c0 c1 c2 c3 c4 c5 c6 c7 hmx
    go_wp2_with fail
    (with_reducible refine (krc _).mono ?_); rintro e1 W4 ⟨rfl, hb4⟩
    have HB4 := Lib.hid (HB3.out.below hb4)
    clear krc hb4
    go_wp2_with fail
    (with_reducible refine (kaw _).mono ?_); rintro e1 W5 ⟨rfl, hb5⟩
    have hE := (HB4.out.below hb5).be
    go_wp2_with fail
    go_ret
    exact ⟨rfl, hE⟩
end Go.Proofs.Ytpigkccfepmmgaa.SpK
