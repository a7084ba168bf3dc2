/- section: Join. -/
import Derived.Test.YtpigkccfepmmgaaSpA
import Derived.Test.YtpigkccfepmmgaaBlS
namespace Go.Proofs.Ytpigkccfepmmgaa.SpB
open Go Go.RowKit Go.Proofs.Ytpigkccfepmmgaa.Q Go.Proofs.Ytpigkccfepmmgaa.Mem Go.Proofs.Ytpigkccfepmmgaa.Rg Go.Proofs.Ytpigkccfepmmgaa.Ap Go.Proofs.Ytpigkccfepmmgaa.St Go.Proofs.Ytpigkccfepmmgaa.SeA Go.Proofs.Ytpigkccfepmmgaa.SeE Go.Proofs.Ytpigkccfepmmgaa.SeEq Go.Proofs.Ytpigkccfepmmgaa.SpA Go.Proofs.Ytpigkccfepmmgaa.BlS

/-- what is the same in all sections of a table -/
def kinS (s : Sc) : Sc := { s with number := 0, body := nob }
def firstE : List Sc → Int
  | [] => 0
  | s :: t => if s.chk = 0 then firstE t else s.chk
def kinA (a : Sc) (L : List Sc) : Prop := ∀ s ∈ L, kinS s = kinS a
def ordA (n : Nat) : Nat → List Sc → Prop
  | _, [] => True
  | i, s :: t => (s.number = (i : Int) ∧ s.last = (n : Int) - 1) ∧ ordA n (i + 1) t
instance (a : Sc) (L : List Sc) : Decidable (kinA a L) := by unfold kinA; infer_instance
instance ordDec (n : Nat) : (i : Nat) → (L : List Sc) → Decidable (ordA n i L)
  | _, [] => isTrue trivial
  | i, s :: t => by have := ordDec n (i + 1) t; unfold ordA; infer_instance
/-- what is wrong with sections; the text that they are -/
def joE (L : List Sc) : Int := match L with
  | [] => 18
  | a :: t => if firstE (a :: t) ≠ 0 then firstE (a :: t) else if ¬ kinA a (a :: t) then 14 else if ¬ ordA (a :: t).length 0 (a :: t) then 22 else 0
def bodies (L : List Sc) : List UInt8 := L.flatMap fun s => bl s.body
def joS (L : List Sc) : ByteArray := if joE L = 0 then str (bodies L) else nob
theorem first_take {L : List Sc} {k : Nat} {s : Sc} (hk : L[k]? = some s) (hf : firstE (L.take k) = 0) : (s.chk = 0 → firstE (L.take (k + 1)) = 0) ∧ (s.chk ≠ 0 → firstE L = s.chk) := by
  induction L generalizing k with
  | nil => simp at hk
  | cons x t ih =>
    cases k with
    | zero =>
      simp at hk
      subst hk
      exact ⟨fun h => by simp [firstE, h], fun h => by simp [firstE, h]⟩
    | succ k =>
      simp at hk
      simp only [List.take_succ_cons, firstE] at hf ⊢
      split at hf
      · rename_i hx
        rw [if_pos hx, if_pos hx]
        exact ih hk hf
      · rename_i hx
        exact absurd hf hx
theorem ord_get {n : Nat} : ∀ {L : List Sc} {i : Nat}, ordA n i L ↔ ∀ k s, L[k]? = some s → s.number = ((i + k : Nat) : Int) ∧ s.last = (n : Int) - 1
  | [], i => ⟨fun _ k s h => by simp at h, fun _ => trivial⟩
  | x :: t, i => by
    rw [ordA, ord_get]
    constructor
    · rintro ⟨h1, h2⟩ k s hk
      cases k with
      | zero => simp at hk; subst hk; exact h1
      | succ k => simp at hk; have := h2 k s hk; rw [show i + (k + 1) = i + 1 + k by omega]; exact this
    · intro h
      exact ⟨h 0 x rfl, fun k s hk => by have := h (k + 1) s (by simpa using hk); rw [show i + 1 + k = i + (k + 1) by omega]; exact this⟩
theorem bodies_snoc {L : List Sc} {k : Nat} {s : Sc} (h : L[k]? = some s) : bodies (L.take (k + 1)) = bodies (L.take k) ++ bl s.body := by rw [List.take_add_one, h]; simp [bodies]
theorem first_body {L : List Sc} (h : firstE L = 0) : ∀ s ∈ L, s.chk = 0 := by
  induction L with
  | nil => intro s hs; cases hs
  | cons x t ih =>
    intro s hs
    rw [firstE] at h
    split at h
    · rename_i hx
      rcases List.mem_cons.1 hs with rfl | hs
      · exact hx
      · exact ih h s hs
    · rename_i hx; exact absurd h hx
set_option maxRecDepth 100000
theorem kin_any (s : Sc) (w : World) : Calls Try.prog 32 #[.agg s.vals] w fun e w' => e = .returned (.agg (kinS s).vals) ∧ Below w.heap.size w w' := by
  obtain ⟨t, p, e, v, n, m, l, b⟩ := s
  unfold kinS Sc.vals
  dsimp only
  have HB := Lib.hid (bk2 w 23 23 #[.int .i64 t, .bool p, .int .i64 e, .int .i64 v, .bool n, .int .i64 0, .int .i64 l, .string nob] #[.int .i64 t, .bool p, .int .i64 e, .int .i64 v, .bool n, .int .i64 0, .int .i64 l, .string nob])
  go_enter Try.func32, Try.ntmps32
  go_wp2_with fail
  exact bodyPost_ret (v := .agg #[.int .i64 t, .bool p, .int .i64 e, .int .i64 v, .bool n, .int .i64 0, .int .i64 l, .string nob]) (results_cell_row rfl _ _ (w.heap.size + 1) 23 _ (0, 0) _ rfl (HB.out.nth 0 rfl) Try.underlying23 rfl (by kernel_rfl)) rfl ⟨rfl, HB.out.be⟩
/-- element k's cells -/
theorem seq_cells {w : World} {a : Option Addr} {L : List Sc} (h : Seq enSc 8 w a L) {k : Nat} {t e v m l : Int} {p n : Bool} {x : ByteArray} (hk : L[k]? = some ⟨t, p, e, v, n, m, l, x⟩) :
    ∃ b o, a = some ⟨b, o, none⟩ ∧ b < w.heap.size ∧ w.cell? ⟨b, o + k * 8, none⟩ = some (.int .i64 t) ∧ w.cell? ⟨b, o + k * 8 + 1, none⟩ = some (.bool p) ∧ w.cell? ⟨b, o + k * 8 + 2, none⟩ = some (.int .i64 e) ∧ w.cell? ⟨b, o + k * 8 + 3, none⟩ = some (.int .i64 v) ∧
      w.cell? ⟨b, o + k * 8 + 4, none⟩ = some (.bool n) ∧ w.cell? ⟨b, o + k * 8 + 5, none⟩ = some (.int .i64 m) ∧ w.cell? ⟨b, o + k * 8 + 6, none⟩ = some (.int .i64 l) ∧ w.cell? ⟨b, o + k * 8 + 7, none⟩ = some (.string x) := by
  obtain ⟨b, o, e1, hlt, hc⟩ := h k _ hk
  exact ⟨b, o, e1, hlt, hc 0 _ rfl, hc 1 _ rfl, hc 2 _ rfl, hc 3 _ rfl, hc 4 _ rfl, hc 5 _ rfl, hc 6 _ rfl, hc 7 _ rfl⟩
set_option maxHeartbeats 3200000 in
theorem join_go (a : Option Addr) (n c : Nat) (L : List Sc) (w : World) (hn : L.length = n) (h0 : n ≠ 0) (hl : n ≤ 100000) (hL : Seq enSc 8 w a L) :
    Calls Try.prog 18 #[.slice a n c] w fun e w' => e = .returned (.tuple #[.string (joS L), .int .i64 (joE L)]) ∧ Below w.heap.size w w' := by
  obtain ⟨R, hR⟩ : ∃ R : Ending → World → Prop, R = (fun e w' => e = .returned (.tuple #[.string (joS L), .int .i64 (joE L)]) ∧ Below w.heap.size w w') := ⟨_, rfl⟩
  rw [← hR]
  have HR := Lib.hid hR
  have HL := Lib.hid hL
  obtain ⟨A, t, rfl⟩ : ∃ A t, L = A :: t := by
    cases L with
    | nil => simp at hn; omega
    | cons A t => exact ⟨A, t, rfl⟩
  obtain ⟨L, hLe⟩ : ∃ L, A :: t = L := ⟨_, rfl⟩
  have hJ : joE (A :: t) = if firstE (A :: t) ≠ 0 then firstE (A :: t) else if ¬ kinA A (A :: t) then 14 else if ¬ ordA (A :: t).length 0 (A :: t) then 22 else 0 := rfl
  have hA0 : (A :: t)[0]? = some A := rfl
  have hJS : joS (A :: t) = if joE (A :: t) = 0 then str (bodies (A :: t)) else nob := rfl
  rw [hLe] at hJ hA0 HR HL hn hJS
  have HJ := Lib.hid hJ
  have HJS := Lib.hid hJS
  have HA0 := Lib.hid hA0
  have HN := Lib.hid hn
  have t9 : ((n : Int) == 0) = false := by simp; omega
  have t9' : (n == 0) = false := by simp; omega
  clear hR hL hLe hJ hA0 hJS
  go_enter Try.func18, Try.ntmps18
  go_wp2_with fail
  go_loopw [17] (fun i wr => ∃ k : Nat, k ≤ n ∧ i = .int .i64 k ∧ firstE (L.take k) = 0 ∧ Below w.heap.size w wr) (fun i _ => n - (intOf i).toNat)
  case atStart => exact ⟨0, by omega, rfl, rfl, Below.refl _ _⟩
  case round =>
    obtain ⟨k, hk, rfl, hf, hb⟩ := hrel
    by_cases hkn : k < n
    · have t0 : decide (k < n) = true := by simpa using hkn
      obtain ⟨s, hs⟩ : ∃ s, L[k]? = some s := ⟨_, List.getElem?_eq_getElem (by rw [HN.out]; exact hkn)⟩
      obtain ⟨hf1, hf2⟩ := first_take hs hf
      have kc := fun V => check_any s V
      by_cases hE : s.chk = 0
      · have HF := Lib.hid (hf1 hE)
        rw [hE] at kc
        obtain ⟨t, p, e, v, nn, m, l, x⟩ := s
        obtain ⟨b1, o1, rfl, hlt, c0, c1, c2, c3, c4, c5, c6, c7⟩ := seq_cells (HL.out.below (Nat.le_refl _) hb) hs
        unfold Sc.vals at kc
        dsimp only at kc
        have k0 : (0 : Int) ≤ (k : Int) := Int.natCast_nonneg _
        have k1 : (k : Int) < (n : Int) := by omega
        have HB := Lib.hid hb
        clear hs hf1 hf2 hE hf hlt hb
        go_wp2_with fail
        (with_reducible refine (kc _).mono ?_); rintro e1 W1 ⟨rfl, hb1⟩
        have hb2 := HB.out.trans (((bk1 wr 23 #[.int .i64 t, .bool p, .int .i64 e, .int .i64 v, .bool nn, .int .i64 m, .int .i64 l, .string x]).below hb1).be.mono HB.out.size)
        clear kc c0 c1 c2 c3 c4 c5 c6 c7 hb1
        go_wp2_with fail
        go_roundw
        case rel => exact ⟨k + 1, by omega, by go_num, HF.out, hb2⟩
        case measure => simp [intOf]; omega
      · have hFE := hf2 hE
        have hjE : joE L = s.chk := by rw [HJ.out, if_pos (by rw [hFE]; exact hE), hFE]
        obtain ⟨ce, hce⟩ : ∃ ce, s.chk = ce := ⟨_, rfl⟩
        rw [hce] at kc hE hjE
        have HE := Lib.hid (show joE L = ce ∧ joS L = nob from ⟨hjE, by rw [HJS.out, hjE, if_neg hE]⟩)
        have t1 : (ce != 0) = true := by simpa using hE
        obtain ⟨t, p, e, v, nn, m, l, x⟩ := s
        obtain ⟨b1, o1, rfl, hlt, c0, c1, c2, c3, c4, c5, c6, c7⟩ := seq_cells (HL.out.below (Nat.le_refl _) hb) hs
        unfold Sc.vals at kc
        dsimp only at kc
        have k0 : (0 : Int) ≤ (k : Int) := Int.natCast_nonneg _
        have k1 : (k : Int) < (n : Int) := by omega
        have HB := Lib.hid hb
        clear hs hf1 hf2 hE hf hlt hb hFE hjE hce
        go_wp2_with fail
        (with_reducible refine (kc _).mono ?_); rintro e1 W1 ⟨rfl, hb1⟩
        have hb2 := HB.out.trans (((bk1 wr 23 #[.int .i64 t, .bool p, .int .i64 e, .int .i64 v, .bool nn, .int .i64 m, .int .i64 l, .string x]).below hb1).be.mono HB.out.size)
        clear kc c0 c1 c2 c3 c4 c5 c6 c7 hb1
        go_wp2_with fail
        rw [HR.out, HE.out.1, HE.out.2]
        exact ⟨rfl, hb2⟩
    · obtain rfl : k = n := by omega
      have t0 : decide (k < k) = false := by simp
      rw [show L.take k = L by rw [← HN.out, List.take_length]] at hf
      have HF := Lib.hid hf
      obtain ⟨wo, rfl⟩ : ∃ wo : World, wo = wr := ⟨_, rfl⟩
      clear hf
      go_wp2_with fail
      go_loopw [29] (fun i wr => ∃ j : Nat, j ≤ k ∧ i = .int .i64 j ∧ Hid (kinA A (L.take j)) ∧ Below w.heap.size w wr) (fun i _ => k - (intOf i).toNat)
      case atStart => exact ⟨0, by omega, rfl, Lib.hid (fun s hs => by simp at hs), hb⟩
      case round =>
        clear hb
        obtain ⟨j, hj, rfl, hK, hb⟩ := hrel
        by_cases hjk : j < k
        · have t0 : decide (j < k) = true := by simpa using hjk
          obtain ⟨s, hs⟩ : ∃ s, L[j]? = some s := ⟨_, List.getElem?_eq_getElem (by rw [HN.out]; exact hjk)⟩
          have kk := fun V => kin_any s V
          have ka := fun V => kin_any A V
          have hq := fun V => eqTS (kinS s) (kinS A) V
          obtain ⟨t, p, e, v, nn, m, l, x⟩ := s
          obtain ⟨t', p', e', v', nn', m', l', x'⟩ := A
          have HB := Lib.hid hb
          have hLw := HL.out.below (Nat.le_refl _) hb
          obtain ⟨b1, o1, ea, hlt, c0, c1, c2, c3, c4, c5, c6, c7⟩ := seq_cells hLw hs
          subst ea
          obtain ⟨bb, oo, ea, hlt2, d0, d1, d2, d3, d4, d5, d6, d7⟩ := seq_cells (hLw.below (Nat.le_refl _) ((Below.refl wr.heap.size wr).alloc (Nat.le_refl _) (.cells #[.int .i64 t, .bool p, .int .i64 e, .int .i64 v, .bool nn, .int .i64 m, .int .i64 l, .string x] 23))) HA0.out
          obtain ⟨rfl, rfl⟩ : b1 = bb ∧ o1 = oo := by simpa using ea
          simp only [Nat.zero_mul, Nat.add_zero] at d0 d1 d2 d3 d4 d5 d6 d7
          have d0 := fun pX => cell_ext hlt2 d0 pX
          have d1 := fun pX => cell_ext hlt2 d1 pX
          have d2 := fun pX => cell_ext hlt2 d2 pX
          have d3 := fun pX => cell_ext hlt2 d3 pX
          have d4 := fun pX => cell_ext hlt2 d4 pX
          have d5 := fun pX => cell_ext hlt2 d5 pX
          have d6 := fun pX => cell_ext hlt2 d6 pX
          have d7 := fun pX => cell_ext hlt2 d7 pX
          have HW := Lib.hid (bk1 wr 23 #[.int .i64 t, .bool p, .int .i64 e, .int .i64 v, .bool nn, .int .i64 m, .int .i64 l, .string x])
          have z0 := fun pX => Blk.cell (blk_ext (HW.out.nth 0 rfl) pX) 0 (v := .int .i64 t) rfl
          have z1 := fun pX => Blk.cell (blk_ext (HW.out.nth 0 rfl) pX) 1 (v := .bool p) rfl
          have z2 := fun pX => Blk.cell (blk_ext (HW.out.nth 0 rfl) pX) 2 (v := .int .i64 e) rfl
          have z3 := fun pX => Blk.cell (blk_ext (HW.out.nth 0 rfl) pX) 3 (v := .int .i64 v) rfl
          have z4 := fun pX => Blk.cell (blk_ext (HW.out.nth 0 rfl) pX) 4 (v := .bool nn) rfl
          have z5 := fun pX => Blk.cell (blk_ext (HW.out.nth 0 rfl) pX) 5 (v := .int .i64 m) rfl
          have z6 := fun pX => Blk.cell (blk_ext (HW.out.nth 0 rfl) pX) 6 (v := .int .i64 l) rfl
          have z7 := fun pX => Blk.cell (blk_ext (HW.out.nth 0 rfl) pX) 7 (v := .string x) rfl
          have k0 : (0 : Int) ≤ (j : Int) := Int.natCast_nonneg _
          have k1 : (j : Int) < (k : Int) := by omega
          have k2 : (0 : Int) < (k : Int) := by omega
          by_cases hE : kinS ⟨t, p, e, v, nn, m, l, x⟩ = kinS ⟨t', p', e', v', nn', m', l', x'⟩
          · rw [decide_eq_true hE] at hq
            have HK := Lib.hid (show kinA ⟨t', p', e', v', nn', m', l', x'⟩ (L.take (j + 1)) from fun y hy => by
              rw [List.take_add_one, hs] at hy
              rcases List.mem_append.1 hy with hy | hy
              · exact hK.out y hy
              · simp at hy; subst hy; exact hE)
            unfold kinS Sc.vals at kk ka hq
            dsimp only at kk ka hq
            clear hs hE hK hb hLw hlt hlt2 ea
            go_wp2_with fail
            refine Go.Proofs.Ytpigkccfepmmgaa.Q.region_ext (by kernel_rfl) (by kernel_rfl) ?_
            repeat (go_big_quiet_step ((first | (go_at_call 32; refine ext_call (kk _)) | (go_at_call 32; refine ext_call (ka _)))))
            refine wpQuiet_nil ?_
            rintro w9 ⟨pq, rfl⟩
            have hb2 := HB.out.trans ((HW.out.px pq).be.mono HB.out.size)
            clear c0 c1 c2 c3 c4 c5 c6 c7 d0 d1 d2 d3 d4 d5 d6 d7 z0 z1 z2 z3 z4 z5 z6 z7 hq kk ka
            go_wp2_with fail
            go_roundw
            case rel => exact ⟨j + 1, by omega, by go_num, HK, hb2⟩
            case measure => simp [intOf]; omega
          · rw [decide_eq_false hE] at hq
            have hnk : ¬ kinA ⟨t', p', e', v', nn', m', l', x'⟩ L := fun h => hE (h _ (List.mem_of_getElem? hs))
            have hjE : joE L = 14 := by rw [HJ.out, if_neg (by simpa using HF.out), if_pos hnk]
            have HE := Lib.hid (show joE L = 14 ∧ joS L = nob from ⟨hjE, by rw [HJS.out, hjE, if_neg (by decide)]⟩)
            unfold kinS Sc.vals at kk ka hq
            dsimp only at kk ka hq
            clear hs hE hK hb hLw hlt hlt2 ea hnk hjE
            go_wp2_with fail
            refine Go.Proofs.Ytpigkccfepmmgaa.Q.region_ext (by kernel_rfl) (by kernel_rfl) ?_
            repeat (go_big_quiet_step ((first | (go_at_call 32; refine ext_call (kk _)) | (go_at_call 32; refine ext_call (ka _)))))
            refine wpQuiet_nil ?_
            rintro w9 ⟨pq, rfl⟩
            have hb2 := HB.out.trans ((HW.out.px pq).be.mono HB.out.size)
            clear c0 c1 c2 c3 c4 c5 c6 c7 d0 d1 d2 d3 d4 d5 d6 d7 z0 z1 z2 z3 z4 z5 z6 z7 hq kk ka
            go_wp2_with fail
            rw [HR.out, HE.out.1, HE.out.2]
            exact ⟨rfl, hb2⟩
        · obtain rfl : j = k := by omega
          have t0 : decide (j < j) = false := by simp
          rw [show L.take j = L by rw [← HN.out, List.take_length]] at hK
          have HB := Lib.hid hb
          have HI := Lib.hid (Lib.fresh_isBuilder 71 5 wr)
          obtain ⟨wo2, rfl⟩ : ∃ wo : World, wo = wr := ⟨_, rfl⟩
          clear hb
          go_wp2_with fail
          go_loopw [43] (fun i wr => ∃ q : Nat, q ≤ j ∧ i = .int .i64 q ∧ Hid ((∀ r s, r < q → L[r]? = some s → s.number = (r : Int) ∧ s.last = (j : Int) - 1) ∧ (bodies (L.take q)).length ≤ 4084 * q) ∧ IsB wo2.heap.size wo2.heap.size (Lib.byteCells (bodies (L.take q))) wr ∧ Below wo2.heap.size wo2 wr ∧ wo2.heap.size < wr.heap.size) (fun i _ => j - (intOf i).toNat)
          case atStart => exact ⟨0, by omega, rfl, Lib.hid ⟨fun r s h => by omega, by simp [bodies]⟩, by simpa [bodies, Lib.byteCells] using HI.out, (Below.refl _ _).alloc (Nat.le_refl _) _, by simp⟩
          case round =>
            clear HI
            obtain ⟨q, hq, rfl, hI, hB, hbe, hlt⟩ := hrel
            by_cases hqj : q < j
            · have t0 : decide (q < j) = true := by simpa using hqj
              obtain ⟨s, hs⟩ : ∃ s, L[q]? = some s := ⟨_, List.getElem?_eq_getElem (by rw [HN.out]; exact hqj)⟩
              obtain ⟨h1, h2⟩ := chk_zero (first_body HF.out s (List.mem_of_getElem? hs))
              have hw : Below w.heap.size w wr := HB.out.trans (hbe.mono HB.out.size)
              have HW := Lib.hid hw
              have HBE := Lib.hid hbe
              have HI := Lib.hid hI.out
              have hsn := bodies_snoc hs
              obtain ⟨t, p, e, v, nn, m, l, x⟩ := s
              obtain ⟨b1, o1, ea, hlt2, c0, c1, c2, c3, c4, c5, c6, c7⟩ := seq_cells (HL.out.below (Nat.le_refl _) hw) hs
              subst ea
              have k0 : (0 : Int) ≤ (q : Int) := Int.natCast_nonneg _
              have k1 : (q : Int) < (j : Int) := by omega
              by_cases hE : m = (q : Int) ∧ l = (j : Int) - 1
              · obtain ⟨rfl, rfl⟩ := hE
                have hl1 := hI.out.2
                dsimp only at h1 h2 hsn
                have HI2 := Lib.hid (show (∀ r s, r < q + 1 → L[r]? = some s → s.number = (r : Int) ∧ s.last = (j : Int) - 1) ∧ (bodies (L.take (q + 1))).length ≤ 4084 * (q + 1) from ⟨fun r y hr hy => by
                  rcases Nat.lt_or_ge r q with h | h
                  · exact HI.out.1 r y h hy
                  · obtain rfl : r = q := by omega
                    rw [hs] at hy; injection hy with hy; subst hy; exact ⟨rfl, rfl⟩, by rw [hsn, List.length_append, bl_len]; omega⟩)
                have kw := write_any wo2.heap.size wo2.heap.size _ x (wr.alloc (.cells #[.int .i64 t, .bool p, .int .i64 e, .int .i64 v, .bool nn, .int .i64 (q : Int), .int .i64 ((j : Int) - 1), .string x] 23)) (isb_below hB ((Below.refl _ _).alloc (Nat.le_refl _) _)) (by rw [Lib.byteCells, List.length_map]; omega) (by simp; omega)
                rw [str_cells, cells_app, ← hsn] at kw
                clear hs h1 h2 hI hB hw hlt2 hl1 hsn
                go_wp2_with fail
                (with_reducible refine (kw).mono ?_); rintro e1 W1 ⟨rfl, hB1, hb1⟩
                have hb2 : Below wo2.heap.size wo2 W1 := (hbe.alloc (by omega) _).trans hb1
                have hlt3 : wo2.heap.size < W1.heap.size := by have := hb1.size; simp at this; omega
                clear kw hb1 hbe c0 c1 c2 c3 c4 c5 c6 c7
                go_wp2_with fail
                go_roundw
                case rel => exact ⟨q + 1, by omega, by go_num, HI2, hB1, hb2, hlt3⟩
                case measure => simp [intOf]; omega
              · have hno : ¬ ordA L.length 0 L := fun h => hE (by
                  have := ord_get.1 h q _ hs
                  rw [Nat.zero_add, HN.out] at this
                  exact this)
                have hjE : joE L = 22 := by rw [HJ.out, if_neg (by simpa using HF.out), if_neg (by simpa using hK.out), if_pos hno]
                have HE := Lib.hid (show joE L = 22 ∧ joS L = nob from ⟨hjE, by rw [HJS.out, hjE, if_neg (by decide)]⟩)
                have hEnd : Below w.heap.size w (wr.alloc (.cells #[.int .i64 t, .bool p, .int .i64 e, .int .i64 v, .bool nn, .int .i64 m, .int .i64 l, .string x] 23)) := hw.alloc hw.size _
                have HEnd := Lib.hid hEnd
                by_cases hm : m = (q : Int)
                · have t1 : (m != (q : Int)) = false := by simpa using hm
                  have t2 : (l != (j : Int) - 1) = true := by simpa using fun e => hE ⟨hm, e⟩
                  clear hs h1 h2 hI hB hw hlt2 hsn hE hno hjE hEnd hm hbe
                  go_wp2_with fail
                  rw [HR.out, HE.out.1, HE.out.2]
                  exact ⟨rfl, HEnd.out⟩
                · have t1 : (m != (q : Int)) = true := by simpa using hm
                  clear hs h1 h2 hI hB hw hlt2 hsn hE hno hjE hEnd hm hbe
                  go_wp2_with fail
                  rw [HR.out, HE.out.1, HE.out.2]
                  exact ⟨rfl, HEnd.out⟩
            · obtain rfl : q = j := by omega
              have t0 : decide (q < q) = false := by simp
              rw [show L.take q = L by rw [← HN.out, List.take_length]] at hB
              have ho : ordA L.length 0 L := ord_get.2 fun r s hs => by
                have hr : r < q := by rw [← HN.out]; exact (List.getElem?_eq_some_iff.1 hs).1
                have := hI.out.1 r s hr hs
                rw [Nat.zero_add, HN.out]; exact this
              have hjE : joE L = 0 := by rw [HJ.out, if_neg (by simpa using HF.out), if_neg (by simpa using hK.out), if_neg (by simpa using ho)]
              have HE := Lib.hid (show joE L = 0 ∧ joS L = str (bodies L) from ⟨hjE, by rw [HJS.out, if_pos hjE]⟩)
              have ks := str_any wo2.heap.size wo2.heap.size (bodies L) wr hB (by omega)
              have hw := HB.out.trans (hbe.mono HB.out.size)
              have HW := Lib.hid hw
              have hsw := HB.out.size
              clear hB hI ho hjE hw hbe
              go_wp2_with fail
              (with_reducible refine (ks).mono ?_); rintro e1 W1 ⟨rfl, hb1⟩
              have hb2 := HW.out.trans (hb1.mono hsw)
              clear ks hb1
              go_wp2_with fail
              rw [HR.out, HE.out.1, HE.out.2]
              exact ⟨rfl, hb2⟩
theorem join_any (a : Option Addr) (n c : Nat) (L : List Sc) (w : World) (hn : L.length = n) (hl : n ≤ 100000) (hL : Seq enSc 8 w a L) :
    Calls Try.prog 18 #[.slice a n c] w fun e w' => e = .returned (.tuple #[.string (joS L), .int .i64 (joE L)]) ∧ Below w.heap.size w w' := by
  by_cases h0 : n = 0
  · subst h0
    obtain rfl : L = [] := List.eq_nil_of_length_eq_zero hn
    clear hn hl hL
    go_enter Try.func18, Try.ntmps18
    go_wp2_with fail
    go_ret2
    exact ⟨rfl, Below.refl _ _⟩
  · exact join_go a n c L w hn h0 hl hL
end Go.Proofs.Ytpigkccfepmmgaa.SpB
