/- The law's does. -/
import Derived.Test.YtnjbacdgecoedaaDoorLaB
namespace Go.Proofs.YtnjbacdgecoedaaDoor.LaC
open Go Go.RowKit Go.Proofs.YtnjbacdgecoedaaDoor.Q Go.Proofs.YtnjbacdgecoedaaDoor.Mem Go.Proofs.YtnjbacdgecoedaaDoor.Rg Go.Proofs.YtnjbacdgecoedaaDoor.Ap Go.Proofs.YtnjbacdgecoedaaDoor.St Go.Proofs.YtnjbacdgecoedaaDoor.BiW Go.Proofs.YtnjbacdgecoedaaDoor.CrB Go.Proofs.YtnjbacdgecoedaaDoor.TlS Go.Proofs.YtnjbacdgecoedaaDoor.TbM Go.Proofs.YtnjbacdgecoedaaDoor.TbO Go.Proofs.YtnjbacdgecoedaaDoor.TbP Go.Proofs.YtnjbacdgecoedaaDoor.TbR Go.Proofs.YtnjbacdgecoedaaDoor.TbS Go.Proofs.YtnjbacdgecoedaaDoor.RtM Go.Proofs.YtnjbacdgecoedaaDoor.RtN Go.Proofs.YtnjbacdgecoedaaDoor.RtO Go.Proofs.YtnjbacdgecoedaaDoor.LaA Go.Proofs.YtnjbacdgecoedaaDoor.LaB

set_option maxRecDepth 100000
/-- both tables, and the call's box -/
structure D3 (W : World) (B gt gr : Nat) (v : Value) (gx g1 g2 g3 : Nat) (S S' : Tb) (ob : Nat) (o : Opn) : Prop where
  t : TbIn W B gt gr v S
  x : RtIn W B gx g1 g2 g3 S'
  d : ∀ i, foot gt gr v i → ¬ feet gx g1 g2 g3 i
  b : Blk W ob 35 (enOp o).toArray
  nt : ∀ i, foot gt gr v i → i ≠ ob
  nx : ∀ i, feet gx g1 g2 g3 i → i ≠ ob
variable {W W' : World} {B gt gr gx g1 g2 g3 ob : Nat} {v v' : Value} {S S' S2 : Tb} {o : Opn}
theorem D3.below (h : D3 W B gt gr v gx g1 g2 g3 S S' ob o) (hb : Below W.heap.size W W') : D3 W' B gt gr v gx g1 g2 g3 S S' ob o :=
  ⟨h.t.below hb, h.x.below hb, h.d, Blk.below h.b hb h.b.lt, h.nt, h.nx⟩
theorem D3.ot (h : D3 W B gt gr v gx g1 g2 g3 S S' ob o) (ht : TbIn W' B gt gr v' S2) (hf : far W v v') (hk : Kept (foot gt gr v) W W') : D3 W' B gt gr v' gx g1 g2 g3 S2 S' ob o := by
  refine ⟨ht, h.x.kept hk (fun i hx hf => h.d i hf hx), far_apart h.x h.d hf, (hk.block ob h.b.lt (fun hf => h.nt _ hf rfl)).trans h.b, ?_, h.nx⟩
  rintro i (rfl | rfl | e)
  · exact h.nt _ (Or.inl rfl)
  · exact h.nt _ (Or.inr (Or.inl rfl))
  · rcases hf with h1 | ⟨j, h1, h2⟩
    · exact h.nt i (Or.inr (Or.inr (h1 ▸ e)))
    · rw [h1] at e
      injection e with e
      have := h.b.lt
      omega
theorem D3.on (h : D3 W B gt gr v gx g1 g2 g3 S S' ob o) (ht : TbIn W' B gt gr (.slice none 0 0) S2) (hk : Kept (foot gt gr v) W W') : D3 W' B gt gr (.slice none 0 0) gx g1 g2 g3 S2 S' ob o := by
  refine ⟨ht, h.x.kept hk (fun i hx hf => h.d i hf hx), ?_, (hk.block ob h.b.lt (fun hf => h.nt _ hf rfl)).trans h.b, ?_, h.nx⟩
  · rintro i (rfl | rfl | e)
    · exact h.d _ (Or.inl rfl)
    · exact h.d _ (Or.inr (Or.inl rfl))
    · cases e
  · rintro i (rfl | rfl | e)
    · exact h.nt _ (Or.inl rfl)
    · exact h.nt _ (Or.inr (Or.inl rfl))
    · cases e
theorem D3.ox (h : D3 W B gt gr v gx g1 g2 g3 S S' ob o) (hx : RtIn W' B gx g1 g2 g3 S2) (hk : Kept (feet gx g1 g2 g3) W W') : D3 W' B gt gr v gx g1 g2 g3 S S2 ob o :=
  ⟨h.t.kept hk (fun i hf hx => h.d i hf hx), hx, h.d, (hk.block ob h.b.lt (fun hf => h.nx _ hf rfl)).trans h.b, h.nt, h.nx⟩
theorem D3.sz (h : D3 W B gt gr v gx g1 g2 g3 S S' ob o) : B ≤ W.heap.size := by have := h.t.box.lt; have := h.t.bt; omega
def colOf (S : Tb) (o : Opn) : ByteArray := colS ((S.R : Int) + o.n) o.b
/-- what a call leaves -/
def doesS (S : Tb) (o : Opn) : Tb :=
  if o.ask = 0 then putS S o.at_ (bytesO o) else if o.ask = 1 then parS S o.at_ (colOf S o) else if o.ask = 2 then padS S o.n else if o.ask = 3 then emptyT S.R else S
theorem does_ok {S : Tb} (h : Ok S) (hl : S.st.length < 100000) (o : Opn) : Ok (doesS S o) ∧ (doesS S o).st.length ≤ S.st.length + 1 ∧ (doesS S o).R = S.R := by
  unfold doesS
  split
  · exact ⟨(put_ok h hl _ _).1, (put_ok h hl _ _).2, put_R _ _ _⟩
  · split
    · obtain ⟨h1, h2, h3⟩ := par_ok h o.at_ (colOf S o)
      exact ⟨h1, by rw [h2]; omega, h3⟩
    · split
      · obtain ⟨h1, h2, h3⟩ := pad_ok h o.n
        exact ⟨h1, by rw [h2]; omega, h3⟩
      · split
        · exact ⟨empty_ok h.R h.R0, by simp [emptyT], rfl⟩
        · exact ⟨h, by omega, rfl⟩
theorem putE_or (R : Nat) (a : Int) (s : ByteArray) : putE R a s = 0 ∨ putE R a s = 15 := by unfold putE; split <;> simp
set_option maxHeartbeats 3200000 in
theorem does_any (w : World) (B gt gx : Nat) (S : Tb) (o : Opn) (h : Both w B S gt gx) (hok : Ok S) (hf : fewO o) (hb : o.b < 256) (hB : B ≤ w.heap.size) :
    Calls Tryd.prog 9 #[.pointer (some ⟨gt, 0, none⟩), .pointer (some ⟨gx, 0, none⟩), .agg (enOp o).toArray] w fun e w' => e = .returned (.bool true) ∧ Both w' B (doesS S o) gt gx ∧ Below B w w' := by
  obtain ⟨gr, v, g1, g2, g3, hT, hX, hD⟩ := h
  have hbe : Below B w (w.alloc (.cells (enOp o).toArray 35)) := (Below.refl B w).alloc hB _
  have hD0 : D3 (w.alloc (.cells (enOp o).toArray 35)) B gt gr v gx g1 g2 g3 S S w.heap.size o :=
    ⟨hT.below ((Below.refl _ _).alloc (Nat.le_refl _) _), hX.below ((Below.refl _ _).alloc (Nat.le_refl _) _), hD, Blk.new _ _ _, fun i hf => by have := (hT.ge i hf).2; omega, fun i hf => by have := (hX.ge i hf).2; omega⟩
  have HS0 := Lib.hid (show doesS S o = if o.ask = 0 then putS S o.at_ (bytesO o) else if o.ask = 1 then parS S o.at_ (colOf S o) else if o.ask = 2 then padS S o.n else if o.ask = 3 then emptyT S.R else S from rfl)
  have kby := fun V => bytes_any o V hb
  have hbs := bytes_size o hf
  have HOK := Lib.hid hok
  have hR9 := hok.R
  have HC := Lib.hid (show colOf S o = colS ((S.R : Int) + o.n) o.b from rfl)
  obtain ⟨BY, hBY⟩ : ∃ BY, bytesO o = BY := ⟨_, rfl⟩
  rw [hBY] at kby HS0 hbs
  have HD0 := Lib.hid hD0
  have HF := Lib.hid hf
  clear hT hX hD hBY hok hD0 hf
  obtain ⟨ask, at_, n, b, text⟩ := o
  have c9 := Lib.hid ((HD0.out).b)
  dsimp only [enOp] at kby HS0 hb c9 HC hbe HD0 ⊢
  have c0 := Blk.cell (c9.out) 0 (v := .int .i64 ask) rfl
  have c1 := Blk.cell (c9.out) 1 (v := .int .i64 at_) rfl
  have c2 := Blk.cell (c9.out) 2 (v := .int .i64 n) rfl
  have c3 := Blk.cell (c9.out) 3 (v := .int .u8 (b : Int)) rfl
  have c4 := Blk.cell (c9.out) 4 (v := .string text) rfl
  by_cases h0 : ask = 0
  · subst h0
    have HS := Lib.hid (HS0.out.trans (if_pos rfl))
    clear HS0
    go_enter Tryd.func9, Tryd.ntmps9
    go_wp2_with fail
    (with_reducible refine (kby _).mono ?_); rintro e1 W1 ⟨rfl, hb1⟩
    have HD1 := Lib.hid (HD0.out.below hb1)
    have hbe1 := hbe.trans (hb1.mono HD0.out.sz)
    have d0 := Blk.cell (HD1.out.b) 0 (v := .int .i64 0) rfl
    have d1 := Blk.cell (HD1.out.b) 1 (v := .int .i64 at_) rfl
    have d2 := Blk.cell (HD1.out.b) 2 (v := .int .i64 n) rfl
    have d3 := Blk.cell (HD1.out.b) 3 (v := .int .u8 (b : Int)) rfl
    have d4 := Blk.cell (HD1.out.b) 4 (v := .string text) rfl
    have kp := rput_any W1 B gx g1 g2 g3 S at_ BY HD1.out.x HOK.out
    clear c0 c1 c2 c3 c4 kby hb1 HD0 c9
    obtain ⟨P, hP⟩ : ∃ P, decide (putE S.R at_ BY = 0) = P := ⟨_, rfl⟩
    rw [hP] at kp
    have HP := Lib.hid hP
    clear hP
    go_wp2_with fail
    (with_reducible refine (kp).mono ?_); rintro e2 W2 ⟨rfl, hx2, hk2⟩
    have HD2 := Lib.hid (HD1.out.ox hx2 hk2)
    have hbe2 := hbe1.trans (hk2.be HD1.out.sz (fun i hi => (HD1.out.x.ge i hi).1))
    have e0 := Blk.cell (HD2.out.b) 0 (v := .int .i64 0) rfl
    have e1 := Blk.cell (HD2.out.b) 1 (v := .int .i64 at_) rfl
    have e2 := Blk.cell (HD2.out.b) 2 (v := .int .i64 n) rfl
    have e3 := Blk.cell (HD2.out.b) 3 (v := .int .u8 (b : Int)) rfl
    have e4 := Blk.cell (HD2.out.b) 4 (v := .string text) rfl
    have kt := put_any W2 B gt gr v S at_ BY HD2.out.t HOK.out hbs
    clear d0 d1 d2 d3 d4 kp hx2 hk2 HD1 hbe1
    cases P with
    | true =>
      have hE := of_decide_eq_true HP.out
      rw [hE] at kt
      clear hE
      go_wp2_with fail
      (with_reducible refine (kt).mono ?_); rintro e3 W3 ⟨v', rfl, ht3, hf3, hk3⟩
      have HD3 := Lib.hid (HD2.out.ot ht3 hf3 hk3)
      have hbe3 := hbe2.trans (hk3.be HD2.out.sz (fun i hi => (HD2.out.t.ge i hi).1))
      clear kt ht3 hf3 hk3 HD2 e0 e1 e2 e3 e4
      go_wp2_with fail
      go_ret
      exact ⟨rfl, ⟨_, _, _, _, _, by rw [HS.out]; exact (HD3.out).t, by rw [HS.out]; exact (HD3.out).x, (HD3.out).d⟩, hbe3⟩
    | false =>
      have hE : putE S.R at_ BY = 15 := by
        rcases putE_or S.R at_ BY with h | h
        · exact absurd h (of_decide_eq_false HP.out)
        · exact h
      rw [hE] at kt
      clear hE
      go_wp2_with fail
      (with_reducible refine (kt).mono ?_); rintro e3 W3 ⟨v', rfl, ht3, hf3, hk3⟩
      have HD3 := Lib.hid (HD2.out.ot ht3 hf3 hk3)
      have hbe3 := hbe2.trans (hk3.be HD2.out.sz (fun i hi => (HD2.out.t.ge i hi).1))
      clear kt ht3 hf3 hk3 HD2 e0 e1 e2 e3 e4
      go_wp2_with fail
      go_ret
      exact ⟨rfl, ⟨_, _, _, _, _, by rw [HS.out]; exact (HD3.out).t, by rw [HS.out]; exact (HD3.out).x, (HD3.out).d⟩, hbe3⟩
  have t0 : (ask == 0) = false := beq_eq_false_iff_ne.2 h0
  by_cases h1 : ask = 1
  · subst h1
    have HS := Lib.hid (HS0.out.trans ((if_neg (by decide)).trans (if_pos rfl)))
    clear HS0 kby hbs
    have jn := HF.out.2
    dsimp only at jn
    obtain ⟨jn1, jn2⟩ := jn
    have kc := fun V => column_any ((S.R : Int) + n) b V hb (by omega)
    rw [← HC.out] at kc
    have hcz : (colOf S ⟨1, at_, n, b, text⟩).size = ((max 0 ((S.R : Int) + n)).toNat) := by unfold colOf; rw [col_size]
    obtain ⟨CO, hCO⟩ : ∃ CO, colOf S ⟨1, at_, n, b, text⟩ = CO := ⟨_, rfl⟩
    rw [hCO] at kc HS hcz
    have x0 := fun p => Blk.cell (blk_ext HD0.out.x.box p) 0 (v := .int .i64 (S.R : Int)) rfl
    have y1 := fun p => Blk.cell (blk_ext HD0.out.b p) 2 (v := .int .i64 n) rfl
    have y2 := fun p => Blk.cell (blk_ext HD0.out.b p) 3 (v := .int .u8 (b : Int)) rfl
    have j0 : (0 : Int) ≤ (S.R : Int) := Int.natCast_nonneg _
    have j1 : (S.R : Int) ≤ 1024 := by omega
    clear hCO hcz h0 t0
    go_enter Tryd.func9, Tryd.ntmps9
    go_wp2_with fail
    refine Go.Proofs.YtnjbacdgecoedaaDoor.Q.region_ext (by kernel_rfl) (by kernel_rfl) ?_
    repeat (go_big_quiet_step ((go_at_call 21; refine ext_call (kc _))))
    refine wpQuiet_nil ?_
    rintro w9 ⟨pq, rfl⟩
    have HD1 := Lib.hid (HD0.out.below (below_ext _ pq))
    have hbe1 := hbe.trans ((below_ext _ pq).mono HD0.out.sz)
    obtain ⟨W1, hW1⟩ : ∃ W1, ext (w.alloc (.cells #[.int .i64 1, .int .i64 at_, .int .i64 n, .int .u8 (b : Int), .string text] 35)) pq = W1 := ⟨_, rfl⟩
    rw [hW1] at HD1 hbe1 ⊢
    clear hW1 x0 y1 y2 c0 c1 c2 c3 c4 kc HD0 c9
    have d0 := Blk.cell (HD1.out.b) 0 (v := .int .i64 1) rfl
    have d1 := Blk.cell (HD1.out.b) 1 (v := .int .i64 at_) rfl
    have d2 := Blk.cell (HD1.out.b) 2 (v := .int .i64 n) rfl
    have d3 := Blk.cell (HD1.out.b) 3 (v := .int .u8 (b : Int)) rfl
    have d4 := Blk.cell (HD1.out.b) 4 (v := .string text) rfl
    have kt := parity_any W1 B gt gr v S at_ CO HD1.out.t HOK.out
    by_cases h2 : at_ < 0
    · have u1 : decide (at_ < 0) = true := decide_eq_true h2
      have hE : parE S.R at_ CO = 15 := if_pos (Or.inl h2)
      have HPS := Lib.hid (show parS S at_ CO = S from if_pos (by rw [hE]; decide))
      rw [hE, HPS.out] at kt
      rw [HPS.out] at HS
      clear hE
      go_wp2_with fail
      (with_reducible refine (kt).mono ?_); rintro e3 W3 ⟨rfl, ht3, hk3⟩
      have HD3 := Lib.hid (HD1.out.ot ht3 (Or.inl rfl) hk3)
      have hbe3 := hbe1.trans (hk3.be HD1.out.sz (fun i hi => (HD1.out.t.ge i hi).1))
      clear d0 d1 d2 d3 d4 kt ht3 hk3 HD1 hbe1
      have e0 := Blk.cell (HD3.out.b) 0 (v := .int .i64 1) rfl
      have e1 := Blk.cell (HD3.out.b) 1 (v := .int .i64 at_) rfl
      have e2 := Blk.cell (HD3.out.b) 2 (v := .int .i64 n) rfl
      have e3 := Blk.cell (HD3.out.b) 3 (v := .int .u8 (b : Int)) rfl
      have e4 := Blk.cell (HD3.out.b) 4 (v := .string text) rfl
      go_wp2_with fail
      go_ret
      exact ⟨rfl, ⟨_, _, _, _, _, by rw [HS.out]; exact (HD3.out).t, by rw [HS.out]; exact (HD3.out).x, (HD3.out).d⟩, hbe3⟩
    · have u1 : decide (at_ < 0) = false := decide_eq_false h2
      by_cases h3 : 63 < at_
      · have u2 : decide (63 < at_) = true := decide_eq_true h3
        have hE : parE S.R at_ CO = 15 := if_pos (Or.inr (by omega))
        have HPS := Lib.hid (show parS S at_ CO = S from if_pos (by rw [hE]; decide))
        rw [hE, HPS.out] at kt
        rw [HPS.out] at HS
        clear hE
        go_wp2_with fail
        (with_reducible refine (kt).mono ?_); rintro e3 W3 ⟨rfl, ht3, hk3⟩
        have HD3 := Lib.hid (HD1.out.ot ht3 (Or.inl rfl) hk3)
        have hbe3 := hbe1.trans (hk3.be HD1.out.sz (fun i hi => (HD1.out.t.ge i hi).1))
        clear d0 d1 d2 d3 d4 kt ht3 hk3 HD1 hbe1
        have e0 := Blk.cell (HD3.out.b) 0 (v := .int .i64 1) rfl
        have e1 := Blk.cell (HD3.out.b) 1 (v := .int .i64 at_) rfl
        have e2 := Blk.cell (HD3.out.b) 2 (v := .int .i64 n) rfl
        have e3 := Blk.cell (HD3.out.b) 3 (v := .int .u8 (b : Int)) rfl
        have e4 := Blk.cell (HD3.out.b) 4 (v := .string text) rfl
        go_wp2_with fail
        go_ret
        exact ⟨rfl, ⟨_, _, _, _, _, by rw [HS.out]; exact (HD3.out).t, by rw [HS.out]; exact (HD3.out).x, (HD3.out).d⟩, hbe3⟩
      · have u2 : decide (63 < at_) = false := decide_eq_false h3
        by_cases h4 : CO.size = S.R
        · have hE : parE S.R at_ CO = 0 := by unfold parE; rw [if_neg (by omega), if_neg (by simpa using h4)]
          have u3 : ((CO.size : Int) == (S.R : Int)) = true := by rw [h4]; simp
          have u4 : ((CO.size : Int) != (S.R : Int)) = false := by rw [h4]; simp
          have u5 : (CO.size == S.R) = true := by rw [h4]; simp
          have u6 : (CO.size != S.R) = false := by rw [h4]; simp
          have HE := Lib.hid hE
          rw [hE] at kt
          clear h2 h3 h4 hE
          go_wp2_with fail
          (with_reducible refine (kt).mono ?_); rintro e3 W3 ⟨rfl, ht3, hk3⟩
          have HD3 := Lib.hid (HD1.out.ot ht3 (Or.inl rfl) hk3)
          have hbe3 := hbe1.trans (hk3.be HD1.out.sz (fun i hi => (HD1.out.t.ge i hi).1))
          have kx := rparity_any W3 B gx g1 g2 g3 S at_ CO HD3.out.x HOK.out HE.out
          clear d0 d1 d2 d3 d4 kt ht3 hk3 HD1 hbe1
          have e0 := Blk.cell (HD3.out.b) 0 (v := .int .i64 1) rfl
          have e1 := Blk.cell (HD3.out.b) 1 (v := .int .i64 at_) rfl
          have e2 := Blk.cell (HD3.out.b) 2 (v := .int .i64 n) rfl
          have e3 := Blk.cell (HD3.out.b) 3 (v := .int .u8 (b : Int)) rfl
          have e4 := Blk.cell (HD3.out.b) 4 (v := .string text) rfl
          have x1 := Blk.cell HD3.out.x.box 0 (v := .int .i64 (S.R : Int)) rfl
          go_wp2_with fail
          (with_reducible refine (kx).mono ?_); rintro e4 W4 ⟨rfl, hx4, hk4⟩
          have HD4 := Lib.hid (HD3.out.ox hx4 hk4)
          have hbe4 := hbe3.trans (hk4.be HD3.out.sz (fun i hi => (HD3.out.x.ge i hi).1))
          clear e0 e1 e2 e3 e4 x1 kx hx4 hk4 HD3 hbe3
          go_wp2_with fail
          go_ret
          exact ⟨rfl, ⟨_, _, _, _, _, by rw [HS.out]; exact (HD4.out).t, by rw [HS.out]; exact (HD4.out).x, (HD4.out).d⟩, hbe4⟩
        · have hE : parE S.R at_ CO = 12 := by unfold parE; rw [if_neg (by omega), if_pos h4]
          have u3 : ((CO.size : Int) == (S.R : Int)) = false := beq_eq_false_iff_ne.2 (by omega)
          have u5 : (CO.size == S.R) = false := beq_eq_false_iff_ne.2 h4
          have HPS := Lib.hid (show parS S at_ CO = S from if_pos (by rw [hE]; decide))
          rw [hE, HPS.out] at kt
          rw [HPS.out] at HS
          clear h2 h3 h4 hE
          go_wp2_with fail
          (with_reducible refine (kt).mono ?_); rintro e3 W3 ⟨rfl, ht3, hk3⟩
          have HD3 := Lib.hid (HD1.out.ot ht3 (Or.inl rfl) hk3)
          have hbe3 := hbe1.trans (hk3.be HD1.out.sz (fun i hi => (HD1.out.t.ge i hi).1))
          clear d0 d1 d2 d3 d4 kt ht3 hk3 HD1 hbe1
          have e0 := Blk.cell (HD3.out.b) 0 (v := .int .i64 1) rfl
          have e1 := Blk.cell (HD3.out.b) 1 (v := .int .i64 at_) rfl
          have e2 := Blk.cell (HD3.out.b) 2 (v := .int .i64 n) rfl
          have e3 := Blk.cell (HD3.out.b) 3 (v := .int .u8 (b : Int)) rfl
          have e4 := Blk.cell (HD3.out.b) 4 (v := .string text) rfl
          have x1 := Blk.cell HD3.out.x.box 0 (v := .int .i64 (S.R : Int)) rfl
          go_wp2_with fail
          go_ret
          exact ⟨rfl, ⟨_, _, _, _, _, by rw [HS.out]; exact (HD3.out).t, by rw [HS.out]; exact (HD3.out).x, (HD3.out).d⟩, hbe3⟩
  have t1 : (ask == 1) = false := beq_eq_false_iff_ne.2 h1
  by_cases h2 : ask = 2
  · subst h2
    have HS := Lib.hid (HS0.out.trans ((if_neg (by decide)).trans ((if_neg (by decide)).trans (if_pos rfl))))
    have kt := pad_any _ B gt gr v S n HD0.out.t HOK.out
    clear HS0 kby hbs h0 t0 h1 t1 HC
    by_cases h2 : n < 0
    · have u1 : decide (n < 0) = true := decide_eq_true h2
      have hE : padE n = 15 := if_pos (Or.inl h2)
      have HPS := Lib.hid (show padS S n = S from if_pos (by rw [hE]; decide))
      rw [hE, HPS.out] at kt
      rw [HPS.out] at HS
      clear hE
      go_enter Tryd.func9, Tryd.ntmps9
      go_wp2_with fail
      (with_reducible refine (kt).mono ?_); rintro e3 W3 ⟨rfl, ht3, hk3⟩
      have HD3 := Lib.hid (HD0.out.ot ht3 (Or.inl rfl) hk3)
      have hbe3 := hbe.trans (hk3.be HD0.out.sz (fun i hi => (HD0.out.t.ge i hi).1))
      have e0 := Blk.cell (HD3.out.b) 0 (v := .int .i64 2) rfl
      have e1 := Blk.cell (HD3.out.b) 1 (v := .int .i64 at_) rfl
      have e2 := Blk.cell (HD3.out.b) 2 (v := .int .i64 n) rfl
      have e3 := Blk.cell (HD3.out.b) 3 (v := .int .u8 (b : Int)) rfl
      have e4 := Blk.cell (HD3.out.b) 4 (v := .string text) rfl
      clear c0 c1 c2 c3 c4 kt ht3 hk3 hbe
      go_wp2_with fail
      go_ret
      exact ⟨rfl, ⟨_, _, _, _, _, by rw [HS.out]; exact (HD3.out).t, by rw [HS.out]; exact (HD3.out).x, (HD3.out).d⟩, hbe3⟩
    · have u1 : decide (n < 0) = false := decide_eq_false h2
      by_cases h3 : 191 < n
      · have u2 : decide (191 < n) = true := decide_eq_true h3
        have hE : padE n = 15 := if_pos (Or.inr h3)
        have HPS := Lib.hid (show padS S n = S from if_pos (by rw [hE]; decide))
        rw [hE, HPS.out] at kt
        rw [HPS.out] at HS
        clear hE
        go_enter Tryd.func9, Tryd.ntmps9
        go_wp2_with fail
        (with_reducible refine (kt).mono ?_); rintro e3 W3 ⟨rfl, ht3, hk3⟩
        have HD3 := Lib.hid (HD0.out.ot ht3 (Or.inl rfl) hk3)
        have hbe3 := hbe.trans (hk3.be HD0.out.sz (fun i hi => (HD0.out.t.ge i hi).1))
        have e0 := Blk.cell (HD3.out.b) 0 (v := .int .i64 2) rfl
        have e1 := Blk.cell (HD3.out.b) 1 (v := .int .i64 at_) rfl
        have e2 := Blk.cell (HD3.out.b) 2 (v := .int .i64 n) rfl
        have e3 := Blk.cell (HD3.out.b) 3 (v := .int .u8 (b : Int)) rfl
        have e4 := Blk.cell (HD3.out.b) 4 (v := .string text) rfl
        clear c0 c1 c2 c3 c4 kt ht3 hk3 hbe
        go_wp2_with fail
        go_ret
        exact ⟨rfl, ⟨_, _, _, _, _, by rw [HS.out]; exact (HD3.out).t, by rw [HS.out]; exact (HD3.out).x, (HD3.out).d⟩, hbe3⟩
      · have u2 : decide (191 < n) = false := decide_eq_false h3
        have hE : padE n = 0 := if_neg (by omega)
        have HE := Lib.hid hE
        rw [hE] at kt
        clear h2 h3 hE
        go_enter Tryd.func9, Tryd.ntmps9
        go_wp2_with fail
        (with_reducible refine (kt).mono ?_); rintro e3 W3 ⟨rfl, ht3, hk3⟩
        have HD3 := Lib.hid (HD0.out.ot ht3 (Or.inl rfl) hk3)
        have hbe3 := hbe.trans (hk3.be HD0.out.sz (fun i hi => (HD0.out.t.ge i hi).1))
        have kx := rpad_any W3 B gx g1 g2 g3 S n HD3.out.x HOK.out HE.out
        have e0 := Blk.cell (HD3.out.b) 0 (v := .int .i64 2) rfl
        have e1 := Blk.cell (HD3.out.b) 1 (v := .int .i64 at_) rfl
        have e2 := Blk.cell (HD3.out.b) 2 (v := .int .i64 n) rfl
        have e3 := Blk.cell (HD3.out.b) 3 (v := .int .u8 (b : Int)) rfl
        have e4 := Blk.cell (HD3.out.b) 4 (v := .string text) rfl
        clear c0 c1 c2 c3 c4 kt ht3 hk3 hbe
        go_wp2_with fail
        (with_reducible refine (kx).mono ?_); rintro e4 W4 ⟨rfl, hx4, hk4⟩
        have HD4 := Lib.hid (HD3.out.ox hx4 hk4)
        have hbe4 := hbe3.trans (hk4.be HD3.out.sz (fun i hi => (HD3.out.x.ge i hi).1))
        clear e0 e1 e2 e3 e4 kx hx4 hk4 hbe3
        go_wp2_with fail
        go_ret
        exact ⟨rfl, ⟨_, _, _, _, _, by rw [HS.out]; exact (HD4.out).t, by rw [HS.out]; exact (HD4.out).x, (HD4.out).d⟩, hbe4⟩
  have t2 : (ask == 2) = false := beq_eq_false_iff_ne.2 h2
  by_cases h3 : ask = 3
  · subst h3
    have HS := Lib.hid (HS0.out.trans ((if_neg (by decide)).trans ((if_neg (by decide)).trans ((if_neg (by decide)).trans (if_pos rfl)))))
    have kt := clear_any _ B gt gr v S HD0.out.t HOK.out
    clear HS0 kby hbs h0 t0 h1 t1 h2 t2 HC
    go_enter Tryd.func9, Tryd.ntmps9
    go_wp2_with fail
    (with_reducible refine (kt).mono ?_); rintro e3 W3 ⟨rfl, ht3, hk3⟩
    have HD3 := Lib.hid (HD0.out.on ht3 hk3)
    have hbe3 := hbe.trans (hk3.be HD0.out.sz (fun i hi => (HD0.out.t.ge i hi).1))
    have kn := rnew_any S.R W3 HOK.out.R HOK.out.R0
    have x0 := Blk.cell HD3.out.x.box 0 (v := .int .i64 (S.R : Int)) rfl
    clear c0 c1 c2 c3 c4 kt ht3 hk3 hbe c9
    go_wp2_with fail
    (with_reducible refine (kn).mono ?_); rintro e4 W4 ⟨hb4, nx, n1, n2, n3, rfl, hN⟩
    have HD4 := Lib.hid (HD3.out.below hb4)
    have hbe4 := hbe3.trans (hb4.mono HD3.out.sz)
    have HN := Lib.hid hN
    have hgx : gx < W3.heap.size := HD3.out.x.box.lt
    have z0 := Blk.cell (hN.box) 0 (v := .int .i64 (S.R : Int)) rfl
    have z1 := Blk.cell (hN.box) 1 (v := .slice (some ⟨n1, 0, none⟩) (255 * S.R) (255 * S.R)) rfl
    have z2 := Blk.cell (hN.box) 2 (v := .slice (some ⟨n2, 0, none⟩) (255 * S.R) (255 * S.R)) rfl
    have z3 := Blk.cell (hN.box) 3 (v := .slice (some ⟨n3, 0, none⟩) (191 * S.R) (191 * S.R)) rfl
    clear kn hb4 x0 hN hbe3
    go_wp2_with (refine wpList_store_blk (g := gx) (T := 43) (cs' := xbox (emptyT S.R) n1 n2 n3) rfl 43 _ _ rfl rfl rfl HD4.out.x.box (by kernel_rfl) (by kernel_rfl) (by kernel_rfl) (by kernel_rfl) ?_; intro W9 hW9 hg9 hz9)
    have hk9 : Kept (· = gx) W4 W9 := kept_grown hg9 (fun r e => by injection e with e; exact e.symm)
    have hN9 := HN.out
    have q1 := hN9.b1
    have q2 := hN9.b2
    have q3 := hN9.b3
    have q0 := HD4.out.x.bx
    have hX9 : RtIn W9 B gx n1 n2 n3 (emptyT S.R) := ⟨hW9, hN9.b.same (hk9.block n1 hN9.b.lt (by omega)), hN9.is.same (hk9.block n2 hN9.is.lt (by omega)), hN9.st.same (hk9.block n3 hN9.st.lt (by omega)), by omega, by omega, by omega, hN9.n4, hN9.n5, hN9.n6, q0, by omega, by omega, by omega⟩
    have hT9 := HD4.out.t.kept hk9 (fun i hf e => HD4.out.d i hf (by rw [e]; exact Or.inl rfl))
    have hd9 : ∀ i, foot gt gr (.slice none 0 0) i → ¬ feet gx n1 n2 n3 i := fun i hf hx => by
      have h1 := (HD3.out.t.ge i hf).2
      rcases hx with h | h | h | h
      · exact HD3.out.d i hf (Or.inl h)
      · omega
      · omega
      · omega
    have hbe9 := hbe4.trans (hk9.be HD4.out.sz (fun i e => by have e : i = gx := e; omega))
    have HZ := Lib.hid (And.intro hT9 (And.intro hX9 (And.intro hd9 hbe9)))
    clear hk9 hN9 q1 q2 q3 q0 hX9 hT9 hd9 hbe9 hW9 hg9 hz9 hbe4 z0 z1 z2 z3
    go_wp2_with fail
    go_ret
    exact ⟨rfl, ⟨_, _, _, _, _, by rw [HS.out]; exact HZ.out.1, by rw [HS.out]; exact HZ.out.2.1, HZ.out.2.2.1⟩, HZ.out.2.2.2⟩
  · have t3 : (ask == 3) = false := beq_eq_false_iff_ne.2 h3
    have HS := Lib.hid (HS0.out.trans ((if_neg h0).trans ((if_neg h1).trans ((if_neg h2).trans (if_neg h3)))))
    clear HS0 kby hbs h0 h1 h2 h3 HC
    go_enter Tryd.func9, Tryd.ntmps9
    go_wp2_with fail
    go_ret
    exact ⟨rfl, ⟨_, _, _, _, _, by rw [HS.out]; exact (HD0.out).t, by rw [HS.out]; exact (HD0.out).x, (HD0.out).d⟩, hbe⟩
end Go.Proofs.YtnjbacdgecoedaaDoor.LaC
