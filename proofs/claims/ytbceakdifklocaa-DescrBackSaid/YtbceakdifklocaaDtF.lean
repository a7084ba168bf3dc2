/- DescrPlaces, walked. -/
import Derived.Test.YtbceakdifklocaaDtE
import Derived.Test.YtbceakdifklocaaDsJ
namespace Go.Proofs.Ytbceakdifklocaa.DtF
open Go Go.RowKit Go.Proofs.Ytbceakdifklocaa.Q Go.Proofs.Ytbceakdifklocaa.Mem Go.Proofs.Ytbceakdifklocaa.DsA Go.Proofs.Ytbceakdifklocaa.DsB Go.Proofs.Ytbceakdifklocaa.DsC Go.Proofs.Ytbceakdifklocaa.DsD Go.Proofs.Ytbceakdifklocaa.DsE Go.Proofs.Ytbceakdifklocaa.DsI Go.Proofs.Ytbceakdifklocaa.DsJ Go.Proofs.Ytbceakdifklocaa.DsK Go.Proofs.Ytbceakdifklocaa.DsQ Go.Proofs.Ytbceakdifklocaa.DsR Go.Proofs.Ytbceakdifklocaa.DsY Go.Proofs.Ytbceakdifklocaa.DsZ Go.Proofs.Ytbceakdifklocaa.DtA Go.Proofs.Ytbceakdifklocaa.DtB Go.Proofs.Ytbceakdifklocaa.DtC Go.Proofs.Ytbceakdifklocaa.DtD Go.Proofs.Ytbceakdifklocaa.DtE Go.Proofs.Ytbceakdifklocaa.Rg Go.Proofs.Ytbceakdifklocaa.Ap

section
variable {P : Program} {ops : Array Oper} {rest : List Oper} {o : Oper} {a : Act} {w : World} {Q : Exit → Act → World → Prop}
/-- 'append(v, ..)', and where the new slice lies -/
theorem wpList_appG {t e : TypeId} {sz bytes base : Nat} (hgd : o.guard = none) (s x : Operand) (ho : o.op = .call { callee := .builtin .append, args := #[s, x], argTypes := #[t, t] }) (hE : Elem P t e sz bytes)
    {v : Value} {n m c : Nat} {xs news : List Value} {ad : Addr} (hs : a.eval s = v) (hown : w.ownsRow base e sz v n xs) (hx : a.eval x = .slice (some ad) m c) (hl : news.length = m * sz) (hnews : ∀ j u, news[j]? = some u → w.cell? (ad.add j) = some u) (h1 : ∀ u ∈ news, u.oneCell' = true)
    (hn : (n + m) * bytes ≤ 140737488355328) (hn2 : n + m ≤ maxLen) (hbase : base ≤ w.heap.size)
    (h : ∀ v' w', w'.ownsRow base e sz v' (n + m) (xs ++ news) → w.grownBy w' v.ownBlock → (v'.ownBlock = v.ownBlock ∨ v'.ownBlock = some w.heap.size) → wpList P ops Q rest (a.put o.dst v') w') : wpList P ops Q (o :: rest) a w := by
  obtain ⟨i, z, hi, hz, hsz, hby, hzs⟩ := hE.i
  obtain ⟨v', w', hr, h2, h3, _, h4⟩ := run_append_own_at (P := P) w base t o.type e i z sz bytes hE.t hi hz hsz hby hzs hE.pos v n xs hown ad m c news hl hnews h1 hn2 hn hbase
  refine wpList_plain hgd fun _ hK => ?_
  unfold Oper.wp execOp
  simp only [ho, resolve, invoke, builtin, Sem.run_bind, Sem.run_pure, Result.andThen_ok, List.map_toArray, List.map_cons, List.map_nil, hs, hx, hr]
  exact hK _ _ (h v' w' h2 h3 h4)
end
theorem own_other {w w' : World} {B n sz : Nat} {e : TypeId} {v v1 : Value} {xs : List Value} (h : w.ownsRow B e sz v n xs) (hg : w.grownBy w' v1.ownBlock) (hne : ∀ r, v1.ownBlock = some r → v.ownBlock ≠ some r) : w'.ownsRow B e sz v n xs :=
  h.kept hg (by
    cases hv : v.ownBlock with
    | none => exact Or.inl rfl
    | some r => exact Or.inr (fun e => hne r e.symm hv))
/-- two rows that are apart stay so when one of them grows -/
theorem apart_step {v v1 v2 : Value} {S : Nat} (hat : v2.ownBlock = v1.ownBlock ∨ v2.ownBlock = some S) (hlt : ∀ r, v.ownBlock = some r → r < S) (hne : ∀ r, v1.ownBlock = some r → v.ownBlock ≠ some r) : ∀ r, v.ownBlock = some r → v2.ownBlock ≠ some r := fun r hr h2 => by
  rcases hat with e | e
  · exact hne r (e ▸ h2) hr
  · rw [e] at h2; injection h2 with h2; have := hlt r hr; omega
theorem apart_symm {v v1 : Value} (h : ∀ r, v1.ownBlock = some r → v.ownBlock ≠ some r) : ∀ r, v.ownBlock = some r → v1.ownBlock ≠ some r := fun r h1 h2 => h r h2 h1
theorem bk_belowW {w W W' W5 : World} {L : List (Nat × TypeId × Array Value)} (h5 : Bk w W5 L) (h : Bk w W L) (hb : Below W5.heap.size W W') : Bk w W' L := ⟨h.be.trans (hb.mono h5.be.size), fun x hx => Blk.below (h.all x hx) hb (Blk.lt (h5.all x hx))⟩
theorem calls_gen {P : Program} {f : FuncId} {args : Array Value} {w : World} {R : Ending → World → Prop} (F : World → Prop) (hF : F w) (h : ∀ V, F V → Calls P f args V R) : Calls P f args w R := h w hF
theorem seq_only {α : Type} {en : α → List Value} {sz : Nat} {w w' : World} {a : Option Addr} {L : List α} {g : Nat} (h : Seq en sz w a L) (hg : w.grownBy w' (some g)) (hne : ∀ b o, a = some ⟨b, o, none⟩ → b ≠ g) : Seq en sz w' a L := fun i x hi => by
  obtain ⟨b, o, e, hlt, hc⟩ := h i x hi
  exact ⟨b, o, e, Nat.lt_of_lt_of_le hlt hg.size, fun j u hj => (hg.cell_far ⟨b, o + off sz i + j, none⟩ hlt (by simp; exact hne b o e)).trans (hc j u hj)⟩
theorem rtE_le (d : Dc) (h : rtE d = 0) : d.body.size / 5 ≤ 51 ∧ d.body.size % 5 = 0 := by
  unfold rtE at h
  split at h
  · omega
  · split at h
    · omega
    · split at h
      · omega
      · rename_i h1 h2 h3
        simp only [Bool.or_eq_true, decide_eq_true_eq, not_or] at h3
        omega
theorem four_bytes (s : ByteArray) (i : Nat) (h : i + 4 ≤ s.size) : s.extract i (i + 4) = strOfNums [at' s i, at' s (i + 1), at' s (i + 2), at' s (i + 3)] := by
  have hl : s.data.toList.length = s.size := Array.length_toList
  rw [ext_str]
  show str _ = str [UInt8.ofNat (at' s i).toNat, UInt8.ofNat (at' s (i + 1)).toNat, UInt8.ofNat (at' s (i + 2)).toNat, UInt8.ofNat (at' s (i + 3)).toNat]
  rw [of_at s i (by omega), of_at s (i + 1) (by omega), of_at s (i + 2) (by omega), of_at s (i + 3) (by omega)]
  congr 1
  rw [List.drop_eq_getElem_cons (by omega), List.drop_eq_getElem_cons (by omega), List.drop_eq_getElem_cons (by omega), List.drop_eq_getElem_cons (by omega)]
  rfl
theorem elemA : Elem Try.prog 67 69 4 4 := elem_of Try.underlying67 (z := .agg #[.int .u8 0, .int .u8 0, .int .u8 0, .int .u8 0]) (by kernel_rfl) rfl (by decide)
theorem elemI : Elem Try.prog 68 3 1 8 := elem_of Try.underlying68 (z := .int .i64 0) (by kernel_rfl) rfl (by decide)

abbrev cPl (x : Pl) : Array Value := #[.int .i64 x.n, .int .i64 x.o, .int .i64 x.s, .int .i64 x.v, .int .i64 x.t]
abbrev cDc (d : Dc) : Array Value := #[.int .i64 d.tag, .string d.body]
set_option maxRecDepth 100000
theorem places_long (x : Pl) (a : Option Addr) (n c : Nat) (d : Dc) (w : World) (h : 60 < n ∨ 300 < d.body.size) :
    Calls Try.prog 7 #[.agg x.vals, .slice a n c, .agg #[.int .i64 d.tag, .string d.body]] w fun e w' => e = .returned (.bool true) ∧ Below w.heap.size w w' := by
  have HB := Lib.hid (bk2 w 26 30 x.vals #[.int .i64 d.tag, .string d.body])
  unfold Pl.vals at HB ⊢
  have hb := HB.out.be
  by_cases h1 : 60 < n
  · have t1 : decide (60 < (n : Int)) = true := by simp; omega
    clear h h1
    go_enter Try.func7, Try.ntmps7
    go_wp2_with fail
    (with_reducible refine (awake_any _).mono ?_); rintro e W1 ⟨rfl, hb1⟩
    go_wp2_with fail
    go_ret
    exact ⟨rfl, hb.trans (hb1.mono hb.size)⟩
  · have t1 : decide (60 < (n : Int)) = false := by simp; omega
    have t2 : decide (300 < (d.body.size : Int)) = true := by simp; omega
    clear h h1
    go_enter Try.func7, Try.ntmps7
    go_wp2_with fail
    (with_reducible refine (awake_any _).mono ?_); rintro e W1 ⟨rfl, hb1⟩
    go_wp2_with fail
    go_ret
    exact ⟨rfl, hb.trans (hb1.mono hb.size)⟩

set_option maxHeartbeats 6400000 in
theorem places_go (x : Pl) (a : Option Addr) (n c : Nat) (d : Dc) (L : List Tg) (w : World) (hn : L.length = n) (hL : Seq enT 5 w a L) (h1 : ¬ 60 < n) (h2 : ¬ 300 < d.body.size) :
    Calls Try.prog 7 #[.agg x.vals, .slice a n c, .agg #[.int .i64 d.tag, .string d.body]] w fun e w' => e = .returned (.bool true) ∧ Below w.heap.size w w' := by
  have HB := Lib.hid (bk2 w 26 30 x.vals #[.int .i64 d.tag, .string d.body])
  have HL := Lib.hid hL
  have hn60 : n ≤ 60 := by omega
  have t1 : decide (60 < (n : Int)) = false := by simp; omega
  have t2 : decide (300 < (d.body.size : Int)) = false := by simp; omega
  have k1 := fun V => pmake_any x V
  have k2 := fun V => rmplace_any x V
  have k3 := fun V => rplace_any d V
  have k4 := fun V => rrplace_any d V
  have k6 := fun V a c h => targets_any a c n L V hn (by omega) h
  have k7 := fun V a c a' c' h h' => rtargets_any a c n a' c' n L V hn hn (by omega) h h'
  have k8 := fun V => rt_any d V (by omega)
  have k9 := fun V => rrt_any d V (by omega)
  have t4 : (rtE d != rtE d) = false := by simp
  have t5 : (((rtN d : Nat) : Int) != ((rtN d : Nat) : Int)) = false := by simp
  rw [rtL_len] at k8
  obtain ⟨e, he⟩ : ∃ e, x.makeE = e := ⟨_, rfl⟩
  obtain ⟨D, hD⟩ : ∃ D, plD x = D := ⟨_, rfl⟩
  obtain ⟨y, hy⟩ : ∃ y, plR d = y := ⟨_, rfl⟩
  obtain ⟨f, hf⟩ : ∃ f, plE d = f := ⟨_, rfl⟩
  obtain ⟨g, hg⟩ : ∃ g, tgE L = g := ⟨_, rfl⟩
  obtain ⟨T, hT⟩ : ∃ T, tgD L = T := ⟨_, rfl⟩
  rw [he, hD] at k1 k2
  rw [hy, hf] at k3 k4
  rw [hg, hT] at k6 k7
  have k5 := fun V => like_same D e V
  have k10 := fun V => like_same T g V
  have eq1 : ∀ V, (Op.equalIn 10000 26 (.agg #[.int .i64 y.n, .int .i64 y.o, .int .i64 y.s, .int .i64 y.v, .int .i64 y.t]) (.agg #[.int .i64 y.n, .int .i64 y.o, .int .i64 y.s, .int .i64 y.v, .int .i64 y.t])).run Try.prog V = .ok true V := fun V => by
    have := eqP y y V
    unfold Pl.vals at this
    rw [this]; simp
  have t3 : (f != f) = false := by simp
  unfold Pl.vals at k1 k2 k3 k4 HB ⊢
  have a0 := Blk.cell (HB.out.nth 1 rfl) 0 (v := .int .i64 x.n) rfl
  have a1 := Blk.cell (HB.out.nth 1 rfl) 1 (v := .int .i64 x.o) rfl
  have a2 := Blk.cell (HB.out.nth 1 rfl) 2 (v := .int .i64 x.s) rfl
  have a3 := Blk.cell (HB.out.nth 1 rfl) 3 (v := .int .i64 x.v) rfl
  have a4 := Blk.cell (HB.out.nth 1 rfl) 4 (v := .int .i64 x.t) rfl
  have b0 := Blk.cell (HB.out.nth 0 rfl) 0 (v := .int .i64 d.tag) rfl
  have b1 := Blk.cell (HB.out.nth 0 rfl) 1 (v := .string d.body) rfl
  clear h1 h2 he hD hy hf hg hT hL
  go_enter Try.func7, Try.ntmps7
  go_wp2_with fail
  (with_reducible refine (k1 _).mono ?_); rintro e1 W1 ⟨rfl, hb1⟩
  have s01 : w.heap.size + 1 < W1.heap.size := Nat.lt_of_lt_of_le (by simp) hb1.size
  have HB1 := Lib.hid (HB.out.box hb1 30 (cDc D))
  clear a0 a1 a2 a3 a4 b0 b1 HB hb1 t1 t2 k1
  have a0 := Blk.cell (HB1.out.nth 2 rfl) 0 (v := .int .i64 x.n) rfl
  have a1 := Blk.cell (HB1.out.nth 2 rfl) 1 (v := .int .i64 x.o) rfl
  have a2 := Blk.cell (HB1.out.nth 2 rfl) 2 (v := .int .i64 x.s) rfl
  have a3 := Blk.cell (HB1.out.nth 2 rfl) 3 (v := .int .i64 x.v) rfl
  have a4 := Blk.cell (HB1.out.nth 2 rfl) 4 (v := .int .i64 x.t) rfl
  go_wp2_with fail
  (with_reducible refine (k2 _).mono ?_); rintro e1 W2 ⟨rfl, hb2⟩
  have s12 : W1.heap.size < W2.heap.size := Nat.lt_of_lt_of_le (by simp) hb2.size
  have HB2 := Lib.hid (HB1.out.box hb2 35 (cDc D))
  clear a0 a1 a2 a3 a4 HB1 hb2 k2
  have b0 := Blk.cell (HB2.out.nth 2 rfl) 0 (v := .int .i64 d.tag) rfl
  have b1 := Blk.cell (HB2.out.nth 2 rfl) 1 (v := .string d.body) rfl
  go_wp2_with fail
  (with_reducible refine (k3 _).mono ?_); rintro e1 W3 ⟨rfl, hb3⟩
  have HB3 := Lib.hid (HB2.out.box hb3 26 (cPl y))
  clear b0 b1 HB2 hb3 k3
  have b0 := Blk.cell (HB3.out.nth 3 rfl) 0 (v := .int .i64 d.tag) rfl
  have b1 := Blk.cell (HB3.out.nth 3 rfl) 1 (v := .string d.body) rfl
  go_wp2_with fail
  (with_reducible refine (k4 _).mono ?_); rintro e1 W4 ⟨rfl, hb4⟩
  have HB4 := Lib.hid (HB3.out.box hb4 62 (cPl y))
  clear b0 b1 HB3 hb4 k4
  have b0 := Blk.cell (HB4.out.nth 3 rfl) 0 (v := .int .i64 D.tag) rfl
  have b1 := Blk.cell (HB4.out.nth 3 rfl) 1 (v := .string D.body) rfl
  have c0 := Blk.cell (HB4.out.nth 2 rfl) 0 (v := .int .i64 D.tag) rfl
  have c1 := Blk.cell (HB4.out.nth 2 rfl) 1 (v := .string D.body) rfl
  go_wp2_with fail
  (with_reducible refine (k5 _).mono ?_); rintro e1 W5 ⟨rfl, hb5⟩
  have s25 : W2.heap.size < W5.heap.size := Nat.lt_of_lt_of_le (HB4.out.lt 2 rfl) hb5.size
  have HB5 := Lib.hid (HB4.out.below hb5)
  clear b0 b1 c0 c1 HB4 hb5 k5
  have b0 := Blk.cell (HB5.out.nth 1 rfl) 0 (v := .int .i64 y.n) rfl
  have b1 := Blk.cell (HB5.out.nth 1 rfl) 1 (v := .int .i64 y.o) rfl
  have b2 := Blk.cell (HB5.out.nth 1 rfl) 2 (v := .int .i64 y.s) rfl
  have b3 := Blk.cell (HB5.out.nth 1 rfl) 3 (v := .int .i64 y.v) rfl
  have b4 := Blk.cell (HB5.out.nth 1 rfl) 4 (v := .int .i64 y.t) rfl
  have c0 := Blk.cell (HB5.out.nth 0 rfl) 0 (v := .int .i64 y.n) rfl
  have c1 := Blk.cell (HB5.out.nth 0 rfl) 1 (v := .int .i64 y.o) rfl
  have c2 := Blk.cell (HB5.out.nth 0 rfl) 2 (v := .int .i64 y.s) rfl
  have c3 := Blk.cell (HB5.out.nth 0 rfl) 3 (v := .int .i64 y.v) rfl
  have c4 := Blk.cell (HB5.out.nth 0 rfl) 4 (v := .int .i64 y.t) rfl
  go_wp2_with fail
  clear b0 b1 b2 b3 b4 c0 c1 c2 c3 c4 eq1 t3
  go_loopw [15, 16, 17] (fun p q i wr => ∃ k : Nat, k ≤ n ∧ i = .int .i64 k ∧ wr.ownsRow W5.heap.size 69 4 p k (flat enA (L.take k)) ∧ wr.ownsRow W5.heap.size 3 1 q k (flat enI (L.take k)) ∧ (∀ r, p.ownBlock = some r → q.ownBlock ≠ some r) ∧ Below W5.heap.size W5 wr) (fun _ _ i _ => n - (intOf i).toNat)
  case atStart => exact ⟨0, by omega, rfl, World.ownsRow_nil _ _ _ _, World.ownsRow_nil _ _ _ _, fun r h => by simp [Value.ownBlock] at h, Below.refl _ _⟩
  case round =>
    obtain ⟨k, hk, rfl, hp, hq, hne, hb⟩ := hrel
    have hB5 := HB5.out.be
    have hbw : Below w.heap.size w wr := hB5.trans (hb.mono hB5.size)
    by_cases hkl : k < n
    · have t0 : decide ((k : Int) < (n : Int)) = true := by simp; omega
      obtain ⟨t, ht⟩ : ∃ t, L[k]? = some t := ⟨L[k], List.getElem?_eq_getElem (by omega)⟩
      obtain ⟨b1, o1, rfl, _, hc0⟩ := HL.out k t ht
      obtain ⟨b1', o1', e1, l1, hc⟩ := HL.out.below (Nat.le_refl _) hbw k t ht
      cases e1
      have l0 : b1 < W5.heap.size := by
        obtain ⟨_, _, e, l, _⟩ := HL.out.below (Nat.le_refl _) hB5 k t ht
        cases e; exact l
      have c0 : wr.cell? ⟨b1, o1 + k * 5, none⟩ = some (.int .u8 t.x0) := hc 0 _ rfl
      have c1 : wr.cell? ⟨b1, o1 + k * 5 + 1, none⟩ = some (.int .u8 t.x1) := hc 1 _ rfl
      have c2 : wr.cell? ⟨b1, o1 + k * 5 + 2, none⟩ = some (.int .u8 t.x2) := hc 2 _ rfl
      have c3 : wr.cell? ⟨b1, o1 + k * 5 + 3, none⟩ = some (.int .u8 t.x3) := hc 3 _ rfl
      have c4 : wr.cell? ⟨b1, o1 + k * 5 + 4, none⟩ = some (.int .i64 t.bits) := hc 4 _ rfl
      have hk0 : (0 : Int) ≤ (k : Int) := Int.natCast_nonneg _
      have hk1 : (k : Int) < (n : Int) := by omega
      have HT := Lib.hid ht
      have hbs := hb.size
      clear hc hc0 ht hbw hB5
      go_wp2_with (first
        | (at_builtin; (refine wpList_appG rfl _ _ rfl elemA rfl (hp.alloc (.cells #[.int .u8 t.x0, .int .u8 t.x1, .int .u8 t.x2, .int .u8 t.x3] 69)) rfl rfl (blk_news (Blk.new wr 69 #[.int .u8 t.x0, .int .u8 t.x1, .int .u8 t.x2, .int .u8 t.x3])) (by simp [Value.oneCell']) (by omega) (by unfold maxLen; omega) (by simp; omega) ?_)
           intro v9 w8 hp9 hg9 hat9
           have hbA : Below W5.heap.size W5 w8 := (hb.alloc hbs _).grown hg9 (by simp; omega) (fun r er => (hp.lt r er).1)
           have hbC : Below W5.heap.size wr w8 := ((Below.refl _ _).alloc hbs _).grown hg9 (by simp; omega) (fun r er => (hp.lt r er).1)
           have d4 := (hbC.cell (p := ⟨b1, o1 + k * 5 + 4, none⟩) l0).trans c4
           have hq9 := own_other (hq.alloc (.cells #[.int .u8 t.x0, .int .u8 t.x1, .int .u8 t.x2, .int .u8 t.x3] 69)) hg9 hne
           have hne9 := apart_symm (apart_step hat9 (fun r hr => by have := (hq.lt r hr).2; simp; omega) hne)
           have hbs8 := hbA.size)
        | (at_builtin; (refine wpList_appG rfl _ _ rfl elemI rfl (hq9.alloc (.cells #[.int .i64 t.bits] 3)) rfl rfl (blk_news (Blk.new w8 3 #[.int .i64 t.bits])) (by simp [Value.oneCell']) (by omega) (by unfold maxLen; omega) (by simp; omega) ?_)
           intro v7 w7 hq7 hg7 hat7
           have hbB : Below W5.heap.size W5 w7 := (hbA.alloc hbs8 _).grown hg7 (by simp; omega) (fun r er => (hq9.lt r er).1)
           have hp7 := own_other (hp9.alloc (.cells #[.int .i64 t.bits] 3)) hg7 (apart_symm hne9)
           have hne7 := apart_step hat7 (fun r hr => by have := (hp9.lt r hr).2; simp; omega) (apart_symm hne9))
        | fail)
      go_roundw
      case rel => exact ⟨k + 1, by omega, by go_num, by rw [flat_snoc HT.out]; exact hp7, by rw [flat_snoc HT.out]; exact hq7, hne7, hbB⟩
      case measure => simp [intOf]; omega
    · obtain rfl : k = n := by omega
      have t0 : decide ((k : Int) < (k : Int)) = false := by simp
      have htk : L.take k = L := by rw [← hn, List.take_length]
      rw [htk] at hp hq
      obtain ⟨a1, c1, rfl⟩ := own_form hp
      obtain ⟨a2, c2, rfl⟩ := own_form hq
      have hA1 : ∀ b o, a1 = some ⟨b, o, none⟩ → W5.heap.size ≤ b := fun b o e => (hp.lt b (by rw [e]; rfl)).1
      have hA2 : ∀ b o, a2 = some ⟨b, o, none⟩ → W5.heap.size ≤ b := fun b o e => (hq.lt b (by rw [e]; rfl)).1
      have hsA := own_seq enA_len hp hn
      have hsI := own_seq enI_len hq hn
      have HS := Lib.hid (And.intro hsA hsI)
      have HB6 := Lib.hid (bk_belowW HB5.out HB5.out hb)
      have HL6 := Lib.hid (HL.out.below (Nat.le_refl _) HB6.out.be)
      clear hp hq hne hb hbw hB5 hsA hsI htk HL
      go_wp2_with fail
      (with_reducible refine (k6 _ _ _ HL6.out).mono ?_); rintro e1 W6 ⟨rfl, hb6⟩
      have HB7 := Lib.hid (HB6.out.below hb6)
      have HS7 := Lib.hid (And.intro (HS.out.1.below (Nat.le_refl _) hb6) (HS.out.2.below (Nat.le_refl _) hb6))
      have b0 := Blk.cell (HB7.out.nth 3 rfl) 0 (v := .int .i64 D.tag) rfl
      have b1 := Blk.cell (HB7.out.nth 3 rfl) 1 (v := .string D.body) rfl
      have bf0 := Blk.frozen (HB7.out.nth 3 rfl) 0
      have bf1 := Blk.frozen (HB7.out.nth 3 rfl) 1
      clear HS HB6 HL6 hb6 k6
      go_wp2_with fail
      refine calls_gen (fun V => Bk w V [(W2.heap.size, 35, cDc D), (W1.heap.size, 30, cDc T), (w.heap.size + 1, 30, cDc d)] ∧ Seq enA 4 V a1 L ∧ Seq enI 1 V a2 L) ?_ ?_
      · have hS := row_set [.int .i64 T.tag, .string T.body] (HB7.out.nth 3 rfl)
        have hE := Go.Proofs.Ytbceakdifklocaa.Rg.below_setCells (show w.heap.size ≤ W1.heap.size by omega) [.int .i64 T.tag, .string T.body] 0 w _ HB7.out.be
        exact ⟨⟨hE, fun x hx => by
          rcases List.mem_cons.1 hx with rfl | hx
          · exact Blk.grown (HB7.out.nth 2 rfl) hS.2 (by simp; omega)
          · rcases List.mem_cons.1 hx with rfl | hx
            · exact hS.1
            · rcases List.mem_cons.1 hx with rfl | hx
              · exact Blk.grown (HB7.out.nth 4 rfl) hS.2 (by simp; omega)
              · cases hx⟩, seq_only HS7.out.1 hS.2 (fun b o e => by have := hA1 b o e; omega), seq_only HS7.out.2 hS.2 (fun b o e => by have := hA2 b o e; omega)⟩
      rintro V ⟨hV, hVA, hVI⟩
      have HV := Lib.hid hV
      clear HB7 HS7 hV b0 b1 bf0 bf1
      (with_reducible refine (k7 _ _ _ _ _ hVA hVI).mono ?_); rintro e1 W7 ⟨rfl, hb7⟩
      have HV7 := Lib.hid (HV.out.below hb7)
      have b0 := Blk.cell (HV7.out.nth 0 rfl) 0 (v := .int .i64 D.tag) rfl
      have b1 := Blk.cell (HV7.out.nth 0 rfl) 1 (v := .string D.body) rfl
      have bf0 := Blk.frozen (HV7.out.nth 0 rfl) 0
      have bf1 := Blk.frozen (HV7.out.nth 0 rfl) 1
      have x0 := Blk.cell (HV7.out.nth 2 rfl) 0 (v := .int .i64 d.tag) rfl
      have x1 := Blk.cell (HV7.out.nth 2 rfl) 1 (v := .string d.body) rfl
      have lx := HV7.out.lt 2 rfl
      clear k7 hVA hVI HV hb7
      go_wp2_with fail
      refine calls_gen (fun V => Bk w V [(W2.heap.size, 35, cDc T), (W1.heap.size, 30, cDc T), (w.heap.size + 1, 30, cDc d)]) ?_ ?_
      · have hS := row_set [.int .i64 T.tag, .string T.body] (HV7.out.nth 0 rfl)
        have hE := Go.Proofs.Ytbceakdifklocaa.Rg.below_setCells (show w.heap.size ≤ W2.heap.size by omega) [.int .i64 T.tag, .string T.body] 0 w _ HV7.out.be
        exact ⟨hE, fun x hx => by
          rcases List.mem_cons.1 hx with rfl | hx
          · exact hS.1
          · rcases List.mem_cons.1 hx with rfl | hx
            · exact Blk.grown (HV7.out.nth 1 rfl) hS.2 (by simp; omega)
            · rcases List.mem_cons.1 hx with rfl | hx
              · exact Blk.grown (HV7.out.nth 2 rfl) hS.2 (by simp; omega)
              · cases hx⟩
      rintro V2 hV2
      have HV2 := Lib.hid hV2
      clear HV7 hV2 b0 b1 bf0 bf1 x0 x1 lx
      (with_reducible refine (k8 _).mono ?_); rintro e1 W8 ⟨a8, c8, rfl, hs8, hb8⟩
      have HV8 := Lib.hid (HV2.out.below hb8)
      have x0 := Blk.cell (HV8.out.nth 2 rfl) 0 (v := .int .i64 d.tag) rfl
      have x1 := Blk.cell (HV8.out.nth 2 rfl) 1 (v := .string d.body) rfl
      clear k8 HV2 hb8
      go_wp2_with fail
      (with_reducible refine (k9 _).mono ?_); rintro e1 W9 ⟨rfl, hb9⟩
      have HV9 := Lib.hid (HV8.out.below hb9)
      have HS9 := Lib.hid (hs8.below (Nat.le_refl _) hb9)
      have b0 := Blk.cell (HV9.out.nth 1 rfl) 0 (v := .int .i64 T.tag) rfl
      have b1 := Blk.cell (HV9.out.nth 1 rfl) 1 (v := .string T.body) rfl
      have c0 := Blk.cell (HV9.out.nth 0 rfl) 0 (v := .int .i64 T.tag) rfl
      have c1 := Blk.cell (HV9.out.nth 0 rfl) 1 (v := .string T.body) rfl
      clear k9 HV8 hb9 x0 x1 hs8
      go_wp2_with fail
      (with_reducible refine (k10 _).mono ?_); rintro e1 W10 ⟨rfl, hb10⟩
      have HV10 := Lib.hid (HV9.out.below hb10)
      have HS10 := Lib.hid (HS9.out.below (Nat.le_refl _) hb10)
      clear k10 HV9 HS9 b0 b1 c0 c1 hb10
      go_wp2_with fail
      have hM : rtN d ≤ 51 := by unfold rtN; split
                                 · have := rtE_le d (by assumption); omega
                                 · omega
      have HM := Lib.hid (rtE_le d)
      obtain ⟨M, hMM⟩ : ∃ M, rtN d = M := ⟨_, rfl⟩
      have hlenM : (rtL d).length = M := by rw [rtL_len, hMM]
      rw [hMM] at hM ⊢
      have HLM := Lib.hid hlenM
      have HMM := Lib.hid hMM
      clear hMM hlenM t4 t5
      go_loopw [22] (fun i wr => ∃ j : Nat, j ≤ M ∧ i = .int .i64 j ∧ Below W10.heap.size W10 wr) (fun i _ => M - (intOf i).toNat)
      case atStart => exact ⟨0, by omega, rfl, Below.refl _ _⟩
      case round =>
        obtain ⟨j, hj, rfl, hb⟩ := hrel
        have hbE := HV10.out.be.trans (hb.mono HV10.out.be.size)
        by_cases hjl : j < M
        · have t0 : decide ((j : Int) < (M : Int)) = true := by simp; omega
          have hE0 : rtE d = 0 := by
            cases Decidable.em (rtE d = 0) with
            | inl h => exact h
            | inr h => have := HMM.out; unfold rtN at this; rw [if_neg h] at this; omega
          have hMs : d.body.size = 5 * M := by have := HMM.out; unfold rtN at this; rw [if_pos hE0] at this; have := (HM.out hE0).2; omega
          have hel : (rtL d)[j]? = some (tgAt d.body j) := by
            have := HMM.out
            unfold rtN at this; rw [if_pos hE0] at this
            unfold rtL; rw [if_pos hE0, this]
            simp [tgN, hjl]
          obtain ⟨b8, o8, rfl, l8, hc⟩ := HS10.out.below (Nat.le_refl _) hb j _ hel
          obtain ⟨x0, e0⟩ : ∃ x, at' d.body (5 * j) = x := ⟨_, rfl⟩
          obtain ⟨x1, e1⟩ : ∃ x, at' d.body (5 * j + 1) = x := ⟨_, rfl⟩
          obtain ⟨x2, e2⟩ : ∃ x, at' d.body (5 * j + 2) = x := ⟨_, rfl⟩
          obtain ⟨x3, e3⟩ : ∃ x, at' d.body (5 * j + 3) = x := ⟨_, rfl⟩
          obtain ⟨x4, e4⟩ : ∃ x, at' d.body (5 * j + 4) = x := ⟨_, rfl⟩
          have htg : tgAt d.body j = ⟨x0, x1, x2, x3, x4⟩ := by unfold tgAt; rw [e0, e1, e2, e3, e4]
          rw [htg] at hc
          have c0 : wr.cell? ⟨b8, o8 + j * 5, none⟩ = some (.int .u8 x0) := hc 0 _ rfl
          have c1 : wr.cell? ⟨b8, o8 + j * 5 + 1, none⟩ = some (.int .u8 x1) := hc 1 _ rfl
          have c2 : wr.cell? ⟨b8, o8 + j * 5 + 2, none⟩ = some (.int .u8 x2) := hc 2 _ rfl
          have c3 : wr.cell? ⟨b8, o8 + j * 5 + 3, none⟩ = some (.int .u8 x3) := hc 3 _ rfl
          have c4 : wr.cell? ⟨b8, o8 + j * 5 + 4, none⟩ = some (.int .i64 x4) := hc 4 _ rfl
          have f4 := fun p => cell_ext l8 c4 p
          have hcv : ∀ p, (convert 78 9 (.slice (some ⟨b8, o8 + j * 5, none⟩) 4 4)).run Try.prog (ext wr p) = .ok (.string (strOfNums [x0, x1, x2, x3])) (ext wr p) := fun p =>
            run_convert_bytes_arg (P := Try.prog) _ 78 5 Try.underlying78 Try.underlying5 b8 (o8 + j * 5) 4 4 [x0, x1, x2, x3] rfl (fun i hi => by
              match i, hi with
              | 0, _ => exact cell_ext l8 c0 p
              | 1, _ => exact cell_ext l8 c1 p
              | 2, _ => exact cell_ext l8 c2 p
              | 3, _ => exact cell_ext l8 c3 p) _ Try.underlying9
          have hstr : d.body.extract (5 * j) (5 * j + 4) = strOfNums [x0, x1, x2, x3] := by rw [← e0, ← e1, ← e2, ← e3]; exact four_bytes d.body (5 * j) (by omega)
          have q1 : IntKind.i64.wrap (5 * (j : Int)) = 5 * (j : Int) := by rw [IntKind.wrap_i64]; omega
          have q2 : IntKind.i64.wrap (5 * (j : Int) + 4) = 5 * (j : Int) + 4 := by rw [IntKind.wrap_i64]; omega
          have i4 : ∀ V : World, (Instr.index 9 (.string d.body) (.int .i64 (5 * (j : Int) + 4))).run Try.prog V = .ok (.int .u8 x4) V := fun V => by
            rw [← e4, show 5 * (j : Int) + 4 = ((5 * j + 4 : Nat) : Int) by omega]; exact idx_at d.body (5 * j + 4) (by omega) V
          have r4 := at_range d.body (5 * j + 4)
          rw [e4] at r4
          have q3 : IntKind.i64.wrap x4 = x4 := by rw [IntKind.wrap_i64]; omega
          have t6 : (x4 != x4) = false := by simp
          have hs1 : (0 : Int) ≤ 5 * (j : Int) := by omega
          have hs2 : 5 * (j : Int) ≤ 5 * (j : Int) + 4 := by omega
          have hs3 : 5 * (j : Int) + 4 ≤ (d.body.size : Int) := by omega
          have hj0 : (0 : Int) ≤ (j : Int) := Int.natCast_nonneg _
          have hj1 : (j : Int) < (M : Int) := by omega
          have HVr := Lib.hid (HV10.out.below hb)
          have g1 := fun p => Blk.cell (blk_ext (HVr.out.nth 2 rfl) p) 1 (v := .string d.body) rfl
          clear hc e0 e1 e2 e3 e4 htg hel hE0 hMs c0 c1 c2 c3 c4 r4
          go_wp2_with fail
          refine Go.Proofs.Ytbceakdifklocaa.Q.region_ext (by kernel_rfl) (by kernel_rfl) ?_
          repeat (go_big_quiet_step (fail))
          refine wpQuiet_nil ?_
          rintro w9 ⟨pq, rfl⟩
          have hb2 := hb.trans ((below_ext wr pq).mono hb.size)
          clear f4 hcv hstr i4 g1 hb hbE
          go_wp2_with fail
          go_roundw
          case rel => exact ⟨j + 1, by omega, by go_num, hb2⟩
          case measure => simp [intOf]; omega
        · obtain rfl : j = M := by omega
          have t0 : decide ((j : Int) < (j : Int)) = false := by simp
          go_wp2_with fail
          (with_reducible refine (awake_any _).mono ?_); rintro e1 W11 ⟨rfl, hb11⟩
          have hE := hbE.trans (hb11.mono hbE.size)
          clear hb hbE hb11
          go_wp2_with fail
          go_ret
          exact ⟨rfl, hE⟩
theorem places_any (x : Pl) (a : Option Addr) (n c : Nat) (d : Dc) (L : List Tg) (w : World) (hn : L.length = n) (hL : Seq enT 5 w a L) :
    Calls Try.prog 7 #[.agg x.vals, .slice a n c, .agg #[.int .i64 d.tag, .string d.body]] w fun e w' => e = .returned (.bool true) ∧ Below w.heap.size w w' := by
  by_cases h1 : 60 < n
  · exact places_long x a n c d w (Or.inl h1)
  · by_cases h2 : 300 < d.body.size
    · exact places_long x a n c d w (Or.inr h2)
    · exact places_go x a n c d L w hn hL h1 h2
end Go.Proofs.Ytbceakdifklocaa.DtF
