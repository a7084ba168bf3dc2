/- section: Encode. -/
import Derived.Test.YtfadhgbhdoddpaaSeB
import Derived.Test.YtfadhgbhdoddpaaBiG
import Derived.Test.YtfadhgbhdoddpaaCrC
namespace Go.Proofs.Ytfadhgbhdoddpaa.SeC
open Go Go.RowKit Go.Proofs.Ytfadhgbhdoddpaa.Q Go.Proofs.Ytfadhgbhdoddpaa.Mem Go.Proofs.Ytfadhgbhdoddpaa.Rg Go.Proofs.Ytfadhgbhdoddpaa.Ap Go.Proofs.Ytfadhgbhdoddpaa.St Go.Proofs.Ytfadhgbhdoddpaa.BiP Go.Proofs.Ytfadhgbhdoddpaa.BiW Go.Proofs.Ytfadhgbhdoddpaa.BiF Go.Proofs.Ytfadhgbhdoddpaa.BiA Go.Proofs.Ytfadhgbhdoddpaa.BiG Go.Proofs.Ytfadhgbhdoddpaa.CrB Go.Proofs.Ytfadhgbhdoddpaa.CrC Go.Proofs.Ytfadhgbhdoddpaa.SeA

/-- a section's head, as numbers with their widths -/
def flds (s : Sc) : List (Nat × Nat) := [(s.table.toNat, 8), (1, 1), (nb s.priv, 1), (3, 2), (s.body.size + 9, 12), (s.ext.toNat, 16), (3, 2), (s.version.toNat, 5), (nb s.now, 1), (s.number.toNat, 8), (s.last.toNat, 8)]
def fbits (F : List (Nat × Nat)) : List Bool := F.flatMap fun f => bitsOf f.1 f.2
/-- a section's bytes, but for the check sum -/
def frontL (s : Sc) : List UInt8 := [UInt8.ofNat s.table.toNat, UInt8.ofNat (176 + 64 * nb s.priv + (s.body.size + 9) / 256), UInt8.ofNat ((s.body.size + 9) % 256), UInt8.ofNat (s.ext.toNat / 256), UInt8.ofNat (s.ext.toNat % 256), UInt8.ofNat (192 + 2 * s.version.toNat + nb s.now), UInt8.ofNat s.number.toNat, UInt8.ofNat s.last.toNat]
theorem front_bits (s : Sc) (h : s.ok) (hb : ¬ 4084 < s.body.size) : pk (fbits (flds s) ++ bitsL (bl s.body)) = frontL s ++ bl s.body := by
  obtain ⟨⟨_, a2⟩, ⟨_, b2⟩, ⟨_, c2⟩, ⟨_, d2⟩, _, f2⟩ := h
  have hp := nb_le s.priv
  have hn := nb_le s.now
  obtain ⟨n, hN⟩ : ∃ n, s.body.size + 9 = n := ⟨_, rfl⟩
  have hx : fbits (flds s) = bitsOf s.table.toNat 8 ++ (bitsOf (176 + 64 * nb s.priv + n / 256) 8 ++ (bitsOf (n % 256) 8 ++ (bitsOf (s.ext.toNat / 256) 8 ++ (bitsOf (s.ext.toNat % 256) 8 ++ (bitsOf (192 + 2 * s.version.toNat + nb s.now) 8 ++ (bitsOf s.number.toNat 8 ++ (bitsOf s.last.toNat 8 ++ []))))))) := by
    have e1 : bitsOf 1 1 ++ (bitsOf (nb s.priv) 1 ++ (bitsOf 3 2 ++ bitsOf n 12)) = bitsOf (176 + 64 * nb s.priv + n / 256) 8 ++ bitsOf (n % 256) 8 := by
      rw [bitsOf_join 3 n 2 12 (by omega), bitsOf_join (nb s.priv) _ 1 14 (by omega), bitsOf_join 1 _ 1 15 (by omega), bitsOf_join _ (n % 256) 8 8 (by omega)]
      exact congrArg (fun x => bitsOf x 16) (by omega)
    have e2 : bitsOf 3 2 ++ (bitsOf s.version.toNat 5 ++ bitsOf (nb s.now) 1) = bitsOf (192 + 2 * s.version.toNat + nb s.now) 8 := by
      rw [bitsOf_join s.version.toNat _ 5 1 (by omega), bitsOf_join 3 _ 2 6 (by omega)]
      exact congrArg (fun x => bitsOf x 8) (by omega)
    unfold fbits flds
    simp only [List.flatMap_cons, List.flatMap_nil, hN]
    rw [← List.append_assoc (bitsOf (176 + 64 * nb s.priv + n / 256) 8), ← e1, ← List.append_assoc (bitsOf (s.ext.toNat / 256) 8), ← bitsOf_two, ← e2]
    simp only [List.append_assoc]
  rw [hx]
  simp only [List.append_assoc, List.nil_append, pk_cons, pk_bytes]
  unfold frontL
  rw [hN]
  rfl
def bytesS (s : Sc) : ByteArray := str (sealL (frontL s ++ bl s.body))
set_option maxRecDepth 100000
theorem enc_bad (s : Sc) (w : World) (h : s.chk ≠ 0) : Calls Try.prog 24 #[.agg s.vals] w fun e w' => e = .returned (.tuple #[.string nob, .int .i64 s.chk]) ∧ Below w.heap.size w w' := by
  have k1 := check_any s
  have HB := Lib.hid (bk1 w 57 s.vals)
  obtain ⟨c, hc⟩ : ∃ c, s.chk = c := ⟨_, rfl⟩
  rw [hc] at k1 h ⊢
  have t1 : (c != 0) = true := by simpa using h
  clear hc h
  obtain ⟨t, p, e, v, n, m, l, b⟩ := s
  unfold Sc.vals at k1 HB ⊢
  dsimp only at k1 HB ⊢
  go_enter Try.func24, Try.ntmps24
  go_wp2_with fail
  (with_reducible refine (k1 _).mono ?_); rintro e1 W1 ⟨rfl, hb1⟩
  have hE := (HB.out.below hb1).be
  go_wp2_with fail
  go_ret2
  exact ⟨rfl, hE⟩
theorem flag_nb (b : Bool) (w : World) : Calls Try.prog 40 #[.bool b] w fun e w' => e = .returned (.int .u64 (nb b : Int)) ∧ w = w' := by
  have := flag_any b w
  cases b <;> exact this
theorem idx_fl (T P N E V Q M L k : Nat) (f : Nat × Nat) (hf : [(T, 8), (1, 1), (P, 1), (3, 2), (N + 9, 12), (E, 16), (3, 2), (V, 5), (Q, 1), (M, 8), (L, 8)][k]? = some f) (W : World) :
    (Instr.index 80 (.agg #[.int .u64 (T : Int), .int .i64 8, .int .u64 1, .int .i64 1, .int .u64 (P : Int), .int .i64 1, .int .u64 3, .int .i64 2, .int .u64 ((N : Int) + 9), .int .i64 12, .int .u64 (E : Int), .int .i64 16, .int .u64 3, .int .i64 2, .int .u64 (V : Int), .int .i64 5, .int .u64 (Q : Int), .int .i64 1, .int .u64 (M : Int), .int .i64 8, .int .u64 (L : Int), .int .i64 8]) (.int .i64 (k : Int))).run Try.prog W
      = .ok (.agg #[.int .u64 (f.1 : Int), .int .i64 (f.2 : Int)]) W := by
  match k, hf with
  | 0, hf | 1, hf | 2, hf | 3, hf | 4, hf | 5, hf | 6, hf | 7, hf | 8, hf | 9, hf | 10, hf => (injection hf with hf; rw [← hf]; show (_ : Result Value) = _; kernel_rfl)
  | _ + 11, hf => simp at hf
theorem fl_le {T P N E V Q M L k : Nat} {f : Nat × Nat} (hf : [(T, 8), (1, 1), (P, 1), (3, 2), (N + 9, 12), (E, 16), (3, 2), (V, 5), (Q, 1), (M, 8), (L, 8)][k]? = some f) (h : T < 65536 ∧ P < 65536 ∧ N < 65000 ∧ E < 65536 ∧ V < 65536 ∧ Q < 65536 ∧ M < 65536 ∧ L < 65536) : f.1 < 65536 ∧ f.2 ≤ 16 := by
  match k, hf with
  | 0, hf | 1, hf | 2, hf | 3, hf | 4, hf | 5, hf | 6, hf | 7, hf | 8, hf | 9, hf | 10, hf => injection hf with hf; subst hf; dsimp only; omega
  | _ + 11, hf => simp at hf
theorem fbits_snoc {F : List (Nat × Nat)} {k : Nat} {f : Nat × Nat} (h : F[k]? = some f) : fbits (F.take (k + 1)) = fbits (F.take k) ++ bitsOf f.1 f.2 := by rw [List.take_add_one, h]; simp [fbits]
theorem fbits_len {F : List (Nat × Nat)} (h : ∀ f ∈ F, f.2 ≤ 16) : (fbits F).length ≤ 16 * F.length := by
  induction F with
  | nil => simp [fbits]
  | cons f t ih =>
    have h1 := h f (List.mem_cons_self ..)
    have h2 := ih (fun x hx => h x (List.mem_cons_of_mem _ hx))
    simp only [fbits, List.flatMap_cons, List.length_append, bitsOf_len, List.length_cons] at h2 ⊢
    omega
set_option maxHeartbeats 1600000 in
theorem enc_ok (s : Sc) (w : World) (h : s.ok) (hb : ¬ 4084 < s.body.size) : Calls Try.prog 24 #[.agg s.vals] w fun e w' => e = .returned (.tuple #[.string (bytesS s), .int .i64 0]) ∧ Below w.heap.size w w' := by
  have k1 := check_any s
  rw [chk_ok h hb] at k1
  have hfr := front_bits s h hb
  have hX : bytesS s = str (sealL (frontL s ++ bl s.body)) := rfl
  have hfl : flds s = [(s.table.toNat, 8), (1, 1), (nb s.priv, 1), (3, 2), (s.body.size + 9, 12), (s.ext.toNat, 16), (3, 2), (s.version.toNat, 5), (nb s.now, 1), (s.number.toNat, 8), (s.last.toNat, 8)] := rfl
  have hB0 := bk1 w 57 s.vals
  obtain ⟨⟨a1, a2⟩, ⟨b1, b2⟩, ⟨c1, c2⟩, ⟨d1, d2⟩, f1, f2⟩ := h
  obtain ⟨S, hS⟩ : ∃ S, bytesS s = S := ⟨_, rfl⟩
  rw [hS] at hX ⊢
  obtain ⟨FR, hFR⟩ : ∃ FR, frontL s = FR := ⟨_, rfl⟩
  rw [hFR] at hfr hX
  obtain ⟨FL, hFL⟩ : ∃ FL, flds s = FL := ⟨_, rfl⟩
  rw [hFL] at hfr hfl
  clear hS hFR hFL
  obtain ⟨t, p, e, v, n, m, l, b⟩ := s
  unfold Sc.vals at k1 hB0 ⊢
  dsimp only at *
  obtain ⟨t, rfl⟩ : ∃ x : Nat, t = x := ⟨t.toNat, by omega⟩
  obtain ⟨e, rfl⟩ : ∃ x : Nat, e = x := ⟨e.toNat, by omega⟩
  obtain ⟨v, rfl⟩ : ∃ x : Nat, v = x := ⟨v.toNat, by omega⟩
  obtain ⟨m, rfl⟩ : ∃ x : Nat, m = x := ⟨m.toNat, by omega⟩
  obtain ⟨l, rfl⟩ : ∃ x : Nat, l = x := ⟨l.toNat, by omega⟩
  simp only [Int.toNat_natCast] at hfl
  have kp := fun V => flag_nb p V
  have kq := fun V => flag_nb n V
  have hP := nb_le p
  have hQ := nb_le n
  obtain ⟨P, hPe⟩ : ∃ P, nb p = P := ⟨_, rfl⟩
  obtain ⟨Q, hQe⟩ : ∃ Q, nb n = Q := ⟨_, rfl⟩
  rw [hPe] at kp hP hfl
  rw [hQe] at kq hQ hfl
  have HI := Lib.hid (idx_fl t P b.size e v Q m l)
  have HLE := Lib.hid (fun k f hf => fl_le (T := t) (P := P) (N := b.size) (E := e) (V := v) (Q := Q) (M := m) (L := l) (k := k) (f := f) hf ⟨by omega, by omega, by omega, by omega, by omega, by omega, by omega, by omega⟩)
  have HF := Lib.hid hfr
  have HX := Lib.hid hX
  have HFL := Lib.hid hfl
  have HB := Lib.hid hB0
  have hbz : b.size ≤ 4084 := by omega
  clear hPe hQe hfr hX hfl hB0 a1 b1 c1 d1 f1 hb
  go_enter Try.func24, Try.ntmps24
  go_wp2_with fail
  (with_reducible refine (k1 _).mono ?_); rintro e1 W1 ⟨rfl, hb1⟩
  have HB1 := Lib.hid (HB.out.below hb1)
  have HB2 := Lib.hid (HB1.out.new 73 #[.slice none 0 0, .int .i64 0])
  clear k1 HB hb1
  have c0 := fun pX => Blk.cell (blk_ext (HB2.out.nth 1 rfl) pX) 0 (v := .int .i64 (t : Int)) rfl
  have c1 := fun pX => Blk.cell (blk_ext (HB2.out.nth 1 rfl) pX) 1 (v := .bool p) rfl
  have c2 := fun pX => Blk.cell (blk_ext (HB2.out.nth 1 rfl) pX) 2 (v := .int .i64 (e : Int)) rfl
  have c3 := fun pX => Blk.cell (blk_ext (HB2.out.nth 1 rfl) pX) 3 (v := .int .i64 (v : Int)) rfl
  have c4 := fun pX => Blk.cell (blk_ext (HB2.out.nth 1 rfl) pX) 4 (v := .bool n) rfl
  have c5 := fun pX => Blk.cell (blk_ext (HB2.out.nth 1 rfl) pX) 5 (v := .int .i64 (m : Int)) rfl
  have c6 := fun pX => Blk.cell (blk_ext (HB2.out.nth 1 rfl) pX) 6 (v := .int .i64 (l : Int)) rfl
  have c7 := fun pX => Blk.cell (blk_ext (HB2.out.nth 1 rfl) pX) 7 (v := .string b) rfl
  go_wp2_with fail
  refine Go.Proofs.Ytfadhgbhdoddpaa.Q.region_ext (by kernel_rfl) (by kernel_rfl) ?_
  repeat (go_big_quiet_step ((first | (go_at_call 40; refine ext_call_same (kp _)) | (go_at_call 40; refine ext_call_same (kq _)))))
  refine wpQuiet_nil ?_
  rintro w9 ⟨pq, rfl⟩
  have HB3 := Lib.hid (HB2.out.px pq)
  have hgw := HB1.out.size
  obtain ⟨g, hg⟩ : ∃ g, W1.heap.size = g := ⟨_, rfl⟩
  rw [hg] at HB3 hgw ⊢
  obtain ⟨W0, hW0⟩ : ∃ W0, ext (W1.alloc (.cells #[.slice none 0 0, .int .i64 0] 73)) pq = W0 := ⟨_, rfl⟩
  rw [hW0] at HB3 ⊢
  have hg1 : g + 1 ≤ W0.heap.size := HB3.out.lt 0 rfl
  have hwg : w.heap.size < g := by have := HB1.out.lt 0 rfl; rw [← hg]; exact this
  have HO0 := Lib.hid (show OutV W0 g (g + 1) (.slice none 0 0) (fbits (FL.take 0)) from ⟨HB3.out.nth 0 rfl, by rw [show fbits (FL.take 0) = [] by simp [fbits], show pk [] = [] from rfl]; exact World.ownsRow_nil _ _ _ _, by omega, hg1⟩)
  clear c0 c1 c2 c3 c4 c5 c6 c7 kp kq hW0 HB2 HB1 hg
  go_wp2_with fail
  go_loopw [51] (fun i wr => ∃ (k : Nat) (v' : Value), k ≤ 11 ∧ i = .int .i64 k ∧ Hid (OutV wr g (g + 1) v' (fbits (FL.take k)) ∧ Grow g (.slice none 0 0) W0 v' wr)) (fun i _ => 11 - (intOf i).toNat)
  case atStart => exact ⟨0, _, by omega, rfl, Lib.hid ⟨HO0.out, Grow.refl _ _ _⟩⟩
  case round =>
    obtain ⟨k, v', hk, rfl, hI⟩ := hrel
    by_cases hk11 : k < 11
    · have t1 : decide ((k : Int) < 11) = true := by simp; omega
      obtain ⟨f, hf⟩ : ∃ f, FL[k]? = some f := ⟨_, List.getElem?_eq_getElem (by rw [HFL.out]; exact hk11)⟩
      have HS := Lib.hid (fbits_snoc hf)
      have hall : ∀ x ∈ FL.take k, x.2 ≤ 16 := fun x hx => by
        obtain ⟨j, hj⟩ := List.getElem?_of_mem (List.mem_of_mem_take hx)
        rw [HFL.out] at hj
        exact (HLE.out j x hj).2
      have hlen := fbits_len hall
      rw [HFL.out] at hf
      have ix := HI.out k f hf
      obtain ⟨l1, l2⟩ := HLE.out k f hf
      obtain ⟨x, y⟩ := f
      dsimp only at ix l1 l2 HS
      have hlk := List.length_take_le k FL
      have kp := fun (o : Obj) => put_any g (g + 1) v' (fbits (FL.take k)) x y (wr.alloc o) (hI.out.1.other (World.grownBy_alloc wr o none) (by simp) (fun r e => by cases e)) (by omega) (by omega) (by omega)
      have HG := Lib.hid hI.out.2
      clear hall hlen hf hI hlk
      go_wp2_with fail
      (with_reducible refine (kp _).mono ?_); rintro e1 W2 ⟨rfl, v2, hO2, hG2⟩
      have HI2 := Lib.hid (show OutV W2 g (g + 1) v2 (fbits (FL.take (k + 1))) ∧ Grow g (.slice none 0 0) W0 v2 W2 from ⟨by rw [HS.out]; exact hO2, (HG.out.other (World.grownBy_alloc wr _ none) (fun r e => by cases e)).trans hG2⟩)
      clear kp hO2 hG2 ix HG HS
      go_wp2_with fail
      go_roundw
      case rel => exact ⟨k + 1, v2, by omega, by go_num, HI2⟩
      case measure => simp [intOf]; omega
    · obtain rfl : k = 11 := by omega
      have t1 : decide (((11 : Nat) : Int) < 11) = false := by decide
      rw [show FL.take 11 = FL by rw [List.take_of_length_le (by rw [HFL.out]; exact Nat.le_refl 11)]] at hI
      have hbx : Blk wr w.heap.size 57 #[.int .i64 (t : Int), .bool p, .int .i64 (e : Int), .int .i64 (v : Int), .bool n, .int .i64 (m : Int), .int .i64 (l : Int), .string b] :=
        (hI.out.2.block _ (by omega) (by omega) (by simp [Value.ownBlock])).trans (HB3.out.nth 1 rfl)
      have c7 := Blk.cell hbx 7 (v := .string b) rfl
      have hwr := hI.out.1.bw
      have hrow := hI.out.1.row
      have hlF : (fbits FL).length ≤ 176 := by
        have hx := fbits_len (F := FL) (fun x hx => by
          obtain ⟨j, hj⟩ := List.getElem?_of_mem hx
          rw [HFL.out] at hj
          exact (HLE.out j x hj).2)
        rw [show FL.length = 11 by rw [HFL.out]; rfl] at hx
        exact hx
      have kt := otext_one g (g + 1) v' (fbits FL) b (wr.alloc (.cells #[.string b] 9)) wr.heap.size (by omega) (hI.out.1.other (World.grownBy_alloc wr _ none) (by simp) (fun r e => by cases e)) (Blk.cell (Blk.new wr 9 #[.string b]) 0 rfl) (fun r e => by have := (hrow r e).2; omega) (by omega)
      have HG := Lib.hid hI.out.2
      clear hbx hrow hI HI HLE
      go_wp2_with fail
      (with_reducible refine (kt).mono ?_); rintro e1 W3 ⟨rfl, v3, hO3, hG3⟩
      have ks := ostring_any g (g + 1) v3 _ W3 hO3
      rw [HF.out] at ks
      have hbe : Below w.heap.size w W3 := by
        have h1 := HB3.out.be
        have h2 := (HG.out.other (World.grownBy_alloc wr (.cells #[.string b] 9) none) (fun r e => by cases e)).trans hG3
        exact h1.trans (h2.below (by omega) (fun r e => by simp [Value.ownBlock] at e) h1.size)
      have HBE := Lib.hid hbe
      have hsz : (str (FR ++ bl b)).size ≤ 1099511627776 := by
        have hl8 := congrArg List.length HF.out
        rw [pk_len, List.length_append, bitsL_len, bl_len] at hl8
        rw [str_size, ← hl8]; omega
      have kl := seal_any (str (FR ++ bl b)) W3 hsz
      rw [bl_str, ← HX.out] at kl
      obtain ⟨Z, hZ⟩ : ∃ Z, str (FR ++ bl b) = Z := ⟨_, rfl⟩
      rw [hZ] at ks kl
      clear kt hO3 hG3 hbe hsz hZ c7 hlF HG
      go_wp2_with fail
      (with_reducible refine (ks).mono ?_); rintro e1 W4 ⟨rfl, rfl⟩
      go_wp2_with fail
      (with_reducible refine (kl).mono ?_); rintro e1 W5 ⟨rfl, hb5⟩
      have hE := HBE.out.trans (hb5.mono HBE.out.size)
      go_wp2_with fail
      go_ret2
      exact ⟨rfl, hE⟩
end Go.Proofs.Ytfadhgbhdoddpaa.SeC
