/- times: what is wrong with times; their four bytes. -/
import Derived.Test.YtfadhgbhdoddpaaSeK
import Derived.Test.YtfadhgbhdoddpaaSeP
namespace Go.Proofs.Ytfadhgbhdoddpaa.TmA
open Go Go.RowKit Go.Proofs.Ytfadhgbhdoddpaa.Q Go.Proofs.Ytfadhgbhdoddpaa.Mem Go.Proofs.Ytfadhgbhdoddpaa.Rg Go.Proofs.Ytfadhgbhdoddpaa.Ap Go.Proofs.Ytfadhgbhdoddpaa.St Go.Proofs.Ytfadhgbhdoddpaa.BiP Go.Proofs.Ytfadhgbhdoddpaa.BiA Go.Proofs.Ytfadhgbhdoddpaa.BiW Go.Proofs.Ytfadhgbhdoddpaa.BiF Go.Proofs.Ytfadhgbhdoddpaa.BiG Go.Proofs.Ytfadhgbhdoddpaa.BiH Go.Proofs.Ytfadhgbhdoddpaa.SeA Go.Proofs.Ytfadhgbhdoddpaa.SeG Go.Proofs.Ytfadhgbhdoddpaa.SeI Go.Proofs.Ytfadhgbhdoddpaa.SeJ

/-- times -/
structure Ti where
  delta : Int
  table : Bool
  frame : Bool
  at_ : Int
def Ti.vals (t : Ti) : Array Value := #[.int .i64 t.delta, .bool t.table, .bool t.frame, .int .i64 t.at_]
def Ti.ok (t : Ti) : Prop := (0 ≤ t.delta ∧ t.delta ≤ 4095) ∧ (0 ≤ t.at_ ∧ t.at_ ≤ 262143)
instance (t : Ti) : Decidable t.ok := by unfold Ti.ok; infer_instance
def Ti.chk (t : Ti) : Int := if t.ok then 0 else 15
def zeroT : Ti := ⟨0, false, false, 0⟩
/-- their four bytes -/
def tmL (t : Ti) : List UInt8 := [UInt8.ofNat (t.delta.toNat / 16), UInt8.ofNat (t.delta.toNat % 16 * 16 + nb t.table * 8 + nb t.frame * 4 + t.at_.toNat / 65536), UInt8.ofNat (t.at_.toNat / 256 % 256), UInt8.ofNat (t.at_.toNat % 256)]
def encT (t : Ti) : ByteArray := if t.chk = 0 then str (tmL t) else nob
theorem tm_len (t : Ti) : (tmL t).length = 4 := rfl
theorem ti_iff {a b : Ti} : a = b ↔ a.delta = b.delta ∧ a.table = b.table ∧ a.frame = b.frame ∧ a.at_ = b.at_ := ⟨fun h => by subst h; simp, fun ⟨h1, h2, h3, h4⟩ => by cases a; cases b; simp_all⟩
instance : DecidableEq Ti := fun _ _ => decidable_of_iff _ ti_iff.symm
theorem tchk_ok {t : Ti} (h : t.ok) : t.chk = 0 := by unfold Ti.chk; rw [if_pos h]
theorem tchk_no {t : Ti} (h : ¬ t.ok) : t.chk = 15 := by unfold Ti.chk; rw [if_neg h]
theorem tchk_zero {t : Ti} (h : t.chk = 0) : t.ok := by
  unfold Ti.chk at h
  split at h
  · assumption
  · omega
set_option maxRecDepth 100000
theorem eqTT (a b : Ti) (w : World) : (Op.equalIn 10000 23 (.agg a.vals) (.agg b.vals)).run Try.prog w = .ok (decide (a = b)) w := by
  unfold Ti.vals
  have hS : Try.prog.underlying 23 = some (.struct (Try.prog.fieldsOf 23)) := by kernel_rfl
  have hp : Try.prog.stoodInHeld 23 = false := by kernel_rfl
  rw [show (10000 : Nat) = 9999 + 1 from rfl, run_equalIn_agg w 9999 23 _ _ hS hp]
  simp only [Program.fieldsOf, Try.underlying23]
  go_simp
  simp only [ti_iff]
  by_cases h1 : a.delta = b.delta <;> by_cases h2 : a.table = b.table <;> by_cases h3 : a.frame = b.frame <;> by_cases h4 : a.at_ = b.at_ <;> simp [h1, h2, h3, h4]
theorem within12 (x : Int) (w : World) : Calls Try.prog 45 #[.int .i64 x, .int .i64 12] w fun e w' => e = .returned (.bool (inR 4095 x)) ∧ w = w' := by
  unfold inR
  by_cases h : 0 ≤ x
  · have t0 : decide (0 ≤ x) = true := by simpa using h
    have HE := Lib.hid (show (decide (0 ≤ x) && decide (x ≤ 4095)) = decide (x < 4095 + 1) by rw [t0, Bool.true_and, decide_eq_decide]; omega)
    rw [HE.out]
    clear h
    go_enter Try.func45, Try.ntmps45
    go_wp2_with fail
    go_ret
    exact ⟨rfl, rfl⟩
  · have t0 : decide (0 ≤ x) = false := by simpa using h
    have HE := Lib.hid (show (decide (0 ≤ x) && decide (x ≤ 4095)) = false by rw [t0, Bool.false_and])
    rw [HE.out]
    clear h
    go_enter Try.func45, Try.ntmps45
    go_wp2_with fail
    go_ret
    exact ⟨rfl, rfl⟩
theorem within18 (x : Int) (w : World) : Calls Try.prog 45 #[.int .i64 x, .int .i64 18] w fun e w' => e = .returned (.bool (inR 262143 x)) ∧ w = w' := by
  unfold inR
  by_cases h : 0 ≤ x
  · have t0 : decide (0 ≤ x) = true := by simpa using h
    have HE := Lib.hid (show (decide (0 ≤ x) && decide (x ≤ 262143)) = decide (x < 262143 + 1) by rw [t0, Bool.true_and, decide_eq_decide]; omega)
    rw [HE.out]
    clear h
    go_enter Try.func45, Try.ntmps45
    go_wp2_with fail
    go_ret
    exact ⟨rfl, rfl⟩
  · have t0 : decide (0 ≤ x) = false := by simpa using h
    have HE := Lib.hid (show (decide (0 ≤ x) && decide (x ≤ 262143)) = false by rw [t0, Bool.false_and])
    rw [HE.out]
    clear h
    go_enter Try.func45, Try.ntmps45
    go_wp2_with fail
    go_ret
    exact ⟨rfl, rfl⟩
theorem tflag_any (b : Bool) (w : World) : Calls Try.prog 37 #[.bool b] w fun e w' => e = .returned (.int .u64 (nb b : Int)) ∧ w = w' := by
  cases b
  all_goals
    go_enter Try.func37, Try.ntmps37
    go_wp2_with fail
    go_ret
    exact ⟨rfl, rfl⟩
theorem tcheck_any (t : Ti) (w : World) : Calls Try.prog 27 #[.agg t.vals] w fun e w' => e = .returned (.int .i64 t.chk) ∧ Below w.heap.size w w' := by
  have h1 := @tchk_no t
  have h2 := @tchk_ok t
  unfold Ti.ok at h1 h2
  obtain ⟨d, ta, fr, a⟩ := t
  dsimp only at h1 h2
  have HB := Lib.hid (show Below w.heap.size w (w.alloc (.cells #[.int .i64 d, .bool ta, .bool fr, .int .i64 a] 23)) from (Below.refl _ _).alloc (Nat.le_refl _) _)
  obtain ⟨c, hc⟩ : ∃ c, Ti.chk ⟨d, ta, fr, a⟩ = c := ⟨_, rfl⟩
  rw [hc] at h1 h2 ⊢
  clear hc
  unfold Ti.vals
  have k1 := fun V => within12 d V
  have k2 := fun V => within18 a V
  cases b1 : inR 4095 d with
  | false =>
    have HE := Lib.hid (h1 (fun h => inR_false b1 h.1))
    rw [b1] at k1
    clear h1 h2 b1
    go_enter Try.func27, Try.ntmps27
    go_wp2_with fail
    (with_reducible refine (k1 _).mono ?_); rintro e1 W1 ⟨rfl, rfl⟩
    go_wp2_with fail
    go_ret
    exact ⟨by rw [HE.out]; rfl, HB.out⟩
  | true =>
    rw [b1] at k1
    cases b2 : inR 262143 a with
    | false =>
      have HE := Lib.hid (h1 (fun h => inR_false b2 h.2))
      rw [b2] at k2
      clear h1 h2 b1 b2
      go_enter Try.func27, Try.ntmps27
      go_wp2_with fail
      (with_reducible refine (k1 _).mono ?_); rintro e1 W1 ⟨rfl, rfl⟩
      go_wp2_with fail
      (with_reducible refine (k2 _).mono ?_); rintro e1 W1 ⟨rfl, rfl⟩
      go_wp2_with fail
      go_ret
      exact ⟨by rw [HE.out]; rfl, HB.out⟩
    | true =>
      have HE := Lib.hid (h2 ⟨inR_true b1, inR_true b2⟩)
      rw [b2] at k2
      clear h1 h2 b1 b2
      go_enter Try.func27, Try.ntmps27
      go_wp2_with fail
      (with_reducible refine (k1 _).mono ?_); rintro e1 W1 ⟨rfl, rfl⟩
      go_wp2_with fail
      (with_reducible refine (k2 _).mono ?_); rintro e1 W1 ⟨rfl, rfl⟩
      go_wp2_with fail
      go_ret
      exact ⟨by rw [HE.out]; rfl, HB.out⟩
theorem tm_bits (d a : Nat) (x y : Bool) (ha : a ≤ 262143) : pk (((bitsOf d 12 ++ bitsOf (nb x) 1) ++ bitsOf (nb y) 1) ++ bitsOf a 18) = [UInt8.ofNat (d / 16), UInt8.ofNat (d % 16 * 16 + nb x * 8 + nb y * 4 + a / 65536), UInt8.ofNat (a / 256 % 256), UInt8.ofNat (a % 256)] := by
  have hx := nb_le x
  have hy := nb_le y
  generalize nb x = p at *
  generalize nb y = q at *
  have e1 : bitsOf d 12 = bitsOf (d / 16) 8 ++ bitsOf (d % 16) 4 := by
    have h := bitsOf_join (d / 16) (d % 16) 8 4 (by omega)
    rw [show d / 16 * 2 ^ 4 + d % 16 = d by omega] at h
    exact h.symm
  have e2 : bitsOf a 18 = bitsOf (a / 65536) 2 ++ (bitsOf (a / 256 % 256) 8 ++ bitsOf (a % 256) 8) := by
    have h := bitsOf_join (a / 65536) (a % 65536) 2 16 (by omega)
    rw [show a / 65536 * 2 ^ 16 + a % 65536 = a by omega] at h
    rw [← show bitsOf a 18 = bitsOf a (2 + 16) from rfl] at h
    rw [← h, bitsOf_two, show a % 65536 / 256 = a / 256 % 256 by omega, show a % 65536 % 256 = a % 256 by omega]
  have e3 : bitsOf (d % 16) 4 ++ (bitsOf p 1 ++ (bitsOf q 1 ++ bitsOf (a / 65536) 2)) = bitsOf (d % 16 * 16 + p * 8 + q * 4 + a / 65536) 8 := by
    rw [bitsOf_join q (a / 65536) 1 2 (by omega), bitsOf_join p _ 1 (1 + 2) (by omega), bitsOf_join (d % 16) _ 4 (1 + (1 + 2)) (by omega)]
    congr 1
    omega
  rw [e1, e2]
  have e4 : ((bitsOf (d / 16) 8 ++ bitsOf (d % 16) 4 ++ bitsOf p 1) ++ bitsOf q 1) ++ (bitsOf (a / 65536) 2 ++ (bitsOf (a / 256 % 256) 8 ++ bitsOf (a % 256) 8)) =
      bitsOf (d / 16) 8 ++ (bitsOf (d % 16 * 16 + p * 8 + q * 4 + a / 65536) 8 ++ (bitsOf (a / 256 % 256) 8 ++ (bitsOf (a % 256) 8 ++ []))) := by
    rw [← e3]; simp [List.append_assoc]
  rw [e4, pk_cons, pk_cons, pk_cons, pk_cons, pk_nil]
theorem enc_zero (w : World) : Calls Try.prog 23 #[.agg zeroT.vals] w fun e w' => e = .returned (.tuple #[.string (encT zeroT), .int .i64 0]) ∧ Below w.heap.size w w' := by
  have he := fun V => eqTT zeroT zeroT V
  rw [decide_eq_true rfl] at he
  have hX := Lib.hid (show encT zeroT = str [0, 0, 0, 0] from rfl)
  rw [hX.out]
  unfold Ti.vals zeroT at he ⊢
  dsimp only at he ⊢
  have HB := Lib.hid (bk1 w 23 #[.int .i64 0, .bool false, .bool false, .int .i64 0])
  have hm := mk_bytes 4 (by omega) (w.alloc (.cells #[.int .i64 0, .bool false, .bool false, .int .i64 0] 23))
  rw [show ((4 : Nat) : Int) = 4 from rfl] at hm
  have HB2 := Lib.hid (HB.out.newAt (w.heap.size + 1) 5 (rowB [] 4) (by simp))
  have hc := conv_row (l := [0, 0, 0, 0]) (show Blk _ _ 5 (rowB [0, 0, 0, 0] 0) from HB2.out.nth 0 rfl) (n := 4) rfl 4
  go_enter Try.func23, Try.ntmps23
  go_wp2_with fail
  go_ret2
  exact ⟨rfl, HB2.out.be⟩
theorem enc_no (t : Ti) (w : World) (h : ¬ t.ok) : Calls Try.prog 23 #[.agg t.vals] w fun e w' => e = .returned (.tuple #[.string nob, .int .i64 15]) ∧ Below w.heap.size w w' := by
  have hz : t ≠ zeroT := fun e => h (by rw [e]; unfold Ti.ok zeroT; simp)
  have he := fun V => eqTT t zeroT V
  rw [decide_eq_false hz] at he
  have k1 := tcheck_any t
  rw [tchk_no h] at k1
  obtain ⟨d, ta, fr, a⟩ := t
  unfold Ti.vals zeroT at *
  dsimp only at *
  have HB := Lib.hid (bk1 w 23 #[.int .i64 d, .bool ta, .bool fr, .int .i64 a])
  clear h hz
  go_enter Try.func23, Try.ntmps23
  go_wp2_with fail
  (with_reducible refine (k1 _).mono ?_); rintro e1 W1 ⟨rfl, hb1⟩
  have hE := (HB.out.below hb1).be
  go_wp2_with fail
  go_ret2
  exact ⟨rfl, hE⟩
set_option maxHeartbeats 1600000 in
theorem enc_yes (t : Ti) (w : World) (h : t.ok) (hz : t ≠ zeroT) : Calls Try.prog 23 #[.agg t.vals] w fun e w' => e = .returned (.tuple #[.string (str (tmL t)), .int .i64 0]) ∧ Below w.heap.size w w' := by
  have he := fun V => eqTT t zeroT V
  rw [decide_eq_false hz] at he
  have k1 := tcheck_any t
  rw [tchk_ok h] at k1
  unfold Ti.ok at h
  have hL : tmL t = [UInt8.ofNat (t.delta.toNat / 16), UInt8.ofNat (t.delta.toNat % 16 * 16 + nb t.table * 8 + nb t.frame * 4 + t.at_.toNat / 65536), UInt8.ofNat (t.at_.toNat / 256 % 256), UInt8.ofNat (t.at_.toNat % 256)] := rfl
  obtain ⟨Z, hZ⟩ : ∃ Z, tmL t = Z := ⟨_, rfl⟩
  rw [hZ] at hL ⊢
  clear hZ hz
  obtain ⟨d, ta, fr, a⟩ := t
  unfold Ti.vals zeroT at *
  dsimp only at *
  obtain ⟨d, rfl⟩ : ∃ x : Nat, d = x := ⟨d.toNat, by omega⟩
  obtain ⟨a, rfl⟩ : ∃ x : Nat, a = x := ⟨a.toNat, by omega⟩
  simp only [Int.toNat_natCast] at hL
  have hd : d ≤ 4095 := by omega
  have ha : a ≤ 262143 := by omega
  have HT := Lib.hid (show pk (((bitsOf d 12 ++ bitsOf (nb ta) 1) ++ bitsOf (nb fr) 1) ++ bitsOf a 18) = Z by rw [tm_bits d a ta fr ha, hL])
  have q1 : IntKind.u64.wrap (d : Int) = (d : Int) := by simp [IntKind.wrap, IntKind.bits, IntKind.signed]; omega
  have q2 : IntKind.u64.wrap (a : Int) = (a : Int) := by simp [IntKind.wrap, IntKind.bits, IntKind.signed]; omega
  have kp := fun V => tflag_any ta V
  have kq := fun V => tflag_any fr V
  have l1 := nb_le ta
  have l2 := nb_le fr
  obtain ⟨P, hP⟩ : ∃ P, nb ta = P := ⟨_, rfl⟩
  obtain ⟨R, hR⟩ : ∃ R, nb fr = R := ⟨_, rfl⟩
  rw [hP] at kp HT l1
  rw [hR] at kq HT l2
  have HB := Lib.hid (bk1 w 23 #[.int .i64 (d : Int), .bool ta, .bool fr, .int .i64 (a : Int)])
  clear h hL hP hR
  go_enter Try.func23, Try.ntmps23
  go_wp2_with fail
  (with_reducible refine (k1 _).mono ?_); rintro e1 W1 ⟨rfl, hb1⟩
  have HB1 := Lib.hid (HB.out.below hb1)
  have HB2 := Lib.hid (HB1.out.new 73 #[.slice none 0 0, .int .i64 0])
  have hwg := HB1.out.lt 0 rfl
  obtain ⟨g, hg⟩ : ∃ g, W1.heap.size = g := ⟨_, rfl⟩
  rw [hg] at HB2 hwg
  obtain ⟨W0, hW0⟩ : ∃ W0, W1.alloc (.cells #[.slice none 0 0, .int .i64 0] 73) = W0 := ⟨_, rfl⟩
  rw [hW0] at HB2
  have hg1 : g + 1 ≤ W0.heap.size := HB2.out.lt 0 rfl
  have hwg : w.heap.size < g := hwg
  have HO0 := Lib.hid (show OutV W0 g (g + 1) (.slice none 0 0) [] from ⟨HB2.out.nth 0 rfl, by rw [show pk [] = [] from rfl]; exact World.ownsRow_nil _ _ _ _, by omega, hg1⟩)
  have hbx := HB2.out.nth 1 rfl
  have c0 := Blk.cell (hbx) 0 (v := .int .i64 (d : Int)) rfl
  have c1 := Blk.cell (hbx) 1 (v := .bool ta) rfl
  have c2 := Blk.cell (hbx) 2 (v := .bool fr) rfl
  have c3 := Blk.cell (hbx) 3 (v := .int .i64 (a : Int)) rfl
  have p1 := put_any g (g + 1) _ [] d 12 W0 HO0.out (by simp) (by omega) (by omega)
  rw [show ((12 : Nat) : Int) = 12 from rfl] at p1
  clear k1 hb1 HB
  go_wp2_with fail
  (with_reducible refine (p1).mono ?_); rintro e1 W2 ⟨rfl, v2, hO2, hG2⟩
  have HG2 := Lib.hid hG2
  have HO2 := Lib.hid hO2
  have hx : Blk W2 w.heap.size 23 _ := (hG2.block _ (by omega) (by omega) (by simp [Value.ownBlock])).trans hbx
  clear c0 c1 c2 c3 p1 hO2 hG2
  have c1 := Blk.cell hx 1 (v := .bool ta) rfl
  have p2 := put_any g (g + 1) v2 _ P 1 W2 HO2.out (by simp [bitsOf_len]) (by omega) (by omega)
  rw [show ((1 : Nat) : Int) = 1 from rfl] at p2
  go_wp2_with fail
  (with_reducible refine (kp _).mono ?_); rintro e1 W3 ⟨rfl, rfl⟩
  go_wp2_with fail
  (with_reducible refine (p2).mono ?_); rintro e1 W3 ⟨rfl, v3, hO3, hG3⟩
  have HG3 := Lib.hid (HG2.out.trans hG3)
  have HO3 := Lib.hid hO3
  have hx : Blk W3 w.heap.size 23 _ := (HG3.out.block _ (by omega) (by omega) (by simp [Value.ownBlock])).trans hbx
  clear c1 p2 hO3 hG3 kp
  have c1 := Blk.cell hx 2 (v := .bool fr) rfl
  have p3 := put_any g (g + 1) v3 _ R 1 W3 HO3.out (by simp [bitsOf_len]) (by omega) (by omega)
  rw [show ((1 : Nat) : Int) = 1 from rfl] at p3
  go_wp2_with fail
  (with_reducible refine (kq _).mono ?_); rintro e1 W4 ⟨rfl, rfl⟩
  go_wp2_with fail
  (with_reducible refine (p3).mono ?_); rintro e1 W4 ⟨rfl, v4, hO4, hG4⟩
  have HG4 := Lib.hid (HG3.out.trans hG4)
  have HO4 := Lib.hid hO4
  have hx : Blk W4 w.heap.size 23 _ := (HG4.out.block _ (by omega) (by omega) (by simp [Value.ownBlock])).trans hbx
  clear c1 p3 hO4 hG4 kq
  have c1 := Blk.cell hx 3 (v := .int .i64 (a : Int)) rfl
  have p4 := put_any g (g + 1) v4 _ a 18 W4 HO4.out (by simp [bitsOf_len]) (by omega) (by omega)
  rw [show ((18 : Nat) : Int) = 18 from rfl] at p4
  go_wp2_with fail
  (with_reducible refine (p4).mono ?_); rintro e1 W5 ⟨rfl, v5, hO5, hG5⟩
  have HG5 := Lib.hid (HG4.out.trans hG5)
  have ks := ostring_any g (g + 1) v5 _ W5 hO5
  rw [List.nil_append, HT.out] at ks
  have hE : Below w.heap.size w W5 := HB2.out.be.trans (HG5.out.below (by omega) (fun r e => by simp [Value.ownBlock] at e) HB2.out.size)
  clear c1 p4 hO5 hG5 hx
  go_wp2_with fail
  (with_reducible refine (ks).mono ?_); rintro e1 W6 ⟨rfl, rfl⟩
  go_wp2_with fail
  go_ret2
  exact ⟨rfl, hE⟩
theorem enct_any (t : Ti) (w : World) : Calls Try.prog 23 #[.agg t.vals] w fun e w' => e = .returned (.tuple #[.string (encT t), .int .i64 t.chk]) ∧ Below w.heap.size w w' := by
  unfold encT
  by_cases h : t.ok
  · rw [if_pos (tchk_ok h), tchk_ok h]
    by_cases hz : t = zeroT
    · subst hz
      have := enc_zero w
      unfold encT at this
      rw [if_pos (tchk_ok h)] at this
      exact this
    · exact enc_yes t w h hz
  · rw [if_neg (by rw [tchk_no h]; decide), tchk_no h]
    exact enc_no t w h
end Go.Proofs.Ytfadhgbhdoddpaa.TmA
