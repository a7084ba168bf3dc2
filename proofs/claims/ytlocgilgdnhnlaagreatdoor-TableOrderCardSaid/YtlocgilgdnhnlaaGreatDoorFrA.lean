/- frame: Check, and the frame in memory: New, spot, Padding. -/
import Derived.Test.YtlocgilgdnhnlaaGreatDoorTbO
import Derived.Test.YtlocgilgdnhnlaaGreatDoorRsA
namespace Go.Proofs.YtlocgilgdnhnlaaGreatDoor.FrA
open Go Go.RowKit Go.Proofs.YtlocgilgdnhnlaaGreatDoor.Q Go.Proofs.YtlocgilgdnhnlaaGreatDoor.Mem Go.Proofs.YtlocgilgdnhnlaaGreatDoor.Rg Go.Proofs.YtlocgilgdnhnlaaGreatDoor.Ap Go.Proofs.YtlocgilgdnhnlaaGreatDoor.ApG Go.Proofs.YtlocgilgdnhnlaaGreatDoor.St Go.Proofs.YtlocgilgdnhnlaaGreatDoor.BiW Go.Proofs.YtlocgilgdnhnlaaGreatDoor.Tab Go.Proofs.YtlocgilgdnhnlaaGreatDoor.TlS Go.Proofs.YtlocgilgdnhnlaaGreatDoor.Fl Go.Proofs.YtlocgilgdnhnlaaGreatDoor.TbM Go.Proofs.YtlocgilgdnhnlaaGreatDoor.TbN

set_option maxRecDepth 100000
/-- may a configuration be? -/
def okC (R C K : Int) : Bool := isSz R && decide (1 ≤ C) && decide (C ≤ 191) && decide (0 ≤ K) && decide (K ≤ 64)
set_option maxHeartbeats 1600000 in
theorem check_any (R C K : Int) (w : World) (hT : Tab 1 w) : Calls Tryz.prog 19 #[.agg #[.int .i64 R, .int .i64 C, .int .i64 K]] w fun e w' => e = .returned (.int .i64 (if okC R C K then 0 else 23)) ∧ Below w.heap.size w w' := by
  have hbe := (Below.refl _ w).alloc (Nat.le_refl _) (.cells #[.int .i64 R, .int .i64 C, .int .i64 K] 23)
  have hB := Blk.new w 23 #[.int .i64 R, .int .i64 C, .int .i64 K]
  have c0 := fun p => Blk.cell (blk_ext hB p) 0 (v := .int .i64 R) rfl
  have c1 := fun p => Blk.cell (blk_ext hB p) 1 (v := .int .i64 C) rfl
  have c2 := fun p => Blk.cell (blk_ext hB p) 2 (v := .int .i64 K) rfl
  have kc := fun p => contains_any 1 R (ext (w.alloc (.cells #[.int .i64 R, .int .i64 C, .int .i64 K] 23)) p) ((hT.be hbe).ext p)
  have HR : Hid ((if okC R C K then (0 : Int) else 23) = if (isSz R && decide (1 ≤ C) && decide (C ≤ 191) && decide (0 ≤ K) && decide (K ≤ 64)) = true then 0 else 23) := Lib.hid rfl
  obtain ⟨Z, hZ⟩ : ∃ Z, isSz R = Z := ⟨_, rfl⟩
  rw [hZ] at kc HR
  clear hZ hT hB
  obtain ⟨X, hX⟩ : ∃ X : Int, (if okC R C K then (0 : Int) else 23) = X := ⟨_, rfl⟩
  rw [hX] at HR ⊢
  clear hX
  cases Z with
  | false =>
    replace HR : Hid (X = 23) := Lib.hid (by rw [HR.out]; rfl)
    go_enter Tryz.func19, Tryz.ntmps19
    go_wp2_with fail
    refine Go.Proofs.YtlocgilgdnhnlaaGreatDoor.Q.region_ext (by kernel_rfl) (by kernel_rfl) ?_
    repeat (go_big_quiet_step ((go_at_call 29; refine ext_call_same (kc _))))
    refine wpQuiet_nil ?_
    rintro w9 ⟨pq, rfl⟩
    have hbz := hbe.trans ((below_ext _ pq).mono hbe.size)
    clear c0 c1 c2 kc
    go_wp2_with fail
    go_ret
    rw [HR.out]
    exact ⟨rfl, hbz⟩
  | true =>
    by_cases h1 : C < 1
    · have t1 : decide (C < 1) = true := decide_eq_true h1
      replace HR : Hid (X = 23) := Lib.hid (by rw [HR.out, decide_eq_false (show ¬ 1 ≤ C by omega)]; rfl)
      go_enter Tryz.func19, Tryz.ntmps19
      go_wp2_with fail
      refine Go.Proofs.YtlocgilgdnhnlaaGreatDoor.Q.region_ext (by kernel_rfl) (by kernel_rfl) ?_
      repeat (go_big_quiet_step ((go_at_call 29; refine ext_call_same (kc _))))
      refine wpQuiet_nil ?_
      rintro w9 ⟨pq, rfl⟩
      have hbz := hbe.trans ((below_ext _ pq).mono hbe.size)
      clear c0 c1 c2 kc
      go_wp2_with fail
      go_ret
      rw [HR.out]
      exact ⟨rfl, hbz⟩
    · have t1 : decide (C < 1) = false := decide_eq_false h1
      by_cases h2 : 191 < C
      · have t2 : decide (191 < C) = true := decide_eq_true h2
        replace HR : Hid (X = 23) := Lib.hid (by rw [HR.out, decide_eq_false (show ¬ C ≤ 191 by omega), Bool.and_false]; rfl)
        go_enter Tryz.func19, Tryz.ntmps19
        go_wp2_with fail
        refine Go.Proofs.YtlocgilgdnhnlaaGreatDoor.Q.region_ext (by kernel_rfl) (by kernel_rfl) ?_
        repeat (go_big_quiet_step ((go_at_call 29; refine ext_call_same (kc _))))
        refine wpQuiet_nil ?_
        rintro w9 ⟨pq, rfl⟩
        have hbz := hbe.trans ((below_ext _ pq).mono hbe.size)
        clear c0 c1 c2 kc
        go_wp2_with fail
        go_ret
        rw [HR.out]
        exact ⟨rfl, hbz⟩
      · have t2 : decide (191 < C) = false := decide_eq_false h2
        by_cases h3 : K < 0
        · have t3 : decide (K < 0) = true := decide_eq_true h3
          replace HR : Hid (X = 23) := Lib.hid (by rw [HR.out, decide_eq_false (show ¬ 0 ≤ K by omega), Bool.and_false]; rfl)
          go_enter Tryz.func19, Tryz.ntmps19
          go_wp2_with fail
          refine Go.Proofs.YtlocgilgdnhnlaaGreatDoor.Q.region_ext (by kernel_rfl) (by kernel_rfl) ?_
          repeat (go_big_quiet_step ((go_at_call 29; refine ext_call_same (kc _))))
          refine wpQuiet_nil ?_
          rintro w9 ⟨pq, rfl⟩
          have hbz := hbe.trans ((below_ext _ pq).mono hbe.size)
          clear c0 c1 c2 kc
          go_wp2_with fail
          go_ret
          rw [HR.out]
          exact ⟨rfl, hbz⟩
        · have t3 : decide (K < 0) = false := decide_eq_false h3
          by_cases h4 : 64 < K
          · have t4 : decide (64 < K) = true := decide_eq_true h4
            replace HR : Hid (X = 23) := Lib.hid (by rw [HR.out, decide_eq_false (show ¬ K ≤ 64 by omega), Bool.and_false]; rfl)
            go_enter Tryz.func19, Tryz.ntmps19
            go_wp2_with fail
            refine Go.Proofs.YtlocgilgdnhnlaaGreatDoor.Q.region_ext (by kernel_rfl) (by kernel_rfl) ?_
            repeat (go_big_quiet_step ((go_at_call 29; refine ext_call_same (kc _))))
            refine wpQuiet_nil ?_
            rintro w9 ⟨pq, rfl⟩
            have hbz := hbe.trans ((below_ext _ pq).mono hbe.size)
            clear c0 c1 c2 kc
            go_wp2_with fail
            go_ret
            rw [HR.out]
            exact ⟨rfl, hbz⟩
          · have t4 : decide (64 < K) = false := decide_eq_false h4
            replace HR : Hid (X = 0) := Lib.hid (by rw [HR.out, decide_eq_true (show 1 ≤ C by omega), decide_eq_true (show C ≤ 191 by omega), decide_eq_true (show 0 ≤ K by omega), decide_eq_true (show K ≤ 64 by omega)]; rfl)
            go_enter Tryz.func19, Tryz.ntmps19
            go_wp2_with fail
            refine Go.Proofs.YtlocgilgdnhnlaaGreatDoor.Q.region_ext (by kernel_rfl) (by kernel_rfl) ?_
            repeat (go_big_quiet_step ((go_at_call 29; refine ext_call_same (kc _))))
            refine wpQuiet_nil ?_
            rintro w9 ⟨pq, rfl⟩
            have hbz := hbe.trans ((below_ext _ pq).mono hbe.size)
            clear c0 c1 c2 kc
            go_wp2_with fail
            go_ret
            rw [HR.out]
            exact ⟨rfl, hbz⟩
/-- a frame: rows, columns that may be filled, columns that are cut; the datagrams, where they are; how many bytes; the rows' bytes; is the parity stale? -/
structure Fr where
  R : Nat
  C : Nat
  K : Nat
  L : List (Nat × ByteArray)
  used : Nat
  D : Nat → Nat → UInt8
  old : Bool
def frF (S : Fr) (k : Nat) : Value := u8v (S.D (k / 255) (k % 255))
theorem frF_at (S : Fr) (r c : Nat) (hc : c < 255) : frF S (r * 255 + c) = u8v (S.D r c) := by
  unfold frF
  rw [show (r * 255 + c) % 255 = c by omega, show (r * 255 + c) / 255 = r by omega]
def enPd (x : Nat × ByteArray) : List Value := [.int .i64 (x.1 : Int), .string x.2]
theorem enPd_len (x : Nat × ByteArray) : (enPd x).length = 2 := rfl
structure FrIn (w : World) (B gf gr : Nat) (v : Value) (S : Fr) : Prop where
  box : Blk w gf 70 #[.int .i64 (S.R : Int), .int .i64 (S.C : Int), .int .i64 (S.K : Int), v, .int .i64 (S.used : Int), .slice (some ⟨gr, 0, none⟩) S.R S.R, .bool S.old]
  rows : Fm w gr 90 (S.R * 255) (frF S)
  l : w.ownsRow B 43 2 v S.L.length (flat enPd S.L)
  ne : gf ≠ gr
  nt : v.ownBlock ≠ some gf
  nr : v.ownBlock ≠ some gr
  bt : B ≤ gf
  br : B ≤ gr
def footF (gf gr : Nat) (v : Value) (i : Nat) : Prop := i = gf ∨ i = gr ∨ v.ownBlock = some i
section
variable {w w' : World} {B gf gr : Nat} {v : Value} {S : Fr}
theorem FrIn.ge (h : FrIn w B gf gr v S) : ∀ i, footF gf gr v i → B ≤ i ∧ i < w.heap.size := by
  rintro i (rfl | rfl | e)
  · exact ⟨h.bt, h.box.lt⟩
  · exact ⟨h.br, h.rows.lt⟩
  · exact h.l.lt i e
theorem own_kept {e : TypeId} {sz n : Nat} {xs : List Value} {F : Nat → Prop} (h : w.ownsRow B e sz v n xs) (k : Kept F w w') (hF : ∀ i, v.ownBlock = some i → ¬ F i) : w'.ownsRow B e sz v n xs := by
  refine ⟨h.1, ?_⟩
  rcases h.2 with h1 | ⟨g, cap, cur, e, hb, hg, h2⟩
  · exact Or.inl h1
  · refine Or.inr ⟨g, cap, cur, e, hb, ?_, h2⟩
    rw [k.block g (Array.getElem?_eq_some_iff.1 hg).1 (hF g (by rw [e]; rfl))]
    exact hg
theorem FrIn.kept {F : Nat → Prop} (h : FrIn w B gf gr v S) (k : Kept F w w') (hF : ∀ i, footF gf gr v i → ¬ F i) : FrIn w' B gf gr v S :=
  ⟨(k.block gf h.box.lt (hF _ (Or.inl rfl))).trans h.box, h.rows.same (k.block gr h.rows.lt (hF _ (Or.inr (Or.inl rfl)))), own_kept h.l k (fun i hi => hF i (Or.inr (Or.inr hi))), h.ne, h.nt, h.nr, h.bt, h.br⟩
theorem FrIn.below (h : FrIn w B gf gr v S) (k : Below w.heap.size w w') : FrIn w' B gf gr v S := h.kept (kept_below (fun _ => False) k) (fun _ _ h => h)
theorem FrIn.ext (h : FrIn w B gf gr v S) (p : Ext) : FrIn (ext w p) B gf gr v S := h.below (below_ext w p)
end
def emptyF (R C K : Nat) : Fr := ⟨R, C, K, [], 0, fun _ _ => 0, false⟩
theorem row_info : (Tryz.prog.info? 90).map (fun i => (i.zero, i.size, i.bytes)) = some (some (.agg (Array.replicate 255 (.int .u8 0))), 255, 255) := by kernel_rfl
theorem mk_rows (R C K : Nat) (hR : R ≤ 1024) (V : World) : ∃ A : Array Value, (Instr.makeSlice 68 (.int .i64 (R : Int)) (.int .i64 (R : Int))).run Tryz.prog V = .ok (.slice (some ⟨V.heap.size, 0, none⟩) R R) (V.alloc (.cells A 90)) ∧ Fm (V.alloc (.cells A 90)) V.heap.size 90 (R * 255) (frF (emptyF R C K)) := by
  cases hi : Tryz.prog.info? 90 with
  | none => have h := row_info; rw [hi] at h; cases h
  | some i =>
    have h := row_info
    rw [hi] at h
    simp only [Option.map_some, Option.some.injEq, Prod.mk.injEq] at h
    obtain ⟨h1, h2, h3⟩ := h
    have hr := run_make (P := Tryz.prog) V 68 90 i (.agg (Array.replicate 255 (.int .u8 0))) Tryz.underlying68 hi h1 .i64 .i64 R R (by omega) (Int.le_refl _) (by rw [h3]; omega) (by omega)
    rw [Int.toNat_natCast, h2] at hr
    have hz : (Value.agg (Array.replicate 255 (.int .u8 0))).cells = Array.replicate 255 (Value.int .u8 0) := rfl
    rw [hz] at hr
    obtain ⟨Z, hZ⟩ : ∃ Z, Array.replicate 255 (Value.int .u8 0) = Z := ⟨_, rfl⟩
    have hzs : Z.size = 255 := by rw [← hZ]; simp
    have hza : ∀ k, k < 255 → Z[k]! = .int .u8 0 := fun k hk => by
      rw [← hZ, getElem!_pos _ _ (by simp; omega), Array.getElem_replicate]
    rw [hZ] at hr
    clear hZ hz h1 hi
    refine ⟨madeCells Z (R * 255), hr, madeCells Z (R * 255), heap_alloc_new V _, size_madeCells _ _, fun k hk => ?_⟩
    unfold madeCells
    rw [Array.getElem?_map, Array.getElem?_range]
    simp only [hk, if_true, Option.map_some]
    congr 1
    have hm : k % 255 < 255 := Nat.mod_lt _ (by decide)
    rw [hzs, hza _ hm]
    rfl
structure FrNew (R C K : Int) (w : World) (e : Ending) (w' : World) : Prop where
  ok : ∃ (r c k gf gr : Nat), R = (r : Int) ∧ C = (c : Int) ∧ K = (k : Int) ∧ r ≤ 1024 ∧ 0 < r ∧ c ≤ 191 ∧ k ≤ 64 ∧ e = .returned (.tuple #[.pointer (some ⟨gf, 0, none⟩), .int .i64 0]) ∧ FrIn w' w.heap.size gf gr (.slice none 0 0) (emptyF r c k)
set_option maxHeartbeats 1600000 in
theorem new_any (R C K : Int) (w : World) (hT : Tab 1 w) : Calls Tryz.prog 21 #[.agg #[.int .i64 R, .int .i64 C, .int .i64 K]] w fun e w' => Below w.heap.size w w' ∧
    if okC R C K then FrNew R C K w e w' else e = .returned (.tuple #[.pointer none, .int .i64 23]) := by
  have hbe := (Below.refl _ w).alloc (Nat.le_refl _) (.cells #[.int .i64 R, .int .i64 C, .int .i64 K] 23)
  have hB := Blk.new w 23 #[.int .i64 R, .int .i64 C, .int .i64 K]
  have kc := check_any R C K (w.alloc (.cells #[.int .i64 R, .int .i64 C, .int .i64 K] 23)) (hT.be hbe)
  have HZ : Hid (okC R C K = (isSz R && decide (1 ≤ C) && decide (C ≤ 191) && decide (0 ≤ K) && decide (K ≤ 64))) := Lib.hid rfl
  obtain ⟨Z, hZ⟩ : ∃ Z, okC R C K = Z := ⟨_, rfl⟩
  rw [hZ] at kc HZ ⊢
  have c0 := Blk.cell hB 0 (v := .int .i64 R) rfl
  have c1 := Blk.cell hB 1 (v := .int .i64 C) rfl
  have c2 := Blk.cell hB 2 (v := .int .i64 K) rfl
  clear hZ hT
  cases Z with
  | false =>
    rw [if_neg (by decide)] at kc
    go_enter Tryz.func21, Tryz.ntmps21
    go_wp2_with fail
    (with_reducible refine (kc).mono ?_); rintro e1 W1 ⟨rfl, hb1⟩
    have hbz := hbe.trans (hb1.mono hbe.size)
    clear kc c0 c1 c2
    go_wp2_with fail
    go_ret2
    exact ⟨hbz, rfl⟩
  | true =>
    rw [if_pos rfl] at kc
    have hz := HZ.out.symm
    simp only [Bool.and_eq_true, decide_eq_true_eq] at hz
    obtain ⟨⟨⟨⟨z1, z2⟩, z3⟩, z4⟩, z5⟩ := hz
    have zr := isSz_true z1
    obtain ⟨r, rfl⟩ : ∃ r : Nat, R = (r : Int) := ⟨R.toNat, by omega⟩
    obtain ⟨c, rfl⟩ : ∃ c : Nat, C = (c : Int) := ⟨C.toNat, by omega⟩
    obtain ⟨k, rfl⟩ : ∃ k : Nat, K = (k : Int) := ⟨K.toNat, by omega⟩
    have HN := Lib.hid (show r ≤ 1024 ∧ 0 < r ∧ c ≤ 191 ∧ k ≤ 64 from ⟨by omega, by omega, by omega, by omega⟩)
    clear z1 z2 z3 z4 z5 zr HZ
    go_enter Tryz.func21, Tryz.ntmps21
    go_wp2_with fail
    (with_reducible refine (kc).mono ?_); rintro e1 W1 ⟨rfl, hb1⟩
    have hbz := hbe.trans (hb1.mono hbe.size)
    have hB1 := Blk.below hB hb1 hB.lt
    clear kc c0 c1 c2 hB hb1
    obtain ⟨A, hmk, hF⟩ := mk_rows r c k HN.out.1 W1.drew
    have hB2 := Blk.drew hB1
    have d0 := Blk.cell (hB2) 0 (v := .int .i64 (r : Int)) rfl
    have d1 := Blk.cell (hB2) 1 (v := .int .i64 (c : Int)) rfl
    have d2 := Blk.cell (hB2) 2 (v := .int .i64 (k : Int)) rfl
    have hB3 := Blk.drew (Blk.alloc hB1 (.cells A 90))
    have e0 := Blk.cell (hB3) 0 (v := .int .i64 (r : Int)) rfl
    have e1 := Blk.cell (hB3) 1 (v := .int .i64 (c : Int)) rfl
    have e2 := Blk.cell (hB3) 2 (v := .int .i64 (k : Int)) rfl
    have HF := Lib.hid hF
    clear hF hB1 hB2 hB3
    go_wp2_with fail
    go_region
    go_wp2_with fail
    go_ret2
    have hs1 := hbz.size
    have hb2 : Below w.heap.size w (W1.drew.alloc (.cells A 90)) := (hbz.drew).alloc hs1 _
    refine ⟨hb2.alloc (by simp; omega) _, ⟨r, c, k, W1.heap.size + 1, W1.heap.size, rfl, rfl, rfl, HN.out.1, HN.out.2.1, HN.out.2.2.1, HN.out.2.2.2, rfl, ⟨?_, Fm.alloc HF.out _, World.ownsRow_nil _ _ _ _, by omega, fun h => (by cases h), fun h => (by cases h), by omega, by omega⟩⟩⟩
    exact Blk.newAt _ _ _ (by simp)
theorem spot_any (w : World) (B gf gr p : Nat) (v : Value) (S : Fr) (h : FrIn w B gf gr v S) (hR : S.R ≤ 1024) (hp : p < 255 * S.R) : Calls Tryz.prog 30 #[.pointer (some ⟨gf, 0, none⟩), .int .i64 p] w fun e w' => e = .returned (.complex .f64 (fl (p / S.R)) (fl (p % S.R))) ∧ Below w.heap.size w w' := by
  have c0 := fun q => Blk.cell (blk_ext h.box q) 0 (v := .int .i64 (S.R : Int)) rfl
  obtain ⟨R, hRR⟩ : ∃ R, S.R = R := ⟨_, rfl⟩
  rw [hRR] at c0 hR hp ⊢
  have hR0 : R ≠ 0 := by omega
  have HX := Lib.hid (And.intro (ofInt_fl (p / R)) (ofInt_fl (p % R)))
  clear h hRR
  go_enter Tryz.func30, Tryz.ntmps30
  go_wp2_with fail
  refine Go.Proofs.YtlocgilgdnhnlaaGreatDoor.Q.region_ext (by kernel_rfl) (by kernel_rfl) ?_
  repeat (go_big_quiet_step (fail))
  refine wpQuiet_nil ?_
  rintro w9 ⟨pq, rfl⟩
  go_wp2_with fail
  go_ret
  refine ⟨?_, below_ext w pq⟩
  have h1 : p / R < 255 := (Nat.div_lt_iff_lt_mul (by omega)).2 hp
  have h2 : wrap64 ((p : Int) / (R : Int)) = ((p / R : Nat) : Int) := by
    rw [← Int.natCast_ediv]
    obtain ⟨x, hx⟩ : ∃ x, p / R = x := ⟨_, rfl⟩
    rw [hx] at h1 ⊢
    unfold wrap64
    omega
  have h3 : (p : Int) % (R : Int) = ((p % R : Nat) : Int) := (Int.natCast_emod p R).symm
  rw [← HX.out.1, ← HX.out.2, ← h2, ← h3]
  rfl
def padN (S : Fr) : Nat := if S.used = 0 then 191 else 190 - (S.used - 1) / S.R
theorem padding_any (w : World) (B gf gr : Nat) (v : Value) (S : Fr) (h : FrIn w B gf gr v S) (hR : S.R ≤ 1024) (hu : S.used ≤ 191 * S.R) : Calls Tryz.prog 14 #[.pointer (some ⟨gf, 0, none⟩)] w fun e w' => e = .returned (.int .i64 (padN S : Nat)) ∧ Below w.heap.size w w' := by
  have c0 := Blk.cell h.box 4 (v := .int .i64 (S.used : Int)) rfl
  have HP := Lib.hid (show padN S = if S.used = 0 then 191 else 190 - (S.used - 1) / S.R from rfl)
  by_cases h0 : S.used = 0
  · have t0 : ((S.used : Int) == 0) = true := by simpa using h0
    have hP : padN S = 191 := by rw [HP.out, if_pos h0]
    rw [hP]
    clear HP hP h0 hu h
    go_enter Tryz.func14, Tryz.ntmps14
    go_wp2_with fail
    go_ret
    exact ⟨rfl, Below.refl _ _⟩
  · have t0 : ((S.used : Int) == 0) = false := beq_eq_false_iff_ne.2 (by omega)
    have hP : padN S = 190 - (S.used - 1) / S.R := by rw [HP.out, if_neg h0]
    have ks := spot_any w B gf gr (S.used - 1) v S h hR (by omega)
    have hq : (S.used - 1) / S.R < 191 := (Nat.div_lt_iff_lt_mul (by omega)).2 (by omega)
    rw [show ((S.used - 1 : Nat) : Int) = (S.used : Int) - 1 by omega] at ks
    obtain ⟨q, hqq⟩ : ∃ q, (S.used - 1) / S.R = q := ⟨_, rfl⟩
    obtain ⟨q2, hq2⟩ : ∃ q, (S.used - 1) % S.R = q := ⟨_, rfl⟩
    rw [hqq, hq2] at ks
    rw [hqq] at hP hq
    have k1 := fun V => run_cint (P := Tryz.prog) (w := V) 77 3 q (by kernel_rfl) Tryz.underlying3 (by omega)
    have hX := Lib.hid (show ((padN S : Nat) : Int) = 190 - (q : Int) by rw [hP]; omega)
    have j1 : (q : Int) < 191 := by omega
    have j0 : (0 : Int) ≤ (q : Int) := Int.natCast_nonneg _
    have j2 : (S.used : Int) ≤ 200000 := by omega
    clear HP hP hqq hq2 hq h hu
    go_enter Tryz.func14, Tryz.ntmps14
    go_wp2_with fail
    (with_reducible refine (ks).mono ?_); rintro e1 W1 ⟨rfl, hb1⟩
    clear ks
    go_wp2_with fail
    go_ret
    exact ⟨by rw [hX.out]; rfl, hb1⟩
end Go.Proofs.YtlocgilgdnhnlaaGreatDoor.FrA
