/- rs, walked: Generator, Encode, Word. -/
import Derived.Test.YtlocgilgdnhnlaaGreatDoorPoA
import Derived.Test.YtlocgilgdnhnlaaGreatDoorTbQ
import Derived.Laws.IdiomCopy
namespace Go.Proofs.YtlocgilgdnhnlaaGreatDoor.RsA
open Go Go.RowKit Go.Proofs.YtlocgilgdnhnlaaGreatDoor.Q Go.Proofs.YtlocgilgdnhnlaaGreatDoor.Mem Go.Proofs.YtlocgilgdnhnlaaGreatDoor.Rg Go.Proofs.YtlocgilgdnhnlaaGreatDoor.Ap Go.Proofs.YtlocgilgdnhnlaaGreatDoor.St Go.Proofs.YtlocgilgdnhnlaaGreatDoor.BiW Go.Proofs.YtlocgilgdnhnlaaGreatDoor.BiG Go.Proofs.YtlocgilgdnhnlaaGreatDoor.CrB Go.Proofs.YtlocgilgdnhnlaaGreatDoor.SeEq Go.Proofs.YtlocgilgdnhnlaaGreatDoor.TbM Go.Proofs.YtlocgilgdnhnlaaGreatDoor.TbQ Go.Proofs.YtlocgilgdnhnlaaGreatDoor.GfP Go.Proofs.YtlocgilgdnhnlaaGreatDoor.PoP Go.Proofs.YtlocgilgdnhnlaaGreatDoor.RsP Go.Proofs.YtlocgilgdnhnlaaGreatDoor.GfA Go.Proofs.YtlocgilgdnhnlaaGreatDoor.PoA

set_option maxRecDepth 100000
set_option maxHeartbeats 1600000 in
theorem gener_any (w : World) : Calls Tryz.prog 65 #[] w fun e w' => e = .returned (.string (str genL)) ∧ Below w.heap.size w w' := by
  have kn := GfA.new_any w
  go_enter Tryz.func65, Tryz.ntmps65
  go_wp2_with fail
  (with_reducible refine (kn).mono ?_); rintro e W1 ⟨rfl, hF1, hb1⟩
  obtain ⟨g, hg⟩ : ∃ g, w.heap.size = g := ⟨_, rfl⟩
  rw [hg] at hF1 hb1 ⊢
  clear kn
  go_wp2_with fail
  go_loopw [2, 5] (fun ov kv W => ∃ k : Nat, k ≤ 64 ∧ kv = .int .i64 k ∧ Fld W g ∧ W.ownsRow (g + 1) 5 1 ov k (u8s ((List.range k).map ex)) ∧ Below g w W ∧ g + 1 ≤ W.heap.size) (fun _ kv _ => 64 - (intOf kv).toNat)
  case atStart => exact ⟨0, by omega, rfl, hF1, World.ownsRow_nil _ _ _ _, hb1, hF1.lt⟩
  case round =>
    obtain ⟨k, hk, rfl, hF, hown, hb, hsz⟩ := hrel
    have k0 : (0 : Int) ≤ (k : Int) := Int.natCast_nonneg _
    by_cases hkn : k < 64
    · have t0 : decide ((k : Int) < 64) = true := decide_eq_true (by omega)
      have kx := exp_any wr g k hF (by omega)
      have hb9 := Blk.new wr 5 #[.int .u8 ((ex k).toNat : Int)]
      have hown2 := own_below hown ((Below.refl wr.heap.size wr).alloc (Nat.le_refl _) (.cells #[.int .u8 ((ex k).toNat : Int)] 5))
      have hF2 : Fld (wr.alloc (.cells #[.int .u8 ((ex k).toNat : Int)] 5)) g := Fm.alloc hF _
      have hsz2 : g + 1 ≤ (wr.alloc (.cells #[.int .u8 ((ex k).toNat : Int)] 5)).heap.size := by simp; omega
      have hb2 := hb.alloc (by omega) (.cells #[.int .u8 ((ex k).toNat : Int)] 5)
      have HS := Lib.hid (show u8s ((List.range (k + 1)).map ex) = u8s ((List.range k).map ex) ++ [.int .u8 ((ex k).toNat : Int)] by simp [List.range_succ, u8s, u8v])
      clear hown hb hF hF1 hb1
      go_wp2_with fail
      (with_reducible refine (kx).mono ?_); rintro e2 W2 ⟨rfl, rfl⟩
      clear kx
      go_wp2_with (at_builtin; refine wpList_app rfl _ _ rfl elemB rfl hown2 rfl rfl (blk_news hb9) (by simp [Value.oneCell']) (by omega) (by unfold maxLen; omega) hsz2 ?_)
      intro v9 w8 hown9 hb8
      have hF3 := hF2.below hb8 (by omega)
      have hb3 := hb2.trans (hb8.mono (by omega))
      have hsz8 := Nat.le_trans hsz2 hb8.size
      clear hown2 hb9 hb2 hb8 hF2
      go_wp2_with fail
      go_roundw
      case rel => exact ⟨k + 1, by omega, by go_num, hF3, by rw [HS.out]; exact hown9, hb3, hsz8⟩
      case measure => simp [intOf]; omega
    · obtain rfl : k = 64 := by omega
      have t0 : decide (((64 : Nat) : Int) < 64) = false := by decide
      obtain ⟨a1, c1, rfl⟩ := own_form hown
      have kc := own_u8 hown (by simp)
      have kr := fun V => roots_any (str ((List.range 64).map ex)) V (by rw [str_size]; simp)
      rw [bl_str] at kr
      have HG := Lib.hid (show genL = rootsL ((List.range 64).map ex) from rfl)
      rw [← HG.out] at kr
      obtain ⟨q, hq⟩ : ∃ q, str ((List.range 64).map ex) = q := ⟨_, rfl⟩
      rw [hq] at kc kr
      clear hq
      clear hown hF hF1 hb1
      go_wp2_with fail
      (with_reducible refine (kr _).mono ?_); rintro e2 W2 ⟨rfl, hb2⟩
      have hb3 := hb.trans (hb2.mono (by omega))
      go_wp2_with fail
      go_ret
      exact ⟨rfl, by rw [hg]; exact hb3⟩
def z64 : Array Value := Array.replicate 64 (.int .u8 0)
theorem idx_64 (cs : Array Value) (c : Nat) (b : UInt8) (hc : c < 64) (h : cs[c]? = some (.int .u8 (b.toNat : Int))) (V : World) : (Instr.index 119 (.agg cs) (.int .i64 (c : Int))).run Tryz.prog V = .ok (.int .u8 (b.toNat : Int)) V := by
  have h1 : (0 : Int) ≤ (c : Int) ∧ (c : Int) < ((64 : Nat) : Int) := by omega
  simp [Instr.index, run_underlying Tryz.underlying119, asIntOf, h1, part, go_sem, h, Tryz.isAgg5, Tryz.sizeOf5, Sem.run_bind]
  omega
/-- the taps behind i rounds -/
def tapF (i k : Nat) : UInt8 := if k < i then gen 64 (63 - k) else 0
theorem tap_step (i k : Nat) : (if k = i then u8v (gen 64 (63 - i)) else u8v (tapF i k)) = u8v (tapF (i + 1) k) := by
  unfold tapF
  by_cases h : k = i
  · rw [if_pos h, if_pos (by omega), h]
  · rw [if_neg h]
    by_cases h2 : k < i
    · rw [if_pos h2, if_pos (by omega)]
    · rw [if_neg h2, if_neg (by omega)]
theorem genL_at (i : Nat) (h : i < 65) : (bl (str genL))[i]? = some (gen 64 i) := by
  obtain ⟨h1, h2⟩ := gen_roots 64
  rw [bl_str]
  have h3 : genL[i]? = some (genL[i]'(by rw [show genL.length = 65 from h2]; exact h)) := List.getElem?_eq_getElem _
  rw [h3, ← h1 i, ← show genL = rootsL ((List.range 64).map ex) from rfl, fa_in h3]
theorem fm_z64 (w : World) (g : Nat) (hg : g = w.heap.size) (F : Nat → UInt8) (hF : ∀ k, F k = 0) : Fm (w.alloc (.cells z64 119)) g 119 64 (fun k => u8v (F k)) := by
  refine ⟨z64, Blk.newAt w _ _ hg, by simp [z64], fun i hi => ?_⟩
  simp [z64, hi, hF]
  rfl
/-- the register's bytes move on -/
def moveF (F : Nat → UInt8) (k : Nat) : UInt8 := if k < 63 then F (k + 1) else F 63
theorem fm_kept {w w' : World} {g n : Nat} {t : TypeId} {f : Nat → Value} {F : Nat → Prop} (h : Fm w g t n f) (k : Kept F w w') (hn : ¬ F g) : Fm w' g t n f := h.same (k.block g h.lt hn)
theorem copy_reg (w : World) (g : Nat) (F : Nat → UInt8) (h : Fm w g 119 64 (fun k => u8v (F k))) : ∃ w', Fm w' g 119 64 (fun k => u8v (moveF F k)) ∧ Kept (fun j => j = g) w w' ∧
    (Builtin.copy_ #[87, 87] 3 #[.slice (some ⟨g, 0, none⟩) 64 64, .slice (some ⟨g, 1, none⟩) 63 63]).run Tryz.prog w = .ok (goInt 63) w' := by
  obtain ⟨cur, h1, h2, h3⟩ := h
  have hcs : ∀ j v, ((List.range 63).map fun k => u8v (F (k + 1)))[j]? = some v → w.cell? ((⟨g, 1, none⟩ : Addr).add j) = some v := fun j v hj => by
    have hjl : j < 63 := by have := (List.getElem?_eq_some_iff.1 hj).1; simpa using this
    have hadd : (⟨g, 1, none⟩ : Addr).add j = ⟨g, 1 + j, none⟩ := by unfold Addr.add; split <;> simp_all
    rw [hadd, cell_of_row w g (1 + j) cur _ _ h1, h3 (1 + j) (by omega), ← hj]
    simp [hjl, Nat.add_comm 1 j]
  have hr := run_copy_row (P := Tryz.prog) w 87 87 3 5 g 0 64 64 ⟨g, 1, none⟩ 63 63 cur 119 ((List.range 63).map fun k => u8v (F (k + 1))) Tryz.underlying87 (by kernel_rfl) h1 (by simp) hcs (by simp; omega) (fun v hv => by
    obtain ⟨k, _, rfl⟩ := List.mem_map.1 hv
    rfl)
  refine ⟨w.setRow g ((List.range 63).map (fun k => u8v (F (k + 1))) ++ cur.toList.drop 63).toArray, ⟨_, setRow_heap w g cur _ _ _ h1, ?_, fun i hi => ?_⟩, ?_, by rw [hr]; simp⟩
  · simp; omega
  · show _ = some (u8v (moveF F i))
    rw [List.getElem?_toArray]
    unfold moveF
    by_cases h : i < 63
    · rw [List.getElem?_append_left (by simpa using h), if_pos h]
      simp [h]
    · rw [List.getElem?_append_right (by simpa using h), if_neg h]
      obtain rfl : i = 63 := by omega
      simp
      exact h3 63 (by omega)
  · exact ⟨rfl, rfl, rfl, by simp [World.setRow], fun i _ hn => by simp [World.setRow, Array.getElem?_modify, Ne.symm hn]⟩
/-- the register behind the shift, and k sums -/
def shF (R : Nat → UInt8) (k : Nat) : UInt8 := if k < 63 then R (k + 1) else 0
def sumF (R : Nat → UInt8) (x : UInt8) (j k : Nat) : UInt8 := shF R k ^^^ (if k < j then gm x (gen 64 (63 - k)) else 0)
theorem sum_zero (R : Nat → UInt8) (x : UInt8) (k : Nat) (hk : k < 64) : (if k = 63 then u8v 0 else u8v (moveF R k)) = u8v (sumF R x 0 k) := by
  unfold sumF moveF shF
  rw [if_neg (show ¬ k < 0 by omega), x0]
  by_cases h : k = 63
  · rw [if_pos h, if_neg (by omega)]
  · rw [if_neg h, if_pos (by omega), if_pos (by omega)]
theorem sum_step (R : Nat → UInt8) (x : UInt8) (j k : Nat) : (if k = j then u8v (sumF R x j j ^^^ gm x (gen 64 (63 - j))) else u8v (sumF R x j k)) = u8v (sumF R x (j + 1) k) := by
  unfold sumF
  by_cases h : k = j
  · rw [if_pos h, h, if_neg (show ¬ j < j by omega), if_pos (show j < j + 1 by omega), x0]
  · rw [if_neg h]
    by_cases h2 : k < j
    · rw [if_pos h2, if_pos (by omega)]
    · rw [if_neg h2, if_neg (by omega)]
theorem sum_end (R : Nat → UInt8) (d : UInt8) (k : Nat) (hk : k < 64) : sumF R (d ^^^ R 0) 64 k = stepR R d k := by
  unfold sumF stepR
  rw [if_pos hk]
  rfl
theorem sum_none (R : Nat → UInt8) (d : UInt8) (h : d ^^^ R 0 = 0) (k : Nat) : sumF R (d ^^^ R 0) 0 k = stepR R d k := by
  unfold sumF stepR
  rw [h, zero_gm, if_neg (by omega)]
  rfl
set_option maxHeartbeats 6400000 in
theorem encode_any (d : ByteArray) (w : World) (hd : d.size = 191) : Calls Tryz.prog 56 #[.string d] w fun e w' => e = .returned (.tuple #[.string (str (enc (bl d))), .int .i64 0]) ∧ Below w.heap.size w w' := by
  have kn := GfA.new_any w
  have t0 : ((d.size : Int) == 191) = true := by rw [hd]; rfl
  have t0' : ((d.size : Int) != 191) = false := by rw [hd]; rfl
  have HD := Lib.hid hd
  have hz : ∀ V : World, (zeroValue 119).run Tryz.prog V = .ok (.agg z64) V := fun V => by kernel_rfl
  clear hd
  go_enter Tryz.func56, Tryz.ntmps56
  go_wp2_with fail
  refine Scp.wp_scope_one 0 (fun _ _ => False) (fun _ _ => 0) rfl (fun _ _ h => h.elim) (fun _ => ?_)
  go_wp2_with fail
  (with_reducible refine (kn).mono ?_); rintro e W1 ⟨rfl, hF1, hb1⟩
  obtain ⟨g, hg⟩ : ∃ g, w.heap.size = g := ⟨_, rfl⟩
  rw [hg] at hF1 hb1 ⊢
  have kg := gener_any W1
  clear kn
  go_wp2_with fail
  (with_reducible refine (kg).mono ?_); rintro e2 W2 ⟨rfl, hb2⟩
  have hF2 := hF1.be hb2
  have hlt := hF1.lt
  have hb3 := hb1.trans (hb2.mono (by omega))
  clear kg hF1 hb1 hb2 hlt
  obtain ⟨gt, hgt⟩ : ∃ gt, W2.heap.size = gt := ⟨_, rfl⟩
  have hA1 := fm_z64 W2 gt hgt.symm (tapF 0) (fun k => by unfold tapF; exact if_neg (by omega))
  have hF3 : Fld (W2.alloc (.cells z64 119)) g := Fm.alloc hF2 _
  have hlt := hF2.lt
  rw [hgt] at hlt
  have hb4 := hb3.alloc (by omega) (.cells z64 119)
  clear hF2 hb3
  go_wp2_with fail
  go_loopw [18] (fun kv W => ∃ k : Nat, k ≤ 64 ∧ kv = .int .i64 k ∧ Fld W g ∧ Fm W gt 119 64 (fun j => u8v (tapF k j)) ∧ Below g w W) (fun kv _ => 64 - (intOf kv).toNat)
  case atStart => exact ⟨0, by omega, rfl, hF3, hA1, hb4⟩
  case round =>
    clear hF3 hA1 hb4
    obtain ⟨k, hk, rfl, hF, hA, hb⟩ := hrel
    have k0 : (0 : Int) ≤ (k : Int) := Int.natCast_nonneg _
    by_cases hkn : k < 64
    · have r0 : decide ((k : Int) < 64) = true := decide_eq_true (by omega)
      have ix : ∀ V : World, (Instr.index 9 (.string (str genL)) (.int .i64 (63 - (k : Int)))).run Tryz.prog V = .ok (.int .u8 ((gen 64 (63 - k)).toNat : Int)) V := fun V => by
        rw [show 63 - (k : Int) = ((63 - k : Nat) : Int) by omega]
        exact ix_of (genL_at (63 - k) (by omega)) V
      have c0 := hA.cell k (by omega)
      have c1 := hA.frozen k
      have k1 : (k : Int) < 64 := by omega
      have hA2 := (hA.put k (.int .u8 ((gen 64 (63 - k)).toNat : Int))).congr (f' := fun j => u8v (tapF (k + 1) j)) (fun j _ => by
        rw [← tap_step]
        split
        · rfl
        · rfl)
      have hF4 : Fld (wr.setCell ⟨gt, k, none⟩ (.int .u8 ((gen 64 (63 - k)).toNat : Int))) g := Fm.far hF (by show g ≠ gt; omega) _
      have hb5 : Below g w (wr.setCell ⟨gt, k, none⟩ (.int .u8 ((gen 64 (63 - k)).toNat : Int))) := hb.setCell (by show g ≤ gt; omega) _
      have H := Lib.hid (And.intro hF4 (And.intro hA2 hb5))
      obtain ⟨q, hq⟩ : ∃ q, str genL = q := ⟨_, rfl⟩
      rw [hq] at ix ⊢
      obtain ⟨x, hx⟩ : ∃ x, (gen 64 (63 - k)).toNat = x := ⟨_, rfl⟩
      rw [hx] at ix H
      clear hF4 hA2 hb5 hF hA hb hx
      go_wp2_with fail
      go_roundw
      case rel => exact ⟨k + 1, by omega, by go_num, H.out.1, H.out.2.1, H.out.2.2⟩
      case measure => simp [intOf]; omega
    · obtain rfl : k = 64 := by omega
      have r0 : decide (((64 : Nat) : Int) < 64) = false := by decide
      have hR0 := fm_z64 wr wr.heap.size rfl (encR ((bl d).take 0)) (fun k => rfl)
      have hF4 : Fld (wr.alloc (.cells z64 119)) g := Fm.alloc hF _
      have hA4 := Fm.alloc hA (.cells z64 119)
      obtain ⟨gr, hgr⟩ : ∃ gr, wr.heap.size = gr := ⟨_, rfl⟩
      rw [hgr] at hR0
      have hlt2 := hA.lt
      rw [hgr] at hlt2
      have hb4 := hb.alloc (by omega) (.cells z64 119)
      clear hF hA hb
      go_wp2_with fail
      apply wp_label
      go_wp2_with fail
      go_loopw [30] (fun iv W => ∃ i : Nat, i ≤ d.size ∧ iv = .int .i64 i ∧ Fld W g ∧ Fm W gt 119 64 (fun j => u8v (tapF 64 j)) ∧ Fm W gr 119 64 (fun k => u8v (encR ((bl d).take i) k)) ∧ Below g w W) (fun iv _ => d.size - (intOf iv).toNat)
      case atStart => exact ⟨0, by omega, rfl, hF4, hA4, hR0, hb4⟩
      case round =>
        clear hF4 hA4 hR0 hb4
        obtain ⟨i, hi, rfl, hF, hA, hR, hb⟩ := hrel
        have i0 : (0 : Int) ≤ (i : Int) := Int.natCast_nonneg _
        by_cases hin : i < d.size
        · have t1 : decide ((i : Int) < (d.size : Int)) = true := decide_eq_true (by omega)
          have t1' : decide (i < d.size) = true := decide_eq_true hin
          have i1 : (i : Int) < 191 := by have := HD.out; omega
          obtain ⟨y, hy⟩ : ∃ y, (bl d)[i]? = some y := ⟨_, List.getElem?_eq_getElem (by rw [bl_len]; exact hin)⟩
          have iy := ix_of hy
          have HE := Lib.hid (show encR ((bl d).take (i + 1)) = stepR (encR ((bl d).take i)) y by rw [List.take_add_one, hy, Option.toList_some, encR_snoc])
          obtain ⟨R, hRR⟩ : ∃ R, encR ((bl d).take i) = R := ⟨_, rfl⟩
          rw [hRR] at hR HE
          have c0 := fun p => (Fm.ext hR p).cell 0 (by omega)
          rw [u8v] at c0
          have qx := xor_g y (R 0)
          obtain ⟨x, hx⟩ : ∃ x, y ^^^ R 0 = x := ⟨_, rfl⟩
          have HSE := Lib.hid (And.intro (sum_end R y) (sum_none R y))
          rw [hx] at qx HSE
          clear hy hRR hx
          go_wp2_with fail
          refine Go.Proofs.YtlocgilgdnhnlaaGreatDoor.Q.region_ext (by kernel_rfl) (by kernel_rfl) ?_
          repeat (go_big_quiet_step (fail))
          refine wpQuiet_nil ?_
          rintro w9 ⟨pq, rfl⟩
          have hF1 := Fm.ext hF pq
          have hA1 := Fm.ext hA pq
          have hR1 := Fm.ext hR pq
          have hb1 := hb.trans ((below_ext wr pq).mono (by have := hF.lt; omega))
          obtain ⟨W1, hW1⟩ : ∃ W1, ext wr pq = W1 := ⟨_, rfl⟩
          rw [hW1] at hF1 hA1 hR1 hb1 ⊢
          clear hF hA hR hb c0 hW1
          go_wp2_with fail
          refine Go.Proofs.YtlocgilgdnhnlaaGreatDoor.Q.region_ext_tail 2 (by kernel_rfl) (by kernel_rfl) ?_
          simp only [List.take_succ_cons, List.take_zero, List.drop_succ_cons, List.drop_zero]
          repeat (go_big_quiet_step (fail))
          refine wpQuiet_nil ?_
          rintro w9 ⟨pq, rfl⟩
          obtain ⟨W3, hR3, hk3, hcp⟩ := copy_reg (ext W1 pq) gr R (Fm.ext hR1 pq)
          have hF3 := fm_kept (Fm.ext hF1 pq) hk3 (by show g ≠ gr; omega)
          have hA3 := fm_kept (Fm.ext hA1 pq) hk3 (by show gt ≠ gr; omega)
          have hb3 := (hb1.trans ((below_ext W1 pq).mono (by have := hF1.lt; omega))).trans (hk3.be (B := g) (by have := hF3.lt; have := hk3.size; have := (below_ext W1 pq).size; have := hF1.lt; omega) (fun i hi => by omega))
          have c3 := hR3.cell 63 (by omega)
          have c4 := hR3.frozen 63
          have hR4 := (hR3.put 63 (.int .u8 0)).congr (f' := fun k => u8v (sumF R x 0 k)) (fun k hk => sum_zero R _ k hk)
          have hF4 : Fld (W3.setCell ⟨gr, 63, none⟩ (.int .u8 0)) g := Fm.far hF3 (by show g ≠ gr; omega) _
          have hA4 : Fm (W3.setCell ⟨gr, 63, none⟩ (.int .u8 0)) gt 119 64 (fun j => u8v (tapF 64 j)) := Fm.far hA3 (by show gt ≠ gr; omega) _
          have hb4 : Below g w (W3.setCell ⟨gr, 63, none⟩ (.int .u8 0)) := hb3.setCell (by show g ≤ gr; omega) _
          clear hF1 hA1 hR1 hb1 hF3 hA3 hb3 hk3 hR3
          by_cases hx0 : x = 0
          · have t2 : ((x.toNat : Int) == 0) = true := by rw [hx0]; rfl
            clear iy
            go_wp2_with fail
            go_roundw
            case rel =>
              refine ⟨i + 1, by omega, by go_num, hF4, hA4, hR4.congr (fun k _ => ?_), hb4⟩
              rw [HE.out, HSE.out.2 hx0]
            case measure => simp [intOf]; omega
          · have t2 : ((x.toNat : Int) == 0) = false := beq_eq_false_iff_ne.2 (fun e => hx0 (UInt8.toNat_inj.1 (by simpa using e)))
            clear iy
            obtain ⟨C, hC1, hC2, hC3⟩ := id hA4
            have hix := fun (c : Nat) (hc : c < 64) (V : World) => idx_64 C c (tapF 64 c) hc (hC3 c hc) V
            have HIX := Lib.hid hix
            have hcs : ∀ j v, C.toList[j]? = some v → (W3.setCell ⟨gr, 63, none⟩ (.int .u8 0)).cell? ⟨gt, 0 + j, none⟩ = some v := fun j v hj => by
              rw [Nat.zero_add, cell_of_row _ gt j C _ _ hC1, ← Array.getElem?_toList]
              exact hj
            clear hix hC1 hC3
            go_wp2_with (refine wpList_load_part rfl 119 _ rfl gt 0 rfl C _ hcs Tryz.underlying119 rfl (by rw [hC2]; kernel_rfl) ?_)
            clear hcs hC2
            go_wp2_with fail
            go_loopw [46] (fun jv W => ∃ j : Nat, j ≤ 64 ∧ jv = .int .i64 j ∧ Fld W g ∧ Fm W gt 119 64 (fun j => u8v (tapF 64 j)) ∧ Fm W gr 119 64 (fun k => u8v (sumF R x j k)) ∧ Below g w W) (fun jv _ => 64 - (intOf jv).toNat)
            case atStart => exact ⟨0, by omega, rfl, hF4, hA4, hR4, hb4⟩
            case round =>
              clear hF4 hA4 hR4 hb4 hcp c3 c4
              obtain ⟨j, hj, rfl, hF, hA, hR, hb⟩ := hrel
              have j0 : (0 : Int) ≤ (j : Int) := Int.natCast_nonneg _
              by_cases hjn : j < 64
              · have t3 : decide ((j : Int) < 64) = true := decide_eq_true (by omega)
                have hij := HIX.out j hjn
                rw [show tapF 64 j = gen 64 (63 - j) from if_pos hjn] at hij
                have HM := Lib.hid (sum_step R x j)
                obtain ⟨z, hz⟩ : ∃ z, gen 64 (63 - j) = z := ⟨_, rfl⟩
                rw [hz] at hij HM
                have c0 := fun p => (Fm.ext hR p).cell j (by omega)
                have c1 := fun p => (Fm.ext hR p).frozen j
                obtain ⟨m, hm⟩ : ∃ m, sumF R x j j = m := ⟨_, rfl⟩
                rw [hm, u8v] at c0
                rw [hm] at HM
                have qm := xor_g m (gm x z)
                have j1 : (j : Int) < 64 := by omega
                clear hm hz qx
                go_wp2_with fail
                refine Go.Proofs.YtlocgilgdnhnlaaGreatDoor.Rg.region_new [(6, val (.int .u8 ((gm x z).toNat : Int)))] 9 (by kernel_rfl) (by kernel_rfl) (by kernel_rfl) (lk_cons val_inh lk_nil) (lk_cons val_mono lk_nil) ?_
                intro σ hσ
                simp only [List.take_succ_cons, List.take_zero, List.drop_succ_cons, List.drop_zero]
                have hs6 : σ 6 = .int .u8 ((gm x z).toNat : Int) := hσ 6 _ rfl
                refine Go.Proofs.YtlocgilgdnhnlaaGreatDoor.Rg.wpN_take 6 (by kernel_rfl) (by kernel_rfl) (by kernel_rfl) ?_
                simp only [List.take_succ_cons, List.take_zero, List.drop_succ_cons, List.drop_zero]
                repeat (go_big_quiet_step (fail))
                refine wpQuiet_nil ?_
                refine wpN_sp _ rfl (by kernel_rfl) (spAt_val (f := 66) (args := #[.pointer (some ⟨g, 0, none⟩), .int .u8 (x.toNat : Int), .int .u8 (z.toNat : Int)]) (by intro w0; go_simp) (fun p _ => GfA.mul_any _ g x z (Fm.ext hF p))) ?_
                simp only [Act.put, List.setIfInBounds_toArray, List.set_cons_zero, List.set_cons_succ]
                rw [hs6]
                refine Go.Proofs.YtlocgilgdnhnlaaGreatDoor.Rg.wpN_take 2 (by kernel_rfl) (by kernel_rfl) (by kernel_rfl) ?_
                simp only [List.take_succ_cons, List.take_zero, List.drop_succ_cons, List.drop_zero]
                repeat (go_big_quiet_step (fail))
                refine wpQuiet_nil ?_
                refine wpN_nil ?_
                rintro w9 ⟨pq, rfl⟩ _
                have d0 := c0 pq
                have d1 := c1 pq
                have hF9 : Fld ((ext wr pq).setCell ⟨gr, j, none⟩ (.int .u8 ((m ^^^ gm x z).toNat : Int))) g := Fm.far (Fm.ext hF pq) (by show g ≠ gr; omega) _
                have hA9 : Fm ((ext wr pq).setCell ⟨gr, j, none⟩ (.int .u8 ((m ^^^ gm x z).toNat : Int))) gt 119 64 (fun j => u8v (tapF 64 j)) := Fm.far (Fm.ext hA pq) (by show gt ≠ gr; omega) _
                have hR9 := ((Fm.ext hR pq).put j (.int .u8 ((m ^^^ gm x z).toNat : Int))).congr (f' := fun k => u8v (sumF R x (j + 1) k)) (fun n _ => by
                  rw [← HM.out]
                  split <;> rfl)
                have hb9 : Below g w ((ext wr pq).setCell ⟨gr, j, none⟩ (.int .u8 ((m ^^^ gm x z).toNat : Int))) := (hb.trans ((below_ext wr pq).mono (by have := hF.lt; omega))).setCell (by show g ≤ gr; omega) _
                have H9 := Lib.hid (And.intro hF9 (And.intro hA9 (And.intro hR9 hb9)))
                clear hF hA hR hb hF9 hA9 hR9 hb9 c0 c1 hσ hs6
                go_wp2_with fail
                go_roundw
                case rel => exact ⟨j + 1, by omega, by go_num, H9.out.1, H9.out.2.1, H9.out.2.2.1, H9.out.2.2.2⟩
                case measure => simp [intOf]; omega
              · obtain rfl : j = 64 := by omega
                have t3 : decide (((64 : Nat) : Int) < 64) = false := by decide
                go_wp2_with fail
                refine ⟨?_, ?measure⟩
                · repeat apply Exists.intro
                  refine ⟨?_, rfl⟩
                  refine ⟨i + 1, by omega, by go_num, hF, hA, hR.congr (fun k hk => ?_), hb⟩
                  rw [HE.out]
                  exact congrArg u8v (HSE.out.1 k hk)
                · simp [intOf]; omega
        · obtain rfl : i = d.size := by omega
          have t1 : decide ((d.size : Int) < (d.size : Int)) = false := decide_eq_false (by omega)
          have t1' : decide (d.size < d.size) = false := decide_eq_false (by omega)
          rw [show (bl d).take d.size = bl d by rw [← bl_len, List.take_length]] at hR
          have kc := conv_fm hR 64
          have HE := Lib.hid (show (List.range 64).map (encR (bl d)) = enc (bl d) from rfl)
          rw [HE.out] at kc
          obtain ⟨q, hq⟩ : ∃ q, str (enc (bl d)) = q := ⟨_, rfl⟩
          rw [hq] at kc
          have HQ := Lib.hid hq
          clear hq
          go_wp2_with fail
          simp only [Exit.jump]
          go_ret2
          exact ⟨by rw [HQ.out]; rfl, by rw [hg]; exact hb⟩
end Go.Proofs.YtlocgilgdnhnlaaGreatDoor.RsA
