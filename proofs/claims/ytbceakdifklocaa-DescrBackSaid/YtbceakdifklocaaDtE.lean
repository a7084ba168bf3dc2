/- descr.ReadTargets. -/
import Derived.Test.YtbceakdifklocaaDtD
import Derived.Test.YtbceakdifklocaaDsS
import Derived.Deep.RegionHeld3
namespace Go.Proofs.Ytbceakdifklocaa.DtE
open Go.RowKit Go.Proofs.Ytbceakdifklocaa.Q Go.Proofs.Ytbceakdifklocaa.Mem Go.Proofs.Ytbceakdifklocaa.DsA Go.Proofs.Ytbceakdifklocaa.DsB Go.Proofs.Ytbceakdifklocaa.DsC Go.Proofs.Ytbceakdifklocaa.DsD Go.Proofs.Ytbceakdifklocaa.DsE Go.Proofs.Ytbceakdifklocaa.DsF Go.Proofs.Ytbceakdifklocaa.DsI Go.Proofs.Ytbceakdifklocaa.DsK Go.Proofs.Ytbceakdifklocaa.DsQ Go.Proofs.Ytbceakdifklocaa.DsR Go.Proofs.Ytbceakdifklocaa.DsS Go.Proofs.Ytbceakdifklocaa.DsY Go.Proofs.Ytbceakdifklocaa.DtB Go.Proofs.Ytbceakdifklocaa.DtD Go.Proofs.Ytbceakdifklocaa.Rg Go.Proofs.Ytbceakdifklocaa.Ap

def tgAt (s : ByteArray) (i : Nat) : Tg := ⟨at' s (5 * i), at' s (5 * i + 1), at' s (5 * i + 2), at' s (5 * i + 3), at' s (5 * i + 4)⟩
def tgN (s : ByteArray) (k : Nat) : List Tg := (List.range k).map (tgAt s)
theorem tgN_len (s : ByteArray) (k : Nat) : (tgN s k).length = k := by simp [tgN]
theorem tgN_snoc (s : ByteArray) (k : Nat) : tgN s (k + 1) = tgN s k ++ [tgAt s k] := by simp [tgN, List.range_succ]
def rtL (d : Dc) : List Tg := if rtE d = 0 then tgN d.body (d.body.size / 5) else []
theorem rtL_len (d : Dc) : (rtL d).length = rtN d := by unfold rtL rtN; split <;> simp [tgN]
theorem of_at (s : ByteArray) (i : Nat) (h : i < s.data.toList.length) : UInt8.ofNat (at' s i).toNat = s.data.toList[i] := by
  have h' : i < s.data.size := by simpa using h
  unfold at'
  rw [Array.getElem?_eq_getElem h']
  simp
theorem tgt_bytes (s : ByteArray) : ∀ k, 5 * k ≤ s.data.toList.length → tgtL (tgN s k) = s.data.toList.take (5 * k)
  | 0, _ => by simp [tgN, tgtL]
  | k + 1, h => by
    have ih := tgt_bytes s k (by omega)
    rw [tgN_snoc, show tgtL (tgN s k ++ [tgAt s k]) = tgtL (tgN s k) ++ tgt1 (tgAt s k) by simp [tgtL], ih]
    rw [show 5 * (k + 1) = 5 * k + 1 + 1 + 1 + 1 + 1 by omega]
    rw [List.take_succ_eq_append_getElem (by omega), List.take_succ_eq_append_getElem (by omega), List.take_succ_eq_append_getElem (by omega), List.take_succ_eq_append_getElem (by omega), List.take_succ_eq_append_getElem (by omega)]
    simp only [tgt1, tgAt, List.append_assoc, List.singleton_append]
    rw [of_at s (5 * k) (by omega), of_at s (5 * k + 1) (by omega), of_at s (5 * k + 2) (by omega), of_at s (5 * k + 3) (by omega), of_at s (5 * k + 4) (by omega)]
    simp
theorem tgt_whole (s : ByteArray) (h : s.size % 5 = 0) : str (tgtL (tgN s (s.size / 5))) = s := by
  have hl : s.data.toList.length = s.size := Array.length_toList
  rw [tgt_bytes s _ (by omega), show 5 * (s.size / 5) = s.data.toList.length by omega, List.take_length, str_of]
theorem tgB_bad (s : ByteArray) : tgB (tgN s (s.size / 5)) = !rtBad s := by
  unfold tgB tgN rtBad
  rw [List.all_map, List.not_any_eq_all_not]
  congr 1
  funext i
  have := at_range s (5 * i + 4)
  show in1 32 (at' s (5 * i + 4)) = !decide (32 < at' s (5 * i + 4))
  generalize at' s (5 * i + 4) = x at this ⊢
  unfold in1
  by_cases h : 32 < x
  · rw [decide_eq_true h, decide_eq_false (by omega)]; rfl
  · rw [decide_eq_false h, decide_eq_true (by omega)]; rfl
theorem rt_good (d : Dc) (h1 : d.tag = 15) (h2 : d.body.size % 5 = 0) : (rtE d = 0 → tgE (tgN d.body (d.body.size / 5)) = 0 ∧ tgD (tgN d.body (d.body.size / 5)) = d) ∧ (rtE d ≠ 0 → rtE d = 12 ∧ tgE (tgN d.body (d.body.size / 5)) ≠ 0) := by
  have hE : rtE d = if rtBad d.body || decide (51 < d.body.size / 5) then 12 else 0 := by simp [rtE, h1, h2]
  have hT : tgE (tgN d.body (d.body.size / 5)) = if rtBad d.body then 15 else if 51 < d.body.size / 5 then 11 else 0 := by
    unfold tgE; rw [tgB_bad, tgN_len]; cases rtBad d.body <;> rfl
  rw [hE, hT]
  cases hb : rtBad d.body with
  | true => simp
  | false =>
    by_cases h51 : 51 < d.body.size / 5
    · simp [h51]
    · refine ⟨fun _ => ⟨by simp [h51], ?_⟩, fun h => by simp [h51] at h⟩
      unfold tgD
      rw [hT, hb, if_neg h51]
      simp only [Bool.false_eq_true, if_false, if_true]
      rw [tgt_whole _ h2]
      exact dc_iff.2 ⟨h1.symm, rfl⟩
theorem at_extract_end (s : ByteArray) (i j : Nat) : at' (s.extract i s.size) j = at' s (i + j) := by
  by_cases h : i + j < s.size
  · exact at_extract s i j s.size (Nat.le_refl _) h
  · unfold at'
    rw [Array.getElem?_eq_none (by show (s.extract i s.size).size ≤ j; rw [ByteArray.size_extract]; omega), Array.getElem?_eq_none (by show s.size ≤ i + j; omega)]
theorem infoT : (Try.prog.info? 71).map (fun i => (i.zero, i.size, i.bytes)) = some (some (.agg #[.int .u8 0, .int .u8 0, .int .u8 0, .int .u8 0, .int .i64 0]), 5, 16) := by kernel_rfl
set_option maxRecDepth 100000
/-- at the label -/
def At (d : Dc) (w : World) (a : Act) (W : World) : Prop := ∃ (k : Nat) (t : ByteArray) (v u6 u7 u8 u9 u10 u11 u12 u13 u14 u15 u16 u17 u18 u19 u20 u21 u22 u23 u24 u25 u26 u27 u28 u29 u30 u31 u32 u33 u34 u35 u36 u37 u38 u39 u40 u41 u42 u43 u44 u45 u46 u47 u48 : Value),
  a = { tmps := #[.agg #[.int .i64 d.tag, .string d.body], .pointer (some ⟨w.heap.size, 0, none⟩), .slice none 0 0, .int .i64 0, .string t, v, u6, u7, u8, u9, u10, u11, u12, u13, u14, u15, u16, u17, u18, u19, u20, u21, u22, u23, u24, u25, u26, u27, u28, u29, u30, u31, u32, u33, u34, u35, u36, u37, u38, u39, u40, u41, u42, u43, u44, u45, u46, u47, u48], defers := [] } ∧ 5 * k + t.size = d.body.size ∧ (∀ j, at' t j = at' d.body (5 * k + j)) ∧ W.ownsRow (w.heap.size + 1) 71 5 v k (flat enT (tgN d.body k)) ∧ Bk w W [(w.heap.size, 30, #[.int .i64 d.tag, .string d.body])]
def left (a : Act) (_ : World) : Nat := match a.tmps.getD 4 undef with | .string t => t.size | _ => 0
set_option maxHeartbeats 3200000 in
theorem rt_any (d : Dc) (w : World) (hs : d.body.size ≤ 5000) :
    Calls Try.prog 30 #[.agg #[.int .i64 d.tag, .string d.body]] w fun e w' => ∃ a' c', e = .returned (.tuple #[.slice a' (rtL d).length c', .int .i64 (rtE d)]) ∧ Seq enT 5 w' a' (rtL d) ∧ Below w.heap.size w w' := by
  obtain ⟨i0, hi, hz0, hz1, hz2⟩ := info_parts infoT
  obtain ⟨R, hR⟩ : ∃ R : Ending → World → Prop, R = (fun e w' => ∃ a' c', e = .returned (.tuple #[.slice a' (rtL d).length c', .int .i64 (rtE d)]) ∧ Seq enT 5 w' a' (rtL d) ∧ Below w.heap.size w w') := ⟨_, rfl⟩
  rw [← hR]
  have HR := Lib.hid hR
  have HB := Lib.hid (bk1 w 30 #[.int .i64 d.tag, .string d.body])
  clear hR
  by_cases h1 : d.tag ≠ 15
  · have hE : rtE d = 14 := by simp [rtE, h1]
    have HE := Lib.hid (And.intro hE (show rtL d = [] by simp [rtL, hE]))
    have t1 : (d.tag != 15) = true := by simpa using h1
    clear h1 hE hi hz0 hz1 hz2
    go_enter Try.func30, Try.ntmps30
    go_wp2_with fail
    go_step3
    go_wp2_with fail
    rw [HR.out, HE.out.1, HE.out.2]
    exact ⟨none, 0, rfl, Seq.nil, HB.out.be⟩
  have t1 : (d.tag != 15) = false := by simpa using h1
  have e5 : ((d.body.size : Int).tmod 5) = ((d.body.size % 5 : Nat) : Int) := by rw [Int.tmod_eq_emod_of_nonneg (by omega)]; omega
  have e6 : ((d.body.size : Int) % 5) = ((d.body.size % 5 : Nat) : Int) := by omega
  have e7 : IntKind.i64.wrap ((d.body.size : Int).tmod 5) = ((d.body.size % 5 : Nat) : Int) := by rw [e5, IntKind.wrap_i64]; omega
  by_cases h2 : d.body.size % 5 ≠ 0
  · have hE : rtE d = 10 := by simp only [rtE, if_neg h1, if_pos h2]
    have HE := Lib.hid (And.intro hE (show rtL d = [] by simp [rtL, hE]))
    have t2 : (((d.body.size % 5 : Nat) : Int) != 0) = true := by simpa using (fun h => h2 (by omega))
    obtain ⟨M, hM⟩ : ∃ M, ((d.body.size % 5 : Nat) : Int) = M := ⟨_, rfl⟩
    rw [hM] at e5 e6 e7 t2
    clear h1 hE h2 hM hi hz0 hz1 hz2
    go_enter Try.func30, Try.ntmps30
    go_wp2_with fail
    go_step3
    go_wp2_with fail
    rw [HR.out, HE.out.1, HE.out.2]
    exact ⟨none, 0, rfl, Seq.nil, HB.out.be⟩
  have h2' : d.body.size % 5 = 0 := by omega
  have h1' : d.tag = 15 := by omega
  have t2 : ((0 : Int) != 0) = false := by decide
  rw [h2'] at e5 e6 e7
  have HG := Lib.hid (rt_good d h1' h2')
  have HM := Lib.hid (And.intro h1' h2')
  have x0 := Blk.cell (HB.out.nth 0 rfl) 0 (v := .int .i64 d.tag) rfl
  have x1 := Blk.cell (HB.out.nth 0 rfl) 1 (v := .string d.body) rfl
  clear h1 h2 h1' h2'
  go_enter Try.func30, Try.ntmps30
  go_wp2_with fail
  refine wp_scope_one 0 (At d w) left rfl ?_ ?_
  · clear x0 x1 t1 t2 e5 e6 e7
    rintro a W ⟨k, t, v, u6, u7, u8, u9, u10, u11, u12, u13, u14, u15, u16, u17, u18, u19, u20, u21, u22, u23, u24, u25, u26, u27, u28, u29, u30, u31, u32, u33, u34, u35, u36, u37, u38, u39, u40, u41, u42, u43, u44, u45, u46, u47, u48, rfl, hp, hat, hown, hB⟩
    have HB := Lib.hid hB
    by_cases h0 : t.size = 0
    · have t1 : t.toList.isEmpty = true := by rw [isEmpty_iff]; simpa using h0
      obtain rfl : k = d.body.size / 5 := by omega
      obtain ⟨a', c', rfl⟩ := own_form hown
      have hsq := own_seq enT_len hown (tgN_len _ _)
      have kt := targets_any a' c' (d.body.size / 5) (tgN d.body (d.body.size / 5)) W (tgN_len _ _) (by omega) hsq
      have HS := Lib.hid hsq
      obtain ⟨e, he⟩ : ∃ e, tgE (tgN d.body (d.body.size / 5)) = e := ⟨_, rfl⟩
      obtain ⟨D, hD⟩ : ∃ D, tgD (tgN d.body (d.body.size / 5)) = D := ⟨_, rfl⟩
      rw [he, hD] at kt HG
      have hG := HG.out
      clear hown hsq hat h0 hB he hD hi hz0 hz1 hz2
      go_wp2_with fail
      (with_reducible refine (kt).mono ?_); rintro e1 W1 ⟨rfl, hb1⟩
      have HB1 := Lib.hid (HB.out.box hb1 30 #[.int .i64 D.tag, .string D.body])
      have HS1 := Lib.hid (HS.out.below (Nat.le_refl _) (hb1.trans (((Below.refl _ _).alloc (Nat.le_refl _) (.cells #[.int .i64 D.tag, .string D.body] 30)).mono hb1.size)))
      have x0 := Blk.cell (HB1.out.nth 1 rfl) 0 (v := .int .i64 d.tag) rfl
      have x1 := Blk.cell (HB1.out.nth 1 rfl) 1 (v := .string d.body) rfl
      have hq : ∀ V : World, (Op.equalIn 10000 30 (.agg #[.int .i64 D.tag, .string D.body]) (.agg #[.int .i64 d.tag, .string d.body])).run Try.prog V = .ok (decide (D = d)) V := fun V => eqD D d V
      clear kt HB HS hb1
      by_cases hE : rtE d = 0
      · obtain ⟨rfl, rfl⟩ := hG.1 hE
        rw [show decide (D = D) = true by simp] at hq
        have HE := Lib.hid (And.intro hE (show rtL D = tgN D.body (D.body.size / 5) by simp [rtL, hE]))
        clear hE hG
        go_wp2_with fail
        rw [HR.out, HE.out.1, HE.out.2, tgN_len]
        exact ⟨a', c', rfl, HS1.out, HB1.out.be⟩
      · obtain ⟨hE2, hne⟩ := hG.2 hE
        have t3 : (e != 0) = true := by simpa using hne
        have HE := Lib.hid (And.intro hE2 (show rtL d = [] by simp [rtL, hE]))
        clear hE hG hE2 hne
        go_wp2_with fail
        rw [HR.out, HE.out.1, HE.out.2]
        exact ⟨none, 0, rfl, Seq.nil, HB1.out.be⟩
    · have t1 : t.toList.isEmpty = false := by rw [isEmpty_iff]; simpa using h0
      have h5 : 5 ≤ t.size := by have := HM.out.2; omega
      have h5i : (5 : Int) ≤ (t.size : Int) := by omega
      have i4 : ∀ V : World, (Instr.index 9 (.string t) (.int .i64 4)).run Try.prog V = .ok (.int .u8 (at' t 4)) V := fun V => idx_at t 4 (by omega) V
      have r4 := at_range t 4
      obtain ⟨y, hy⟩ : ∃ y, at' t 4 = y := ⟨_, rfl⟩
      rw [hy] at i4 r4
      have q4 : IntKind.i64.wrap y = y := by rw [IntKind.wrap_i64]; omega
      have hX := Blk.new W 71 #[.int .u8 0, .int .u8 0, .int .u8 0, .int .u8 0, .int .i64 y]
      have hcopy := run_copy_more (P := Try.prog) (W.alloc (.cells #[.int .u8 0, .int .u8 0, .int .u8 0, .int .u8 0, .int .i64 y] 71)) 78 9 3 5 W.heap.size 0 4 4 t Try.underlying78 (fun w => by kernel_rfl) (by omega) (fun j hj => by
          rcases (show j = 0 ∨ j = 1 ∨ j = 2 ∨ j = 3 by omega) with rfl | rfl | rfl | rfl
          · rw [Blk.cell hX 0 rfl]; rfl
          · rw [Blk.cell hX 1 rfl]; rfl
          · rw [Blk.cell hX 2 rfl]; rfl
          · rw [Blk.cell hX 3 rfl]; rfl) (fun j hj => by rw [Nat.zero_add]; exact Blk.frozen hX j)
      obtain ⟨bs, hbs⟩ : ∃ bs, (t.data.toList.map fun x => Value.int .u8 (x.toNat : Int)).take 4 = bs := ⟨_, rfl⟩
      have hbs4 : bs = [.int .u8 (at' t 0), .int .u8 (at' t 1), .int .u8 (at' t 2), .int .u8 (at' t 3)] := by
        rw [← hbs]
        obtain ⟨⟨l⟩⟩ := t
        match l, (show 5 ≤ l.length from h5) with
        | b0 :: b1 :: b2 :: b3 :: m, _ => rfl
      rw [hbs, hbs4] at hcopy
      have hW := blk_setCells [.int .u8 (at' t 0), .int .u8 (at' t 1), .int .u8 (at' t 2), .int .u8 (at' t 3)] 0 _ _ hX
      have hWb : Below W.heap.size W _ := Go.Proofs.Ytbceakdifklocaa.Rg.below_setCells (Nat.le_refl W.heap.size) [.int .u8 (at' t 0), .int .u8 (at' t 1), .int .u8 (at' t 2), .int .u8 (at' t 3)] 0 W _ ((Below.refl _ _).alloc (Nat.le_refl _) (.cells #[.int .u8 0, .int .u8 0, .int .u8 0, .int .u8 0, .int .i64 y] 71))
      obtain ⟨W2, hW2⟩ : ∃ W2, (W.alloc (.cells #[.int .u8 0, .int .u8 0, .int .u8 0, .int .u8 0, .int .i64 y] 71)).setCells W.heap.size 0 [.int .u8 (at' t 0), .int .u8 (at' t 1), .int .u8 (at' t 2), .int .u8 (at' t 3)] = W2 := ⟨_, rfl⟩
      rw [hW2] at hcopy hW hWb
      have hW' : Blk W2 W.heap.size 71 #[.int .u8 (at' t 0), .int .u8 (at' t 1), .int .u8 (at' t 2), .int .u8 (at' t 3), .int .i64 y] := hW
      obtain ⟨x0, e0⟩ : ∃ x, at' t 0 = x := ⟨_, rfl⟩
      obtain ⟨x1, e1⟩ : ∃ x, at' t 1 = x := ⟨_, rfl⟩
      obtain ⟨x2, e2⟩ : ∃ x, at' t 2 = x := ⟨_, rfl⟩
      obtain ⟨x3, e3⟩ : ∃ x, at' t 3 = x := ⟨_, rfl⟩
      have htg : tgAt d.body k = ⟨x0, x1, x2, x3, y⟩ := by
        unfold tgAt
        rw [← e0, ← e1, ← e2, ← e3, ← hy, hat, hat, hat, hat, hat]
        rfl
      rw [e0, e1, e2, e3] at hW'
      have c0 := Blk.cell (hW') 0 (v := .int .u8 x0) rfl
      have c1 := Blk.cell (hW') 1 (v := .int .u8 x1) rfl
      have c2 := Blk.cell (hW') 2 (v := .int .u8 x2) rfl
      have c3 := Blk.cell (hW') 3 (v := .int .u8 x3) rfl
      have c4 := Blk.cell (hW') 4 (v := .int .i64 y) rfl
      have hlt := Blk.lt hW'
      have hown2 := own_below hown hWb
      have hne : v.ownBlock ≠ some W.heap.size := fun e => by have := (hown.lt _ e).2; omega
      have HB2 := Lib.hid (hB.below hWb)
      have HA := Lib.hid hat
      have HTG := Lib.hid htg
      have hbase : w.heap.size + 1 ≤ W2.heap.size := by have := hB.lt 0 rfl; have := hWb.size; omega
      clear hW hW' hX hWb hW2 hbs hbs4 htg e0 e1 e2 e3 hy hat r4 hB HB hown h0
      go_wp2_with fail
      go_region_held3 (fun w' => w'.cell? ⟨W.heap.size, 0, none⟩ = some (.int .u8 x0) ∧ w'.cell? ⟨W.heap.size, 1, none⟩ = some (.int .u8 x1) ∧ w'.cell? ⟨W.heap.size, 2, none⟩ = some (.int .u8 x2) ∧ w'.cell? ⟨W.heap.size, 3, none⟩ = some (.int .u8 x3) ∧ w'.cell? ⟨W.heap.size, 4, none⟩ = some (.int .i64 y))
        (first
          | go_keep
          | (go_split_ands
             refine ⟨?_, ?_, ?_, ?_, ?_⟩
             · (rw [hgrow.cell_far _ (by simp; omega) (Ne.symm hne)]; assumption)
             · (rw [hgrow.cell_far _ (by simp; omega) (Ne.symm hne)]; assumption)
             · (rw [hgrow.cell_far _ (by simp; omega) (Ne.symm hne)]; assumption)
             · (rw [hgrow.cell_far _ (by simp; omega) (Ne.symm hne)]; assumption)
             · (rw [hgrow.cell_far _ (by simp; omega) (Ne.symm hne)]; assumption)))
        ((refine step_append_lies _ (by rfl) _ _ _ (by rfl) (w.heap.size + 1) 71 i0 _ 5 16 Try.underlying60 hi hz0 hz1 hz2 rfl (by omega) v k (flat enT (tgN d.body k)) (by rfl) ((hown2.alloc _).drew) ⟨W2.heap.size, 0, none⟩ 1 1 [.int .u8 x0, .int .u8 x1, .int .u8 x2, .int .u8 x3, .int .i64 y] (by rfl) (by rfl) (World.news_of_block (cs := #[.int .u8 x0, .int .u8 x1, .int .u8 x2, .int .u8 x3, .int .i64 y]) (t := 71) (fr := (0, 0)) (heap_alloc_new W2 _)) (by simp [Value.oneCell']) (by omega) (by unfold maxLen; omega) (by omega) (by simp; omega) (W2.heap.size + 1) (by simp) ?_; intro gg cap w1 hown1 hgrow hat hlt2))
      have hown3 : w1.ownsRow (w.heap.size + 1) 71 5 (.slice (some ⟨gg, 0, none⟩) (k + 1) cap) (k + 1) (flat enT (tgN d.body (k + 1))) := by
        rw [tgN_snoc, flat_app, HTG.out]; exact hown1
      have hb3 : Below (w.heap.size + 1) W2 w1 := (below_drewN ((Below.refl (w.heap.size + 1) W2).alloc hbase (.cells #[.int .u8 x0, .int .u8 x1, .int .u8 x2, .int .u8 x3, .int .i64 y] 71)) 1).grown hgrow (by simp; omega) (fun r e => (hown2.lt r e).1)
      have HB3 := Lib.hid (HB2.out.belowB (B := w.heap.size + 1) (by omega) (by simp) hb3)
      have hext : (t.extract 5 t.size).size = t.size - 5 := by rw [ByteArray.size_extract]; omega
      have hat2 : ∀ j, at' (t.extract 5 t.size) j = at' d.body (5 * (k + 1) + j) := fun j => by rw [at_extract_end, HA.out]; congr 1; omega
      clear hown1 hgrow hb3 c0 c1 c2 c3 c4 hown2 hat hcopy i4
      go_wp2_with fail
      go_step3
      exact ⟨rfl, ⟨k + 1, t.extract 5 t.size, _, _, _, _, _, _, _, _, _, _, _, _, _, _, _, _, _, _, _, _, _, _, _, _, _, _, _, _, _, _, _, _, _, _, _, _, _, _, _, _, _, _, _, _, rfl, by omega, hat2, hown3, HB3.out⟩, by show (t.extract 5 t.size).size < t.size; omega⟩
  · intro body
    go_wp2_with fail
    go_step3
    rename_i hK
    refine hK _ _ ?_
    exact body _ _ ⟨0, d.body, .slice none 0 0, _, _, _, _, _, _, _, _, _, _, _, _, _, _, _, _, _, _, _, _, _, _, _, _, _, _, _, _, _, _, _, _, _, _, _, _, _, _, _, _, _, _, _, rfl, by omega, fun j => by rw [Nat.mul_zero, Nat.zero_add], World.ownsRow_nil _ _ _ _, HB.out⟩
end Go.Proofs.Ytbceakdifklocaa.DtE
