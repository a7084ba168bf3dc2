/- frame: fresh, Column, Parity. -/
import Derived.Test.YtlocgilgdnhnlaaGreatDoorFrB
import Derived.Lib.BufferWrite
namespace Go.Proofs.YtlocgilgdnhnlaaGreatDoor.FrC
open Go Go.RowKit Go.Proofs.YtlocgilgdnhnlaaGreatDoor.Q Go.Proofs.YtlocgilgdnhnlaaGreatDoor.Mem Go.Proofs.YtlocgilgdnhnlaaGreatDoor.Rg Go.Proofs.YtlocgilgdnhnlaaGreatDoor.Ap Go.Proofs.YtlocgilgdnhnlaaGreatDoor.ApG Go.Proofs.YtlocgilgdnhnlaaGreatDoor.St Go.Proofs.YtlocgilgdnhnlaaGreatDoor.BiW Go.Proofs.YtlocgilgdnhnlaaGreatDoor.BiG Go.Proofs.YtlocgilgdnhnlaaGreatDoor.CrB Go.Proofs.YtlocgilgdnhnlaaGreatDoor.Scp Go.Proofs.YtlocgilgdnhnlaaGreatDoor.TlS Go.Proofs.YtlocgilgdnhnlaaGreatDoor.TbM Go.Proofs.YtlocgilgdnhnlaaGreatDoor.TbN Go.Proofs.YtlocgilgdnhnlaaGreatDoor.TbP Go.Proofs.YtlocgilgdnhnlaaGreatDoor.RsP Go.Proofs.YtlocgilgdnhnlaaGreatDoor.FrA Go.Proofs.YtlocgilgdnhnlaaGreatDoor.FrB

set_option maxRecDepth 100000
/-- a row's data -/
def rowL (S : Fr) (r : Nat) : List UInt8 := (List.range 191).map (S.D r)
/-- rows below i have their parity -/
def frI (S : Fr) (i : Nat) : Fr := { S with D := fun r c => if r < i ∧ 191 ≤ c then (enc (rowL S r)).getD (c - 191) 0 else S.D r c }
def freshS (S : Fr) : Fr := if S.old then { frI S S.R with old := false } else S
theorem frI_zero (S : Fr) : frI S 0 = S := by
  unfold frI
  have h : ∀ r c : Nat, ¬ (r < 0 ∧ 191 ≤ c) := fun r c => by omega
  simp only [h, if_false]
theorem frI_row (S : Fr) (i : Nat) : rowL (frI S i) i = rowL S i := by
  unfold rowL frI
  refine List.map_congr_left (fun c hc => ?_)
  have := List.mem_range.1 hc
  dsimp only
  rw [if_neg (by omega)]
theorem frI_data (S : Fr) (i r c : Nat) (hc : c < 191) : (frI S i).D r c = S.D r c := if_neg (by omega)
theorem byteCells_at (l : List UInt8) (k : Nat) : (Lib.byteCells l)[k]? = (l[k]?).map u8v := by
  unfold Lib.byteCells
  rw [List.getElem?_map]
  rfl
theorem copy_par (w : World) (g R i : Nat) (S : Fr) (h : Fm w g 90 (R * 255) (frF (frI S i))) (hi : i < R) (hS : S.R = R) :
    ∃ w', Fm w' g 90 (R * 255) (frF (frI S (i + 1))) ∧ Kept (fun j => j = g) w w' ∧
      (Builtin.copy_ #[87, 9] 3 #[.slice (some ⟨g, i * 255 + 191, none⟩) 64 64, .string (str (enc (rowL S i)))]).run Tryz.prog w = .ok (goInt 64) w' := by
  obtain ⟨cur, h1, h2, h3⟩ := h
  have hle : (i + 1) * 255 ≤ R * 255 := Nat.mul_le_mul_right _ hi
  have hel : (enc (rowL S i)).length = 64 := enc_len _
  have hr := Lib.run_copy_row_string (P := Tryz.prog) w 87 9 3 5 g (i * 255 + 191) 64 64 (str (enc (rowL S i))) cur 90 Tryz.underlying87 (by kernel_rfl) h1 (by rw [str_size, hel]; exact Nat.le_refl _) (by rw [str_size, hel]; omega)
  rw [str_size, hel, show (str (enc (rowL S i))).data.toList = enc (rowL S i) from rfl] at hr
  have hbl : (Lib.byteCells (enc (rowL S i))).length = 64 := by rw [Lib.byteCells, List.length_map, hel]
  have hts : (cur.toList.take (i * 255 + 191)).length = i * 255 + 191 := by rw [List.length_take, Array.length_toList]; omega
  refine ⟨_, ⟨_, setRow_heap w g cur _ _ _ h1, ?_, fun k hk => ?_⟩, ?_, hr⟩
  · simp [hbl]; omega
  · show _ = some (frF (frI S (i + 1)) k)
    rw [List.getElem?_toArray, List.append_assoc]
    have h3k := h3 k hk
    have hq : k / 255 < R := (Nat.div_lt_iff_lt_mul (by decide)).2 hk
    rcases Nat.lt_or_ge k (i * 255 + 191) with hlo | hlo
    · rw [List.getElem?_append_left (by rw [hts]; exact hlo), List.getElem?_take_of_lt hlo, Array.getElem?_toList, h3k]
      unfold frF frI
      dsimp only
      congr 2
      by_cases hc : k / 255 < i ∧ 191 ≤ k % 255
      · rw [if_pos hc, if_pos (by omega)]
      · rw [if_neg hc, if_neg (by omega)]
    · rw [List.getElem?_append_right (by rw [hts]; exact hlo), hts]
      rcases Nat.lt_or_ge k (i * 255 + 255) with hmi | hmi
      · rw [List.getElem?_append_left (by rw [hbl]; omega), byteCells_at, List.getElem?_eq_getElem (by rw [hel]; omega)]
        unfold frF frI
        dsimp only
        have e1 : k / 255 = i := by omega
        have e2 : k % 255 - 191 = k - (i * 255 + 191) := by omega
        rw [if_pos (by omega), e1, e2, List.getD_eq_getElem?_getD, List.getElem?_eq_getElem (by rw [hel]; omega)]
        rfl
      · rw [List.getElem?_append_right (by rw [hbl]; omega), hbl, List.getElem?_drop, show i * 255 + 191 + 64 + (k - (i * 255 + 191) - 64) = k by omega, Array.getElem?_toList, h3k]
        unfold frF frI
        dsimp only
        congr 2
        rw [if_neg (by omega), if_neg (by omega)]
  · exact ⟨rfl, rfl, rfl, by simp [World.setRow], fun j _ hn => by simp [World.setRow, Array.getElem?_modify, Ne.symm hn]⟩
theorem conv_part {w : World} {t : TypeId} {b off n cap N : Nat} {f : Nat → Value} {F : Nat → UInt8} (h : Fm w b t N f) (hf : ∀ k, k < n → off + k < N ∧ f (off + k) = u8v (F k)) : (convert 87 9 (.slice (some ⟨b, off, none⟩) n cap)).run Tryz.prog w = .ok (.string (str ((List.range n).map F))) w := by
  have := run_convert_bytes_arg (P := Tryz.prog) w 87 5 Tryz.underlying87 Tryz.underlying5 b off n cap ((List.range n).map fun i => ((F i).toNat : Int)) (by simp) (fun i hi => by
    rw [h.cell (off + i) (hf i hi).1, (hf i hi).2]
    simp [u8v, hi]) 9 Tryz.underlying9
  rw [this, nums_str]
  congr 3
  simp
def tm (a : Act) (k : Nat) : Value := a.tmps.getD k undef
def frN (gf i : Nat) (u : Nat → Value) : Act := { tmps := #[.pointer (some ⟨gf, 0, none⟩), u 1, .int .i64 (i : Int), u 3, u 4, u 5, u 6, u 7, u 8, u 9, u 10, u 11, u 12, u 13, u 14, u 15, u 16, u 17, u 18, u 19, u 20, u 21, u 22, u 23, u 24, u 25, u 26, u 27, u 28, u 29, u 30, u 31, u 32, u 33, u 34, u 35, u 36, u 37, u 38, u 39, u 40, u 41, u 42, u 43], defers := [] }
def J0 (w : World) (B gf gr : Nat) (v : Value) (S : Fr) (a : Act) (W : World) : Prop :=
  ∃ (u : Nat → Value) (i : Nat), a = frN gf i u ∧ i ≤ S.R ∧ (S.old = false → i = 0) ∧ FrIn W B gf gr v (frI S i) ∧ Kept (footF gf gr v) w W
theorem j0_intro {w W : World} {B gf gr i : Nat} {v : Value} {S : Fr} {a : Act} (h : a = frN gf i (tm a)) (hi : i ≤ S.R) (h0 : S.old = false → i = 0) (hF : FrIn W B gf gr v (frI S i)) (hK : Kept (footF gf gr v) w W) : J0 w B gf gr v S a W := ⟨tm a, i, h, hi, h0, hF, hK⟩
def num (v : Value) : Nat := match v with | .int _ i => i.toNat | _ => 0
set_option maxHeartbeats 3200000 in
theorem fresh_any (w : World) (B gf gr : Nat) (v : Value) (S : Fr) (h : FrIn w B gf gr v S) (hok : OkF S) :
    Calls Tryz.prog 44 #[.pointer (some ⟨gf, 0, none⟩)] w fun e w' => e = .returned (.tuple #[]) ∧ FrIn w' B gf gr v (freshS S) ∧ Kept (footF gf gr v) w w' := by
  obtain ⟨R, hR⟩ : ∃ R : Ending → World → Prop, R = (fun e w' => e = .returned (.tuple #[]) ∧ FrIn w' B gf gr v (freshS S) ∧ Kept (footF gf gr v) w w') := ⟨_, rfl⟩
  rw [← hR]
  have HR := Lib.hid hR
  have HH := Lib.hid h
  have HN := Lib.hid (And.intro hok.R hok.R0)
  clear hR h hok
  go_enter Tryz.func44, Tryz.ntmps44
  go_wp2_with fail
  refine wp_scope_one 0 (J0 w B gf gr v S) (fun a _ => S.R + 1 - num (a.tmps.getD 2 undef)) rfl ?_ ?_
  · rintro a1 W ⟨u, i, rfl, hi, hi0, hF, hK⟩
    have HF := Lib.hid hF
    have HK := Lib.hid hK
    have c5 := Blk.cell hF.box 5 (v := .slice (some ⟨gr, 0, none⟩) S.R S.R) rfl
    have c6 := Blk.cell hF.box 6 (v := .bool S.old) rfl
    have g6 := Blk.frozen hF.box 6
    have b6 := Blk.set_ hF.box 6 (.bool false)
    have hk6 : Kept (fun j => j = gf) W (W.setCell ⟨gf, 6, none⟩ (.bool false)) := kept_set (F := fun j => j = gf) rfl
    have HE : Hid (FrIn (W.setCell ⟨gf, 6, none⟩ (.bool false)) B gf gr v { frI S i with old := false }) := Lib.hid ⟨b6, RsA.fm_kept hF.rows hk6 (fun e => hF.ne e.symm), own_kept hF.l hk6 (fun j hj e => hF.nt (by rw [hj, e])), hF.ne, hF.nt, hF.nr, hF.bt, hF.br⟩
    have HKE := Lib.hid (hK.trans hk6 (fun j _ e => Or.inl e))
    have HFS := Lib.hid (show freshS S = if S.old then { frI S S.R with old := false } else S from rfl)
    obtain ⟨o, ho⟩ : ∃ o, S.old = o := ⟨_, rfl⟩
    have HO := Lib.hid ho
    rw [ho] at c6 HFS
    unfold frN
    clear hF hK b6 hk6 ho
    have k0 : (0 : Int) ≤ (i : Int) := Int.natCast_nonneg _
    cases o with
    | false =>
      have HI := Lib.hid (hi0 HO.out)
      clear hi0
      go_wp2_with fail
      simp only [Exit.jump]
      go_end0
      rw [HR.out]
      refine ⟨rfl, ?_, HKE.out⟩
      rw [HFS.out, if_neg (by decide)]
      have hE := HE.out
      have hx : ({ frI S i with old := false } : Fr) = S := by
        rw [HI.out, frI_zero]
        cases S
        simp only at HO
        rw [HO.out]
      rw [hx] at hE
      exact hE
    | true =>
      by_cases hin : i < S.R
      · have t0 : ((i : Int) == (S.R : Int)) = false := beq_eq_false_iff_ne.2 (by omega)
        have k1 : (i : Int) < (S.R : Int) := by omega
        have k2 : (S.R : Int) ≤ 1024 := by have := HN.out.1; omega
        have hle : (i + 1) * 255 ≤ S.R * 255 := Nat.mul_le_mul_right _ hin
        have kcv := conv_part (cap := 255) (off := i * 255) (n := 191) (F := S.D i) HF.out.rows (fun k hk => ⟨by show i * 255 + k < S.R * 255; omega, by rw [frF_at _ _ _ (by omega), frI_data S i i k hk]⟩)
        have kEn := fun V => RsA.encode_any (str (rowL S i)) V (by rw [str_size, rowL]; simp)
        rw [bl_str] at kEn
        have HRL := Lib.hid (show (List.range 191).map (S.D i) = rowL S i from rfl)
        rw [HRL.out] at kcv
        obtain ⟨q, hq⟩ : ∃ q, str (rowL S i) = q := ⟨_, rfl⟩
        have HQ := Lib.hid hq
        rw [hq] at kcv kEn
        clear hq hi0 hle
        go_wp2_with fail
        (with_reducible refine (kEn _).mono ?_); rintro e1 W1 ⟨rfl, hb1⟩
        have HF1 := Lib.hid (HF.out.below hb1)
        have HK1 := Lib.hid (HK.out.then (hb1.mono HK.out.size))
        obtain ⟨W2, hr2, hk2, hcp⟩ := copy_par W1 gr S.R i S HF1.out.rows hin rfl
        have HF2 : Hid (FrIn W2 B gf gr v (frI S (i + 1))) := Lib.hid (fr_rows HF1.out hk2 rfl rfl rfl rfl rfl rfl hr2)
        have HK2 := Lib.hid (HK1.out.trans hk2 (fun j _ e => Or.inr (Or.inl e)))
        obtain ⟨z, hz⟩ : ∃ z, str (enc (rowL S i)) = z := ⟨_, rfl⟩
        rw [hz] at hcp ⊢
        clear kEn kcv hb1 hr2 hk2 hz c5 c6 g6
        go_wp2_with fail
        go_step3
        refine ⟨rfl, j0_intro (i := i + 1) (by kernel_rfl) (by omega) (fun e => by rw [HO.out] at e; cases e) HF2.out HK2.out, ?_⟩
        show S.R + 1 - ((i : Int) + 1).toNat < S.R + 1 - ((i : Nat) : Int).toNat
        omega
      · have hiR : i = S.R := by omega
        have t0 : ((i : Int) == (S.R : Int)) = true := by rw [hiR]; simp
        have HI := Lib.hid hiR
        clear hin hiR hi0
        go_wp2_with fail
        simp only [Exit.jump]
        go_end0
        rw [HR.out]
        refine ⟨rfl, ?_, HKE.out⟩
        rw [HFS.out, if_pos trivial, ← HI.out]
        exact HE.out
  · intro b0
    go_wp2_with fail
    go_step3
    rename_i hK
    refine hK _ _ ?_
    exact b0 _ _ (j0_intro (i := 0) (by kernel_rfl) (by omega) (fun _ => rfl) (by rw [frI_zero]; exact HH.out) (Kept.refl _ _))
/-- a column -/
def colS (S : Fr) (n : Nat) : List UInt8 := (List.range S.R).map (fun r => S.D r n)
theorem fresh_R (S : Fr) : (freshS S).R = S.R := by unfold freshS; split <;> rfl
theorem mk_room (R : Nat) (hR : R ≤ 1024) (V : World) : ∃ A : Array Value, (Instr.makeSlice 87 (.int .i64 0) (.int .i64 (R : Int))).run Tryz.prog V = .ok (.slice (some ⟨V.heap.size, 0, none⟩) 0 R) (V.alloc (.cells A 5)) ∧ (V.alloc (.cells A 5)).ownsRow V.heap.size 5 1 (.slice (some ⟨V.heap.size, 0, none⟩) 0 R) 0 (u8s []) := by
  have hinfo : (Tryz.prog.info? 5).map (fun i => (i.zero, i.size, i.bytes)) = some (some (.int .u8 0), 1, 1) := by kernel_rfl
  cases hi : Tryz.prog.info? 5 with
  | none => have h := hinfo; rw [hi] at h; cases h
  | some i =>
    have h := hinfo
    rw [hi] at h
    simp only [Option.map_some, Option.some.injEq, Prod.mk.injEq] at h
    obtain ⟨h1, h2, h3⟩ := h
    have hr := run_make (P := Tryz.prog) V 87 5 i (.int .u8 0) Tryz.underlying87 hi h1 .i64 .i64 0 R (by omega) (by omega) (by rw [h3]; omega) (by omega)
    rw [h2] at hr
    refine ⟨_, hr, rfl, Or.inr ⟨V.heap.size, R, _, rfl, Nat.le_refl _, heap_alloc_new V _, Nat.zero_le _, by unfold maxLen; omega, ?_, rfl⟩⟩
    simp [size_madeCells]
set_option maxHeartbeats 3200000 in
theorem column_any (w : World) (B gf gr n : Nat) (v : Value) (S : Fr) (h : FrIn w B gf gr v S) (hok : OkF S) (hn : 191 ≤ n) (hn2 : n < 255) :
    Calls Tryz.prog 31 #[.pointer (some ⟨gf, 0, none⟩), .int .i64 (n : Int)] w fun e w' => e = .returned (.tuple #[.string (str (colS (freshS S) n)), .int .i64 0]) ∧ FrIn w' B gf gr v (freshS S) ∧ Kept (footF gf gr v) w w' := by
  have kf := fresh_any w B gf gr v S h hok
  have hR := hok.R
  have hRR := fresh_R S
  obtain ⟨S', hS'⟩ : ∃ S', freshS S = S' := ⟨_, rfl⟩
  rw [hS'] at kf hRR ⊢
  rw [← hRR] at hR
  clear hS' hRR hok h
  have t1 : decide ((n : Int) < 0) = false := decide_eq_false (by omega)
  have t2 : decide (255 ≤ (n : Int)) = false := decide_eq_false (by omega)
  have t3 : decide (191 ≤ (n : Int)) = true := decide_eq_true (by omega)
  have n0 : (0 : Int) ≤ (n : Int) := Int.natCast_nonneg _
  have n1 : (n : Int) < 255 := by omega
  have HR := Lib.hid hR
  go_enter Tryz.func31, Tryz.ntmps31
  go_wp2_with fail
  (with_reducible refine (kf).mono ?_); rintro e1 W1 ⟨rfl, hF1, hK1⟩
  obtain ⟨A, hmk, hown0⟩ := mk_room S'.R HR.out W1
  have HF1 := Lib.hid hF1
  have HK1 := Lib.hid hK1
  have c5 := Blk.cell hF1.box 5 (v := .slice (some ⟨gr, 0, none⟩) S'.R S'.R) rfl
  have c5' := Blk.cell (Blk.alloc hF1.box (.cells A 5)) 5 (v := .slice (some ⟨gr, 0, none⟩) S'.R S'.R) rfl
  have hbA := (Below.refl W1.heap.size W1).alloc (Nat.le_refl _) (.cells A 5)
  clear kf hF1 hK1
  go_wp2_with fail
  go_loopw [6, 34] (fun ov iv W => ∃ k : Nat, k ≤ S'.R ∧ iv = .int .i64 k ∧ W.ownsRow W1.heap.size 5 1 ov k (u8s ((List.range k).map (fun r => S'.D r n))) ∧ Below W1.heap.size W1 W) (fun _ iv _ => S'.R - (intOf iv).toNat)
  case atStart => exact ⟨0, by omega, rfl, hown0, hbA⟩
  case round =>
    clear hown0 hbA c5 c5' hmk
    obtain ⟨k, hk, rfl, hown, hb⟩ := hrel
    have k0 : (0 : Int) ≤ (k : Int) := Int.natCast_nonneg _
    by_cases hkn : k < S'.R
    · have t4 : decide ((k : Int) < (S'.R : Int)) = true := decide_eq_true (by omega)
      have t4' : decide (k < S'.R) = true := decide_eq_true hkn
      have hFr := HF1.out.below hb
      have hle : (k + 1) * 255 ≤ S'.R * 255 := Nat.mul_le_mul_right _ hkn
      have d5 := Blk.cell hFr.box 5 (v := .slice (some ⟨gr, 0, none⟩) S'.R S'.R) rfl
      have d6 := hFr.rows.cell (k * 255 + n) (by omega)
      rw [frF_at _ _ _ hn2, u8v] at d6
      have HS := Lib.hid (show u8s ((List.range (k + 1)).map (fun r => S'.D r n)) = u8s ((List.range k).map (fun r => S'.D r n)) ++ [.int .u8 ((S'.D k n).toNat : Int)] by simp [List.range_succ, u8s, u8v])
      obtain ⟨x, hx⟩ : ∃ x, (S'.D k n).toNat = x := ⟨_, rfl⟩
      rw [hx] at d6 HS
      have hb9 := Blk.new wr 5 #[.int .u8 (x : Int)]
      have hown2 := own_below hown ((Below.refl wr.heap.size wr).alloc (Nat.le_refl _) (.cells #[.int .u8 (x : Int)] 5))
      have hsz2 : W1.heap.size ≤ (wr.alloc (.cells #[.int .u8 (x : Int)] 5)).heap.size := by have := hb.size; simp; omega
      have hb2 := hb.alloc hb.size (.cells #[.int .u8 (x : Int)] 5)
      have k1 : (k : Int) < (S'.R : Int) := by omega
      have k2 : (S'.R : Int) ≤ 1024 := by have := HR.out; omega
      clear hown hb hFr hle hx
      go_wp2_with (at_builtin; refine wpList_app rfl _ _ rfl elemB rfl hown2 rfl rfl (blk_news hb9) (by simp [Value.oneCell']) (by omega) (by unfold maxLen; omega) hsz2 ?_)
      intro v9 w8 hown9 hb8
      have hb3 := hb2.trans hb8
      clear hown2 hb9 hb2 hb8
      go_wp2_with fail
      go_roundw
      case rel => exact ⟨k + 1, by omega, by go_num, by rw [HS.out]; exact hown9, hb3⟩
      case measure => simp [intOf]; omega
    · obtain rfl : k = S'.R := by omega
      have t4 : decide ((S'.R : Int) < (S'.R : Int)) = false := decide_eq_false (by omega)
      have t4' : decide (S'.R < S'.R) = false := decide_eq_false (by omega)
      obtain ⟨a1, c1, rfl⟩ := own_form hown
      have kc := own_u8 hown (by simp)
      rw [show (List.range S'.R).map (fun r => S'.D r n) = colS S' n from rfl] at kc
      have HF2 := Lib.hid (HF1.out.below hb)
      have HK2 := Lib.hid (HK1.out.then (hb.mono HK1.out.size))
      clear hown hb
      go_wp2_with fail
      go_ret2
      exact ⟨rfl, HF2.out, HK2.out⟩
theorem fresh_ok {S : Fr} (h : OkF S) : OkF (freshS S) := by
  unfold freshS
  split
  · exact ⟨h.R, h.R0, h.C, h.u, h.n⟩
  · exact h
theorem fresh_two (S : Fr) : freshS (freshS S) = freshS S := by
  have h : (freshS S).old = false := by
    unfold freshS
    split
    · rfl
    · rename_i h; simpa using h
  rw [freshS, if_neg (by rw [h]; decide)]
theorem fresh_K (S : Fr) : (freshS S).K = S.K := by unfold freshS; split <;> rfl
theorem elemPS : Elem Tryz.prog 49 9 1 16 := elem_of Tryz.underlying49 (z := .string ByteArray.empty) (by kernel_rfl) rfl (by decide)
/-- the columns of parity that are sent -/
def parL (S : Fr) (k : Nat) : List ByteArray := (List.range k).map fun i => str (colS (freshS S) (191 + i))
def parS (S : Fr) (k : Nat) : Fr := if k = 0 then S else freshS S
theorem par_ok {S : Fr} (h : OkF S) (k : Nat) : OkF (parS S k) := by
  unfold parS
  split
  · exact h
  · exact fresh_ok h
theorem par_fresh (S : Fr) (k : Nat) : freshS (parS S k) = freshS S := by
  unfold parS
  split
  · rfl
  · exact fresh_two S
theorem par_K (S : Fr) (k : Nat) : (parS S k).K = S.K := by
  unfold parS
  split
  · rfl
  · exact fresh_K S
set_option maxHeartbeats 3200000 in
theorem parity_any (w : World) (B gf gr : Nat) (v : Value) (S : Fr) (h : FrIn w B gf gr v S) (hok : OkF S) (hK64 : S.K ≤ 64) :
    Calls Tryz.prog 15 #[.pointer (some ⟨gf, 0, none⟩)] w fun e w' => FrIn w' B gf gr v (parS S (64 - S.K)) ∧ Kept (footF gf gr v) w w' ∧ ∃ v', e = .returned v' ∧ w'.ownsRow w.heap.size 9 1 v' (64 - S.K) (flat enS (parL S (64 - S.K))) := by
  obtain ⟨R, hR⟩ : ∃ R : Ending → World → Prop, R = (fun e w' => FrIn w' B gf gr v (parS S (64 - S.K)) ∧ Kept (footF gf gr v) w w' ∧ ∃ v', e = .returned v' ∧ w'.ownsRow w.heap.size 9 1 v' (64 - S.K) (flat enS (parL S (64 - S.K)))) := ⟨_, rfl⟩
  rw [← hR]
  have HR := Lib.hid hR
  have HH := Lib.hid h
  have HOK := Lib.hid hok
  have HFT := Lib.hid (FrIn.ge h)
  clear hR h hok
  go_enter Tryz.func15, Tryz.ntmps15
  go_wp2_with fail
  go_loopw [3, 4] (fun ov nv W => ∃ k : Nat, k ≤ 64 - S.K ∧ nv = .int .i64 (191 + (k : Int)) ∧ FrIn W B gf gr v (parS S k) ∧ Kept (footF gf gr v) w W ∧ W.ownsRow w.heap.size 9 1 ov k (flat enS (parL S k))) (fun _ nv _ => 255 - (intOf nv).toNat)
  case atStart => exact ⟨0, by omega, rfl, HH.out, Kept.refl _ _, World.ownsRow_nil _ _ _ _⟩
  case round =>
    obtain ⟨k, hk, rfl, hF, hKe, hown⟩ := hrel
    have k0 : (0 : Int) ≤ (k : Int) := Int.natCast_nonneg _
    have k1 : (k : Int) ≤ 64 := by omega
    have c2 := Blk.cell hF.box 2 (v := .int .i64 ((parS S k).K : Int)) rfl
    rw [par_K] at c2
    have s0 : (0 : Int) ≤ (S.K : Int) := Int.natCast_nonneg _
    have s1 : (S.K : Int) ≤ 64 := by omega
    by_cases hkn : k < 64 - S.K
    · have t0 : decide (191 + (k : Int) < 255 - (S.K : Int)) = true := decide_eq_true (by omega)
      have kc := column_any wr B gf gr (191 + k) v (parS S k) hF (par_ok HOK.out k) (by omega) (by omega)
      rw [par_fresh, show ((191 + k : Nat) : Int) = 191 + (k : Int) by omega] at kc
      have HF := Lib.hid hF
      have HKe := Lib.hid hKe
      have HO := Lib.hid hown
      have HPL := Lib.hid (show flat enS (parL S (k + 1)) = flat enS (parL S k) ++ [.string (str (colS (freshS S) (191 + k)))] by unfold parL flat; rw [List.range_succ, List.map_append, List.flatMap_append]; rfl)
      obtain ⟨q, hq⟩ : ∃ q, str (colS (freshS S) (191 + k)) = q := ⟨_, rfl⟩
      rw [hq] at kc HPL
      clear hF hKe hown hq
      go_wp2_with fail
      (with_reducible refine (kc).mono ?_); rintro e1 W1 ⟨rfl, hF1, hK1⟩
      have hne : ∀ j, u3.ownBlock = some j → ¬ footF gf gr v j := fun j hj hf => by
        have h1 := (HFT.out j hf).2
        have h2 := (HO.out.lt j hj).1
        omega
      have hown1 := own_kept HO.out hK1 hne
      have HF1 : Hid (FrIn W1 B gf gr v (parS S (k + 1))) := Lib.hid (by rw [parS, if_neg (by omega)]; exact hF1)
      have HK1 := Lib.hid (HKe.out.trans hK1 (fun _ _ h => h))
      have hb9 := Blk.new W1 9 #[.string q]
      have hbA := (Below.refl W1.heap.size W1).alloc (Nat.le_refl _) (.cells #[.string q] 9)
      have hown2 := own_below hown1 hbA
      have hsz2 : w.heap.size ≤ (W1.alloc (.cells #[.string q] 9)).heap.size := by have := HK1.out.size; simp; omega
      have HF2 := Lib.hid (HF1.out.below hbA)
      have HK2 := Lib.hid (HK1.out.then (hbA.mono HK1.out.size))
      clear kc hF1 hK1 hne hown1 hbA c2
      go_wp2_with (at_builtin; refine ApG.wpList_appG rfl _ _ rfl elemPS rfl hown2 rfl rfl (blk_news hb9) (by simp [Value.oneCell']) (by omega) (by unfold maxLen; omega) hsz2 ?_)
      intro v9 w8 hown9 hg8 hat8
      have hk8 : Kept (fun j => u3.ownBlock = some j) _ w8 := kept_grown hg8 (fun r e => e)
      have HF3 := Lib.hid (HF2.out.kept hk8 (fun j hf e => by
        have h1 := (HFT.out j hf).2
        have h2 := (HO.out.lt j e).1
        omega))
      have HK3 : Hid (Kept (footF gf gr v) w w8) := Lib.hid ⟨hg8.os.trans HK2.out.os, hg8.tape.trans HK2.out.tape, hg8.output.trans HK2.out.output, Nat.le_trans HK2.out.size hg8.size, fun j hj hn => (hg8.block j (by have := HK2.out.size; omega) (fun e => by have := (HO.out.lt j e.symm).1; omega)).trans (HK2.out.block j hj hn)⟩
      clear hown2 hb9 hg8 hat8 hk8
      go_wp2_with fail
      go_roundw
      case rel => exact ⟨k + 1, by omega, by go_num, HF3.out, HK3.out, by rw [HPL.out]; exact hown9⟩
      case measure => simp [intOf]; omega
    · obtain rfl : k = 64 - S.K := by omega
      have t0 : decide (191 + ((64 - S.K : Nat) : Int) < 255 - (S.K : Int)) = false := decide_eq_false (by omega)
      have HX := Lib.hid (And.intro hF (And.intro hKe hown))
      obtain ⟨m, hm⟩ : ∃ m, 64 - S.K = m := ⟨_, rfl⟩
      rw [hm] at t0 k1 k0 ⊢
      clear hF hKe hown
      go_wp2_with fail
      rw [HR.out]
      exact ⟨HX.out.1, HX.out.2.1, _, rfl, HX.out.2.2⟩
end Go.Proofs.YtlocgilgdnhnlaaGreatDoor.FrC
