/- section: Split. -/
import Derived.Test.YtpigkccfepmmgaaSeE
import Derived.Test.YtpigkccfepmmgaaSeEq
import Derived.Deep.RegionHeld3
namespace Go.Proofs.Ytpigkccfepmmgaa.SpA
open Go Go.RowKit Go.Proofs.Ytpigkccfepmmgaa.Q Go.Proofs.Ytpigkccfepmmgaa.Mem Go.Proofs.Ytpigkccfepmmgaa.Rg Go.Proofs.Ytpigkccfepmmgaa.Ap Go.Proofs.Ytpigkccfepmmgaa.St Go.Proofs.Ytpigkccfepmmgaa.SeA Go.Proofs.Ytpigkccfepmmgaa.SeE Go.Proofs.Ytpigkccfepmmgaa.SeEq

/-- a section's cells -/
def enSc (s : Sc) : List Value := s.vals.toList
theorem enSc_len (s : Sc) : (enSc s).length = 8 := rfl
theorem elemTS : Elem Try.prog 36 23 8 72 := elem_of Try.underlying36 (z := .agg #[.int .i64 0, .bool false, .int .i64 0, .int .i64 0, .bool false, .int .i64 0, .int .i64 0, .string nob]) (by kernel_rfl) rfl (by decide)
/-- how many parts; a part -/
def many (n : Nat) : Nat := max 1 ((n + 4083) / 4084)
def part (b : ByteArray) (i : Nat) : ByteArray := b.extract (4084 * i) (min (4084 * (i + 1)) b.size)
def secS (t e v : Int) (b : ByteArray) (i : Nat) : Sc := ⟨t, false, e, v, true, (i : Int), (many b.size : Int) - 1, part b i⟩
def splRng (t e v : Int) : Prop := (0 ≤ t ∧ t ≤ 255) ∧ (0 ≤ e ∧ e ≤ 65535) ∧ (0 ≤ v ∧ v ≤ 31)
instance (t e v : Int) : Decidable (splRng t e v) := by unfold splRng; infer_instance
def splE (t e v : Int) (b : ByteArray) : Int := if 256 < many b.size then 17 else if splRng t e v then 0 else 15
def splL (t e v : Int) (b : ByteArray) : List Sc := if splE t e v b = 0 then (List.range (many b.size)).map (secS t e v b) else []
theorem part_size (b : ByteArray) (i : Nat) : (part b i).size ≤ 4084 := by unfold part; rw [ByteArray.size_extract]; omega
theorem many_pos (n : Nat) : 1 ≤ many n := by unfold many; omega
theorem many_le (n : Nat) : n ≤ 4084 * many n := by unfold many; omega
theorem many_lt {n k : Nat} (h : k < many n) : 4084 * k ≤ n ∧ (0 < k → 4084 * k < n) := by unfold many at h; omega
theorem sec_chk {t e v : Int} {b : ByteArray} {i : Nat} (hi : i < many b.size) (hm : many b.size ≤ 256) : (secS t e v b i).chk = if splRng t e v then 0 else 15 := by
  by_cases h : splRng t e v
  · rw [if_pos h]
    obtain ⟨h1, h2, h3⟩ := h
    refine chk_ok ?_ ?_
    · unfold Sc.ok secS; dsimp only; omega
    · have := part_size b i; show ¬ 4084 < (part b i).size; omega
  · rw [if_neg h]
    refine chk_no (fun hk => h ?_)
    unfold Sc.ok secS at hk
    exact ⟨hk.1, hk.2.1, hk.2.2.1⟩
theorem infoTS : (Try.prog.info? 23).map (fun i => (i.zero, i.size, i.bytes)) = some (some (.agg #[.int .i64 0, .bool false, .int .i64 0, .int .i64 0, .bool false, .int .i64 0, .int .i64 0, .string nob]), 8, 72) := by kernel_rfl
theorem sizeU8 (V : World) : (sizeOf 5).run Try.prog V = .ok 1 V := Try.sizeOf5 V
theorem elemU8 : Try.prog.elem 54 = 5 := by kernel_rfl
theorem und8 : Try.prog.underlying 54 = some (.slice (Try.prog.elem 54)) := by kernel_rfl
theorem add_off (g o n : Nat) : (⟨g, o, none⟩ : Addr).add n = ⟨g, o + n, none⟩ := by unfold Addr.add; split <;> simp_all
theorem cut_hm (g o L C n : Nat) (h : n ≤ C) (V : World) : (Instr.slice 54 (.slice (some ⟨g, o, none⟩) L C) none (some (.int .i64 (n : Int))) (some (.int .i64 (n : Int)))).run Try.prog V = .ok (.slice (some ⟨g, o, none⟩) n n) V := by
  rw [run_slice_hm V 54 _ L C und8 .i64 .i64 n n (by omega) (Int.le_refl _) (by omega), elemU8, sizeU8]
  simp only [Result.andThen, Int.toNat_natCast, sliced, Nat.zero_mul, Nat.sub_zero]
  split <;> simp [add_off]
theorem cut_l (g o L C n : Nat) (h : n ≤ L) : ∃ R, (∀ V : World, (Instr.slice 54 (.slice (some ⟨g, o, none⟩) L C) (some (.int .i64 (n : Int))) none none).run Try.prog V = .ok R V) ∧ (n < C → R = .slice (some ⟨g, o + n, none⟩) (L - n) (C - n)) := by
  refine ⟨sliced (some ⟨g, o, none⟩) n L C 1, fun V => ?_, fun hc => ?_⟩
  · rw [run_slice_l V 54 _ L C und8 .i64 n (by omega) (by omega), elemU8, sizeU8]
    simp only [Result.andThen, Int.toNat_natCast]
  · simp only [sliced]
    rw [if_neg (by omega)]
    simp [add_off]
/-- a part of some bytes in memory, as a string -/
theorem conv_part {W : World} {b : ByteArray} {g k n L c : Nat} (hL : L = b.size - 4084 * k) (hk : 4084 * k ≤ b.size) (hn : n = min L 4084) (h : ∀ j, j < b.size → W.cell? ⟨g, j, none⟩ = some (.int .u8 (at' b j))) :
    (convert 54 9 (.slice (some ⟨g, 4084 * k, none⟩) n c)).run Try.prog W = .ok (.string (part b k)) W := by
  have hl : (bl (part b k)).length = n := by rw [bl_len]; unfold part; rw [ByteArray.size_extract]; omega
  have := run_convert_bytes_back (P := Try.prog) W 54 9 5 ⟨g, 4084 * k, none⟩ c (bl (part b k)) Try.underlying54 Try.underlying5 Try.underlying9 (fun j hj => by
    rw [add_off, h _ (by omega)]
    have hb : (bl (part b k))[j]? = (bl b)[4084 * k + j]? := by
      unfold part
      rw [ext_bl, List.getElem?_take_of_lt (by omega), List.getElem?_drop]
    rw [List.getElem?_eq_getElem hj] at hb
    rw [at_of hb.symm])
  rw [hl] at this
  have e : (⟨(bl (part b k)).toArray⟩ : ByteArray) = part b k := str_bl _
  rw [this, e]
theorem own_cap {w : World} {B n c sz : Nat} {e : TypeId} {a : Option Addr} {xs : List Value} (h : w.ownsRow B e sz (.slice a n c) n xs) : n ≤ c := by
  rcases h.2 with ⟨e1, e2⟩ | ⟨g, cap, cur, e1, h1, _⟩
  · omega
  · simp only [Value.slice.injEq, true_and] at e1
    obtain ⟨_, rfl⟩ := e1
    omega
set_option maxRecDepth 100000
set_option maxHeartbeats 1600000 in
theorem split_go (t e v : Int) (b : ByteArray) (w : World) (hs : b.size ≤ 1099511627776) (hm : ¬ 256 < many b.size) :
    Calls Try.prog 16 #[.int .i64 t, .int .i64 e, .int .i64 v, .string b] w fun e' w' => (∃ a n c, e' = .returned (.tuple #[.slice a n c, .int .i64 (splE t e v b)]) ∧ (splL t e v b).length = n ∧ Seq enSc 8 w' a (splL t e v b) ∧ (∀ r, a = some r → ∃ g o, r = ⟨g, o, none⟩) ∧ (a = none → n = 0 ∧ c = 0) ∧ n ≤ c) ∧ Below w.heap.size w w' := by
  obtain ⟨M, hMe⟩ : ∃ M, many b.size = M := ⟨_, rfl⟩
  have hmx : ∀ (ts : Array TypeId) (ty : TypeId) (V : World), (Builtin.max_ ts ty #[.int .i64 1, .int .i64 (((b.size : Int) + 4084 - 1) / 4084)]).run Try.prog V = .ok (.int .i64 (M : Int)) V := fun ts ty V => by
    rw [run_max_int2]
    congr 2
    rw [← hMe]
    unfold many
    split <;> omega
  rw [hMe] at hm
  have t1 : decide ((256 : Int) < (M : Int)) = false := by simp; omega
  have z1 : (b.size : Int) ≤ 1099511627776 := by omega
  have z0 : (0 : Int) ≤ (M : Int) := by omega
  have hconv := fun (w : World) (s : ByteArray) => run_bytes_of_string w 9 54 5 s Try.underlying9 Try.underlying54 Try.underlying5
  go_enter Try.func16, Try.ntmps16
  go_wp2_with fail
  generalize hcg : grownCap w b.size 0 5 = cap
  have hcap : b.size ≤ cap := by rw [← hcg]; exact grownCap_ge _ _ _ _
  have hbig : cap ≤ 9223372036854775807 := by rw [← hcg]; exact grownCap_le_maxLen _ _ _ _ (by unfold maxLen; omega)
  refine wp_gen (fun W => (∀ j, j < b.size → W.cell? ⟨w.heap.size, j, none⟩ = some (.int .u8 (at' b j))) ∧ Below w.heap.size w W ∧ w.heap.size < W.heap.size) ⟨fun j hj => ?_, ((Below.refl _ _).alloc (Nat.le_refl _) _).drew, by simp⟩ ?_
  · show World.cell? (w.alloc _) _ = _
    rw [World.cell?_alloc_mark, bytesRow_at _ _ _ hj]
    unfold at'
    rw [Array.getElem?_eq_getElem hj]; rfl
  rintro W0 ⟨hbytes, hbe, hsz⟩
  have HBY := Lib.hid hbytes
  have HBE := Lib.hid hbe
  have HM := Lib.hid hMe
  obtain ⟨i0, hi, hz0, hz1, hz2⟩ := info_parts infoTS
  clear hcg hmx hconv hbytes hbe hMe
  go_loopw [11, 12, 28] (fun rest out i wr => ∃ k : Nat, k ≤ M ∧ i = .int .i64 k ∧ (k < M → rest = .slice (some ⟨w.heap.size, 4084 * k, none⟩) (b.size - 4084 * k) (cap - 4084 * k)) ∧ wr.ownsRow W0.heap.size 23 8 out k (flat enSc ((List.range k).map (secS t e v b))) ∧ Below W0.heap.size W0 wr ∧ (0 < k → splRng t e v)) (fun _ _ i _ => M - (intOf i).toNat)
  case atStart => exact ⟨0, by omega, rfl, fun _ => by simp, World.ownsRow_nil _ _ _ _, Below.refl _ _, fun h => by omega⟩
  case round =>
    obtain ⟨k, hk, rfl, hrest, hown, hb, hpos⟩ := hrel
    by_cases hkM : k < M
    · have t2 : decide (k < M) = true := by simpa using hkM
      obtain rfl := hrest hkM
      have hml := many_lt (n := b.size) (k := k) (by rw [HM.out]; exact hkM)
      obtain ⟨L, hL⟩ : ∃ L, b.size - 4084 * k = L := ⟨_, rfl⟩
      obtain ⟨C, hC⟩ : ∃ C, cap - 4084 * k = C := ⟨_, rfl⟩
      rw [hL, hC]
      have hLC : L ≤ C := by omega
      obtain ⟨n, hn⟩ : ∃ n, min L 4084 = n := ⟨_, rfl⟩
      have hmn : ∀ (ts : Array TypeId) (ty : TypeId) (V : World), (Builtin.min_ ts ty #[.int .i64 (L : Int), .int .i64 4084]).run Try.prog V = .ok (.int .i64 (n : Int)) V := fun ts ty V => by
        rw [run_min_int2]
        congr 2
        split <;> omega
      have hs1 := fun V => cut_hm w.heap.size (4084 * k) L C n (by omega) V
      obtain ⟨R, hs2, hR⟩ := cut_l w.heap.size (4084 * k) L C n (by omega)
      have hcv := conv_part (W := wr) (c := n) hL.symm (by omega) hn.symm (fun j hj => (hb.cell (p := ⟨w.heap.size, j, none⟩) hsz).trans (HBY.out j hj))
      have hck := sec_chk (t := t) (e := e) (v := v) (b := b) (i := k) (by rw [HM.out]; exact hkM) (by rw [HM.out]; omega)
      have kc := fun V => check_any (secS t e v b k) V
      rw [hck] at kc
      have hsec : secS t e v b k = ⟨t, false, e, v, true, (k : Int), (M : Int) - 1, part b k⟩ := by unfold secS; rw [HM.out]
      rw [hsec] at kc
      unfold Sc.vals at kc
      dsimp only at kc
      obtain ⟨X, hX⟩ : ∃ X, part b k = X := ⟨_, rfl⟩
      rw [hX] at hcv kc hsec
      have HSEC := Lib.hid hsec
      have hRn : k + 1 < M → R = .slice (some ⟨w.heap.size, 4084 * (k + 1), none⟩) (b.size - 4084 * (k + 1)) (cap - 4084 * (k + 1)) := fun h1 => by
        have h2 := many_lt (n := b.size) (k := k + 1) (by rw [HM.out]; exact h1)
        have h3 := h2.2 (by omega)
        rw [hR (by omega), show 4084 * k + n = 4084 * (k + 1) by omega, show L - n = b.size - 4084 * (k + 1) by omega, show C - n = cap - 4084 * (k + 1) by omega]
      have HRN := Lib.hid hRn
      have HB := Lib.hid hb
      have hbs := hb.size
      have HP := Lib.hid hpos
      clear hrest hml hL hC hLC hn hR hck hsec hX hRn hb hpos
      by_cases hr : splRng t e v
      · rw [if_pos hr] at kc
        have HR := Lib.hid hr
        clear hr
        go_wp2_with fail
        (with_reducible refine (kc _).mono ?_); rintro e1 W1 ⟨rfl, hb1⟩
        have hB1 := (bk1 wr 23 #[.int .i64 t, .bool false, .int .i64 e, .int .i64 v, .bool true, .int .i64 (k : Int), .int .i64 ((M : Int) - 1), .string X]).below hb1
        have HB1 := Lib.hid hB1
        have hown1 := own_below hown hB1.be
        have c0 := Blk.cell (HB1.out.nth 0 rfl) 0 (v := .int .i64 t) rfl
        have c1 := Blk.cell (HB1.out.nth 0 rfl) 1 (v := .bool false) rfl
        have c2 := Blk.cell (HB1.out.nth 0 rfl) 2 (v := .int .i64 e) rfl
        have c3 := Blk.cell (HB1.out.nth 0 rfl) 3 (v := .int .i64 v) rfl
        have c4 := Blk.cell (HB1.out.nth 0 rfl) 4 (v := .bool true) rfl
        have c5 := Blk.cell (HB1.out.nth 0 rfl) 5 (v := .int .i64 (k : Int)) rfl
        have c6 := Blk.cell (HB1.out.nth 0 rfl) 6 (v := .int .i64 ((M : Int) - 1)) rfl
        have c7 := Blk.cell (HB1.out.nth 0 rfl) 7 (v := .string X) rfl
        have hz1s := HB1.out.size
        have hlt1 := HB1.out.lt 0 rfl
        have hne : u12.ownBlock ≠ some wr.heap.size := fun er => by have := (hown.lt _ er).2; omega
        have hsz1 : W0.heap.size ≤ W1.heap.size := by omega
        clear hB1 hb1 hmn hs1 hcv kc hz1s
        go_wp2_with fail
        go_region_held3 (fun w' => w'.cell? ⟨wr.heap.size, 0, none⟩ = some (.int .i64 t) ∧ w'.cell? ⟨wr.heap.size, 1, none⟩ = some (.bool false) ∧ w'.cell? ⟨wr.heap.size, 2, none⟩ = some (.int .i64 e) ∧ w'.cell? ⟨wr.heap.size, 3, none⟩ = some (.int .i64 v) ∧ w'.cell? ⟨wr.heap.size, 4, none⟩ = some (.bool true) ∧ w'.cell? ⟨wr.heap.size, 5, none⟩ = some (.int .i64 (k : Int)) ∧ w'.cell? ⟨wr.heap.size, 6, none⟩ = some (.int .i64 ((M : Int) - 1)) ∧ w'.cell? ⟨wr.heap.size, 7, none⟩ = some (.string X))
          (first
            | go_keep
            | (go_split_ands
               refine ⟨?_, ?_, ?_, ?_, ?_, ?_, ?_, ?_⟩
               · (rw [hgrow.cell_far _ (by simp; omega) (Ne.symm hne)]; assumption)
               · (rw [hgrow.cell_far _ (by simp; omega) (Ne.symm hne)]; assumption)
               · (rw [hgrow.cell_far _ (by simp; omega) (Ne.symm hne)]; assumption)
               · (rw [hgrow.cell_far _ (by simp; omega) (Ne.symm hne)]; assumption)
               · (rw [hgrow.cell_far _ (by simp; omega) (Ne.symm hne)]; assumption)
               · (rw [hgrow.cell_far _ (by simp; omega) (Ne.symm hne)]; assumption)
               · (rw [hgrow.cell_far _ (by simp; omega) (Ne.symm hne)]; assumption)
               · (rw [hgrow.cell_far _ (by simp; omega) (Ne.symm hne)]; assumption)))
          ((refine step_append_lies _ (by rfl) _ _ _ (by rfl) W0.heap.size 23 i0 _ 8 72 Try.underlying36 hi hz0 hz1 hz2 rfl (by omega) u12 k (flat enSc ((List.range k).map (secS t e v b))) (by rfl) ((hown1.alloc _).drew) ⟨W1.heap.size, 0, none⟩ 1 1 [.int .i64 t, .bool false, .int .i64 e, .int .i64 v, .bool true, .int .i64 (k : Int), .int .i64 ((M : Int) - 1), .string X] (by rfl) (by rfl) (World.news_of_block (cs := #[.int .i64 t, .bool false, .int .i64 e, .int .i64 v, .bool true, .int .i64 (k : Int), .int .i64 ((M : Int) - 1), .string X]) (t := 23) (fr := (0, 0)) (heap_alloc_new W1 _)) (by simp [Value.oneCell']) (by omega) (by unfold maxLen; omega) (by omega) (by simp; omega) (W1.heap.size + 1) (by simp) ?_; intro gg cap' w1 hown2 hgrow hat hlt2))
        have hown3 : w1.ownsRow W0.heap.size 23 8 (.slice (some ⟨gg, 0, none⟩) (k + 1) cap') (k + 1) (flat enSc ((List.range (k + 1)).map (secS t e v b))) := by
          rw [List.range_succ, List.map_append, flat_app, List.map_singleton, HSEC.out]; exact hown2
        have hb3 : Below W0.heap.size W0 w1 := HB.out.trans ((HB1.out.be.mono hbs).trans ((below_drewN ((Below.refl W0.heap.size W1).alloc hsz1 _) 1).grown hgrow (by simp; omega) (fun r er => (hown1.lt r er).1)))
        have HF := Lib.hid (And.intro hown3 hb3)
        clear hown hown1 hown2 hgrow hat hlt2 hown3 hb3 c0 c1 c2 c3 c4 c5 c6 c7 hs2
        go_wp2_with fail
        go_roundw
        case rel => exact ⟨k + 1, by omega, by go_num, HRN.out, HF.out.1, HF.out.2, fun _ => HR.out⟩
        case measure => simp [intOf]; omega
      · rw [if_neg hr] at kc
        have hE : splE t e v b = 15 := by unfold splE; rw [HM.out, if_neg hm, if_neg hr]
        have HE := Lib.hid (show splE t e v b = 15 ∧ splL t e v b = [] from ⟨hE, by unfold splL; rw [if_neg (by rw [hE]; decide)]⟩)
        clear hr hE
        go_wp2_with fail
        (with_reducible refine (kc _).mono ?_); rintro e1 W1 ⟨rfl, hb1⟩
        have hB1 := (bk1 wr 23 #[.int .i64 t, .bool false, .int .i64 e, .int .i64 v, .bool true, .int .i64 (k : Int), .int .i64 ((M : Int) - 1), .string X]).below hb1
        have hEnd : Below w.heap.size w W1 := HBE.out.trans ((HB.out.mono HBE.out.size).trans (hB1.be.mono (by have := HBE.out.size; omega)))
        clear hB1 hb1 hmn hs1 hs2 hcv kc
        go_wp2_with fail
        go_ret2
        exact ⟨⟨none, 0, 0, by rw [HE.out.1]; rfl, by rw [HE.out.2]; rfl, by rw [HE.out.2]; exact Seq.nil, (fun r h => by cases h), (fun _ => ⟨rfl, rfl⟩), Nat.le_refl _⟩, hEnd⟩
    · obtain rfl : k = M := by omega
      have t2 : decide (k < k) = false := by simp
      have hr : splRng t e v := hpos (by have := many_pos b.size; rw [HM.out] at this; omega)
      have hE : splE t e v b = 0 := by unfold splE; rw [HM.out, if_neg hm, if_pos hr]
      have HE := Lib.hid (show splE t e v b = 0 ∧ splL t e v b = (List.range k).map (secS t e v b) from ⟨hE, by unfold splL; rw [if_pos hE, HM.out]⟩)
      obtain ⟨a', c', rfl⟩ := own_form hown
      have hS := own_seq enSc_len hown (by simp)
      have hk1 : 0 < k := by have := many_pos b.size; rw [HM.out] at this; omega
      have hform := hown.form hk1
      have HEnd := Lib.hid (HBE.out.trans (hb.mono HBE.out.size))
      have HS := Lib.hid (And.intro hS hform)
      have HCP := Lib.hid (own_cap hown)
      clear hS hform hown hb hr hE hrest hpos
      go_wp2_with fail
      go_ret2
      refine ⟨⟨a', k, c', by rw [HE.out.1]; rfl, by rw [HE.out.2]; simp, by rw [HE.out.2]; exact HS.out.1, fun r h => ?_, fun h => ?_, HCP.out⟩, HEnd.out⟩
      · obtain ⟨g, cp, h1, _⟩ := HS.out.2
        simp at h1
        rw [h] at h1; simp at h1
        exact ⟨g, 0, h1.1⟩
      · obtain ⟨g, cp, h1, _⟩ := HS.out.2
        rw [h] at h1; simp at h1
theorem split_any (t e v : Int) (b : ByteArray) (w : World) (hs : b.size ≤ 1099511627776) :
    Calls Try.prog 16 #[.int .i64 t, .int .i64 e, .int .i64 v, .string b] w fun e' w' => (∃ a n c, e' = .returned (.tuple #[.slice a n c, .int .i64 (splE t e v b)]) ∧ (splL t e v b).length = n ∧ Seq enSc 8 w' a (splL t e v b) ∧ (∀ r, a = some r → ∃ g o, r = ⟨g, o, none⟩) ∧ (a = none → n = 0 ∧ c = 0) ∧ n ≤ c) ∧ Below w.heap.size w w' := by
  by_cases hm : 256 < many b.size
  · have hE : splE t e v b = 17 := by unfold splE; rw [if_pos hm]
    have HE := Lib.hid (show splE t e v b = 17 ∧ splL t e v b = [] from ⟨hE, by unfold splL; rw [if_neg (by rw [hE]; decide)]⟩)
    obtain ⟨M, hMe⟩ : ∃ M, many b.size = M := ⟨_, rfl⟩
    have hmx : ∀ (ts : Array TypeId) (ty : TypeId) (V : World), (Builtin.max_ ts ty #[.int .i64 1, .int .i64 (((b.size : Int) + 4084 - 1) / 4084)]).run Try.prog V = .ok (.int .i64 (M : Int)) V := fun ts ty V => by
      rw [run_max_int2]
      congr 2
      rw [← hMe]
      unfold many
      split <;> omega
    rw [hMe] at hm
    have t1 : decide ((256 : Int) < (M : Int)) = true := by simp; omega
    have z1 : (b.size : Int) ≤ 1099511627776 := by omega
    clear hE hMe hm
    go_enter Try.func16, Try.ntmps16
    go_wp2_with fail
    go_ret2
    exact ⟨⟨none, 0, 0, by rw [HE.out.1]; rfl, by rw [HE.out.2]; rfl, by rw [HE.out.2]; exact Seq.nil, (fun r h => by cases h), (fun _ => ⟨rfl, rfl⟩), Nat.le_refl _⟩, Below.refl _ _⟩
  · exact split_go t e v b w hs hm
end Go.Proofs.Ytpigkccfepmmgaa.SpA
