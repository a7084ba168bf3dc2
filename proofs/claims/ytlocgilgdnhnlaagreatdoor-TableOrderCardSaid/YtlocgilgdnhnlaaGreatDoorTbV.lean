/- table: a row that is near a word: whole, word. -/
import Derived.Test.YtlocgilgdnhnlaaGreatDoorTbU
import Derived.Test.YtlocgilgdnhnlaaGreatDoorPkM
import Derived.Test.YtlocgilgdnhnlaaGreatDoorFrC
namespace Go.Proofs.YtlocgilgdnhnlaaGreatDoor.TbV
open Go Go.RowKit Go.Proofs.YtlocgilgdnhnlaaGreatDoor.Q Go.Proofs.YtlocgilgdnhnlaaGreatDoor.Mem Go.Proofs.YtlocgilgdnhnlaaGreatDoor.Rg Go.Proofs.YtlocgilgdnhnlaaGreatDoor.Ap Go.Proofs.YtlocgilgdnhnlaaGreatDoor.St Go.Proofs.YtlocgilgdnhnlaaGreatDoor.BiW Go.Proofs.YtlocgilgdnhnlaaGreatDoor.BiG Go.Proofs.YtlocgilgdnhnlaaGreatDoor.Ints Go.Proofs.YtlocgilgdnhnlaaGreatDoor.CrB Go.Proofs.YtlocgilgdnhnlaaGreatDoor.TlS Go.Proofs.YtlocgilgdnhnlaaGreatDoor.TbM Go.Proofs.YtlocgilgdnhnlaaGreatDoor.TbN Go.Proofs.YtlocgilgdnhnlaaGreatDoor.TbQ Go.Proofs.YtlocgilgdnhnlaaGreatDoor.GfP Go.Proofs.YtlocgilgdnhnlaaGreatDoor.PoP Go.Proofs.YtlocgilgdnhnlaaGreatDoor.RsP Go.Proofs.YtlocgilgdnhnlaaGreatDoor.GfA Go.Proofs.YtlocgilgdnhnlaaGreatDoor.PoA Go.Proofs.YtlocgilgdnhnlaaGreatDoor.RsB Go.Proofs.YtlocgilgdnhnlaaGreatDoor.MdA Go.Proofs.YtlocgilgdnhnlaaGreatDoor.MdB Go.Proofs.YtlocgilgdnhnlaaGreatDoor.MdC Go.Proofs.YtlocgilgdnhnlaaGreatDoor.MdP Go.Proofs.YtlocgilgdnhnlaaGreatDoor.MdE

set_option maxRecDepth 100000
/-- a row's bytes -/
def rowB (S : Tb) (r : Nat) : List UInt8 := (List.range 255).map fun c => S.b (c * S.R + r)
theorem rowB_at (S : Tb) (r c : Nat) (h : c < 255) : fa (rowB S r) c = S.b (c * S.R + r) := fa_map 255 _ c h
/-- what is known of a row is a word's -/
structure RowOf (S : Tb) (r : Nat) (cw : List UInt8) : Prop where
  len : cw.length = 255
  word : ∀ j, j < 64 → hr cw (ex j) = 0
  same : ∀ c, c < 255 → S.is (c * S.R + r) = true → S.b (c * S.R + r) = fa cw c
theorem lost_mem (S : Tb) (r c : Nat) : c ∈ lostL S r ↔ c < 255 ∧ S.is (c * S.R + r) = false := by
  unfold lostL lostN
  simp
theorem lost_nodup (S : Tb) (r : Nat) : (lostL S r).Nodup := (List.nodup_range).sublist List.filter_sublist
theorem RowOf.near {S : Tb} {r : Nat} {cw : List UInt8} (h : RowOf S r cw) (hl : (lostL S r).length ≤ 64) : Near (lostL S r) (rowB S r) cw := by
  refine ⟨⟨lost_nodup S r, fun n hn => ((lost_mem S r n).1 hn).1, hl⟩, by simp [rowB], h.len, h.word, fun n hn hm => ?_⟩
  rw [rowB_at S r n hn]
  refine h.same n hn ?_
  cases hb : S.is (n * S.R + r) with
  | true => rfl
  | false => exact absurd ((lost_mem S r n).2 ⟨hn, hb⟩) hm
theorem lost_first {S : Tb} {r x : Nat} {t : List Nat} (h : lostL S r = x :: t) (c : Nat) (hc : c < 255) (hx : c < x) : S.is (c * S.R + r) = true := by
  cases hb : S.is (c * S.R + r) with
  | true => rfl
  | false =>
    have hm := (lost_mem S r c).2 ⟨hc, hb⟩
    have hp : (lostL S r).Pairwise (· < ·) := (List.pairwise_lt_range).sublist List.filter_sublist
    rw [h] at hm hp
    rcases List.mem_cons.1 hm with e | hm
    · omega
    · have := (List.pairwise_cons.1 hp).1 c hm
      omega
/-- the parity of a word's data is its own -/
theorem enc_word {cw : List UInt8} (hl : cw.length = 255) (hw : ∀ j, j < 64 → hr cw (ex j) = 0) : cw.take 191 ++ enc (cw.take 191) = cw := by
  have hn : Near ((List.range 64).map (· + 191)) (cw.take 191 ++ enc (cw.take 191)) cw := by
    refine ⟨⟨?_, fun n hn => ?_, by simp⟩, by rw [List.length_append, enc_len, List.length_take, hl]; rfl, hl, hw, fun n hn hm => ?_⟩
    · exact List.pairwise_map.2 ((List.nodup_range).imp (fun h e => h (by omega)))
    · simp at hn
      omega
    · have h1 : n < 191 := by
        rcases Nat.lt_or_ge n 191 with h | h
        · exact h
        · exact absurd (by simp; exact ⟨n - 191, by omega, by omega⟩) hm
      unfold fa
      rw [List.getD_eq_getElem?_getD, List.getD_eq_getElem?_getD, List.getElem?_append_left (by rw [List.length_take, hl]; omega), List.getElem?_take_of_lt h1]
  exact hn.zero ((isW_iff _).2 (fun j hj => word_ok _ j hj))
theorem RowOf.data {S : Tb} {r : Nat} {cw : List UInt8} (h : RowOf S r cw) (hk : ∀ c, c < 191 → S.is (c * S.R + r) = true) : (List.range 191).map (fun c => S.b (c * S.R + r)) = cw.take 191 := by
  refine List.ext_getElem (by rw [List.length_map, List.length_range, List.length_take, h.len]; rfl) (fun n h1 h2 => ?_)
  have hn : n < 191 := by simpa using h1
  rw [List.getElem_map, List.getElem_range, List.getElem_take, h.same n (by omega) (hk n hn)]
  exact fa_in (List.getElem?_eq_getElem _)
theorem ints_own {W : World} {B n oc : Nat} {oa : Option Addr} {L : List Nat} (h : W.ownsRow B 3 1 (.slice oa n oc) n (ints L)) : Ints W oa (zI L) := fun k x hx => by
  have hw : (ints L)[k]? = some (.int .i64 x) := by
    unfold zI at hx
    rw [List.getElem?_map] at hx
    unfold ints
    rw [List.getElem?_map]
    cases hq : L[k]? with
    | none => rw [hq] at hx; cases hx
    | some m => rw [hq] at hx; injection hx with hx; rw [← hx]; rfl
  have hk := (List.getElem?_eq_some_iff.1 hw).1
  rw [h.1, Nat.mul_one] at hk
  rcases h.2 with ⟨_, h0⟩ | ⟨g, cap, cur, e, _, hg, _⟩
  · omega
  · simp only [Value.slice.injEq, true_and] at e
    obtain ⟨rfl, rfl⟩ := e
    refine ⟨g, 0, rfl, (Array.getElem?_eq_some_iff.1 hg).1, ?_⟩
    rw [Nat.zero_add, h.cellAt k (by omega), hw]
theorem whole_no (w : World) (gr r : Nat) (S : Tb) (a : Option Addr) (c n x : Nat) (t : List Nat) (hl : lostL S r = x :: t) (hx : x < 191) (hn : (lostL S r).length = n) (hI : Ints w a (zI (lostL S r))) :
    Calls Tryz.prog 51 #[.pointer (some ⟨gr, r * 510, none⟩), .slice a n c] w fun e w' => e = .returned (.tuple #[.string ⟨#[]⟩, .bool false]) ∧ w = w' := by
  obtain ⟨b, o, rfl, hlt, hc⟩ := hI 0 x (zI_at (by rw [hl]; rfl))
  rw [Nat.add_zero] at hc
  have n0 : 0 < n := by rw [← hn, hl]; simp
  have t0 : decide ((0 : Int) < (n : Int)) = true := decide_eq_true (by omega)
  have t0' : decide (0 < n) = true := decide_eq_true n0
  have t1 : decide ((x : Int) < 191) = true := decide_eq_true (by omega)
  have n1 : (0 : Int) < (n : Int) := by omega
  clear hl hx hn hI n0
  go_enter Tryz.func51, Tryz.ntmps51
  go_wp2_with fail
  go_ret2
  exact ⟨rfl, rfl⟩
set_option maxHeartbeats 3200000 in
theorem whole_yes (w : World) (B gt gr r : Nat) (v : Value) (S : Tb) (a : Option Addr) (c n x : Nat) (t cw : List _) (h : TbIn w B gt gr v S) (hr : r < S.R) (hG : RowOf S r cw) (hl : lostL S r = x :: t) (hx : 191 ≤ x) (hn : (lostL S r).length = n) (hI : Ints w a (zI (lostL S r))) :
    Calls Tryz.prog 51 #[.pointer (some ⟨gr, r * 510, none⟩), .slice a n c] w fun e w' => e = .returned (.tuple #[.string (str cw), .bool true]) ∧ Below w.heap.size w w' := by
  obtain ⟨b, o, rfl, hlt, hc⟩ := hI 0 x (zI_at (by rw [hl]; rfl))
  rw [Nat.add_zero] at hc
  have n0 : 0 < n := by rw [← hn, hl]; simp
  have t0 : decide ((0 : Int) < (n : Int)) = true := decide_eq_true (by omega)
  have t0' : decide (0 < n) = true := decide_eq_true n0
  have t1 : decide ((x : Int) < 191) = false := decide_eq_false (by omega)
  have n1 : (0 : Int) < (n : Int) := by omega
  have hrr : (r + 1) * 510 ≤ S.R * 510 := Nat.mul_le_mul_right _ hr
  have kcv := FrC.conv_part (cap := 255) (off := r * 510) (n := 191) (F := fun c => S.b (c * S.R + r)) h.rows (fun k hk => ⟨by omega, rowF_b S r k (by omega)⟩)
  rw [hG.data (fun c hc => lost_first hl c (by omega) (by omega))] at kcv
  have kw := RsB.word_any (str (cw.take 191)) w (by rw [str_size, List.length_take, hG.len]; rfl)
  rw [bl_str, enc_word hG.len hG.word] at kw
  have hcs : (str cw).size = 255 := by rw [str_size, hG.len]
  have hcb : bl (str cw) = cw := bl_str cw
  obtain ⟨q, hq⟩ : ∃ q, str (cw.take 191) = q := ⟨_, rfl⟩
  rw [hq] at kcv kw
  have hsame := hG.same
  have HG := Lib.hid (show ∀ k, k < 255 → ∃ y, (bl (str cw))[k]? = some y ∧ (S.is (k * S.R + r) = true → S.b (k * S.R + r) = y) from fun k hk => by
    refine ⟨fa cw k, ?_, hsame k hk⟩
    rw [hcb]
    obtain ⟨y, hy⟩ : ∃ y, cw[k]? = some y := ⟨_, List.getElem?_eq_getElem (by rw [hG.len]; exact hk)⟩
    rw [hy, fa_in hy])
  obtain ⟨cs, hcw⟩ : ∃ cs, str cw = cs := ⟨_, rfl⟩
  rw [hcw] at kw hcs HG ⊢
  have hcs' : ((cs.size : Int) == 255) = true := by rw [hcs]; rfl
  have hcs2 : ((cs.size : Int) != 255) = false := by rw [hcs]; rfl
  have his : ∀ j u, (isRow S r).toList[j]? = some u → w.cell? ⟨gr, r * 510 + 255 + j, none⟩ = some u := fun j u hj => by
    rw [Array.getElem?_toList] at hj
    have hjl : j < 255 := by have := (Array.getElem?_eq_some_iff.1 hj).1; rwa [isRow_size] at this
    rw [isRow_at S r j hjl] at hj
    injection hj with hj
    rw [h.rows.cell (r * 510 + 255 + j) (by omega), rowF_i S r j hjl, hj]
  have hix := fun c hc V => idx_bool (isRow S r) c _ hc (isRow_at S r c hc) V
  have hsz := isRow_size S r
  have hbc : ∀ j, j < 255 → w.cell? ⟨gr, r * 510 + j, none⟩ = some (u8v (S.b (j * S.R + r))) := fun j hj => by
    rw [h.rows.cell (r * 510 + j) (by omega), rowF_b S r j hj]
  have hgr := h.rows.lt
  obtain ⟨C, hC⟩ : ∃ C, isRow S r = C := ⟨_, rfl⟩
  rw [hC] at his hix hsz
  have HIX := Lib.hid hix
  have HBC := Lib.hid hbc
  have HIS := Lib.hid his
  clear h hr hG hl hx hn hI n0 hrr hq hcw hsame hcb hbc hC hix his
  go_enter Tryz.func51, Tryz.ntmps51
  go_wp2_with fail
  (with_reducible refine (kw).mono ?_); rintro e1 W1 ⟨rfl, hb1⟩
  clear kw
  have his1 : ∀ j u, C.toList[j]? = some u → W1.cell? ⟨gr, r * 510 + 255 + j, none⟩ = some u := fun j u hj => (World.cell?_of_block (a := ⟨gr, r * 510 + 255 + j, none⟩) (hb1.block gr hgr)).trans (HIS.out j u hj)
  go_wp2_with (refine wpList_load_part rfl 62 _ rfl gr (r * 510 + 255) rfl C _ his1 Tryz.underlying62 rfl (by rw [hsz]; kernel_rfl) ?_)
  clear his1
  go_wp2_with fail
  go_loopw [39] (fun iv W => ∃ k : Nat, k ≤ 255 ∧ iv = .int .i64 k ∧ Below w.heap.size w W) (fun iv _ => 255 - (intOf iv).toNat)
  case atStart => exact ⟨0, by omega, rfl, hb1⟩
  case round =>
    clear hb1
    obtain ⟨k, hk, rfl, hb⟩ := hrel
    have k0 : (0 : Int) ≤ (k : Int) := Int.natCast_nonneg _
    by_cases hkn : k < 255
    · have t2 : decide ((k : Int) < 255) = true := decide_eq_true (by omega)
      have k1 : (k : Int) < 255 := by omega
      have hi := HIX.out k hkn
      obtain ⟨y, hy, hsy⟩ := HG.out k hkn
      have iy := ix_of hy
      cases hz : S.is (k * S.R + r) with
      | false =>
        rw [hz] at hi
        clear hsy hy iy
        go_wp2_with fail
        refine Go.Proofs.YtlocgilgdnhnlaaGreatDoor.Q.region_ext (by kernel_rfl) (by kernel_rfl) ?_
        repeat (go_big_quiet_step (fail))
        refine wpQuiet_nil ?_
        rintro w9 ⟨pq, rfl⟩
        have hb9 := hb.trans ((below_ext wr pq).mono hb.size)
        clear hb
        go_wp2_with fail
        go_roundw
        case rel => exact ⟨k + 1, by omega, by go_num, hb9⟩
        case measure => simp [intOf]; omega
      | true =>
        rw [hz] at hi
        have c0 := fun p => (World.cell?_of_block (w := w) (a := ⟨gr, r * 510 + k, none⟩) ((hb.trans ((below_ext wr p).mono hb.size)).block gr hgr)).trans (HBC.out k hkn)
        rw [hsy hz, u8v] at c0
        clear hsy hy
        go_wp2_with fail
        refine Go.Proofs.YtlocgilgdnhnlaaGreatDoor.Q.region_ext (by kernel_rfl) (by kernel_rfl) ?_
        repeat (go_big_quiet_step (fail))
        refine wpQuiet_nil ?_
        rintro w9 ⟨pq, rfl⟩
        have hb9 := hb.trans ((below_ext wr pq).mono hb.size)
        clear hb c0
        go_wp2_with fail
        go_roundw
        case rel => exact ⟨k + 1, by omega, by go_num, hb9⟩
        case measure => simp [intOf]; omega
    · obtain rfl : k = 255 := by omega
      have t2 : decide (((255 : Nat) : Int) < 255) = false := by decide
      go_wp2_with fail
      go_ret2
      exact ⟨rfl, hb⟩
theorem word_row (w : World) (B gt gr r : Nat) (v : Value) (S : Tb) (a : Option Addr) (c n : Nat) (cw : List UInt8) (h : TbIn w B gt gr v S) (hr : r < S.R) (hG : RowOf S r cw) (hn : (lostL S r).length = n) (hI : Ints w a (zI (lostL S r))) (h0 : 0 < n) (h64 : n ≤ 64) :
    Calls Tryz.prog 38 #[.pointer (some ⟨gr, r * 510, none⟩), .slice a n c] w fun e w' => e = .returned (.tuple #[.string (str cw), .bool true]) ∧ Below w.heap.size w w' := by
  obtain ⟨x, t, hl⟩ : ∃ x t, lostL S r = x :: t := by
    cases hq : lostL S r with
    | nil => rw [hq] at hn; simp at hn; omega
    | cons x t => exact ⟨x, t, rfl⟩
  rcases Nat.lt_or_ge x 191 with hx | hx
  · have kw := whole_no w gr r S a c n x t hl hx hn hI
    have hN := hG.near (by omega)
    have hrr : (r + 1) * 510 ≤ S.R * 510 := Nat.mul_le_mul_right _ hr
    have kcv := FrC.conv_part (cap := 255) (off := r * 510) (n := 255) (F := fun c => S.b (c * S.R + r)) h.rows (fun k hk => ⟨by omega, rowF_b S r k (by omega)⟩)
    rw [show (List.range 255).map (fun c => S.b (c * S.R + r)) = rowB S r from rfl] at kcv
    have km := MdE.word_any w (str (rowB S r)) a c n (lostL S r) cw (by rw [bl_str]; exact hN) hn hI
    obtain ⟨q, hq⟩ : ∃ q, str (rowB S r) = q := ⟨_, rfl⟩
    rw [hq] at kcv km
    obtain ⟨cs, hcw⟩ : ∃ cs, str cw = cs := ⟨_, rfl⟩
    rw [hcw] at km ⊢
    clear h hr hG hl hx hn hI hN hrr hq hcw
    go_enter Tryz.func38, Tryz.ntmps38
    go_wp2_with fail
    (with_reducible refine (kw).mono ?_); rintro e1 W1 ⟨rfl, rfl⟩
    clear kw
    go_wp2_with fail
    (with_reducible refine (km).mono ?_); rintro e2 W2 ⟨⟨v2, rfl⟩, hb2⟩
    clear km
    go_wp2_with fail
    go_ret2
    exact ⟨rfl, hb2⟩
  · have kw := whole_yes w B gt gr r v S a c n x t cw h hr hG hl hx hn hI
    obtain ⟨cs, hcw⟩ : ∃ cs, str cw = cs := ⟨_, rfl⟩
    rw [hcw] at kw ⊢
    clear h hr hG hl hx hn hI hcw
    go_enter Tryz.func38, Tryz.ntmps38
    go_wp2_with fail
    (with_reducible refine (kw).mono ?_); rintro e1 W1 ⟨rfl, hb1⟩
    clear kw
    go_wp2_with fail
    go_ret2
    exact ⟨rfl, hb1⟩
end Go.Proofs.YtlocgilgdnhnlaaGreatDoor.TbV
