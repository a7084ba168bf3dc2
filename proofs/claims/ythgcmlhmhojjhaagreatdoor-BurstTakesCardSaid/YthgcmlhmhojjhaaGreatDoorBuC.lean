/- frame: Used; burst: grams (a frame's datagrams as sections). -/
import Derived.Test.YthgcmlhmhojjhaaGreatDoorPkW
import Derived.Test.YthgcmlhmhojjhaaGreatDoorPkN
import Derived.Test.YthgcmlhmhojjhaaGreatDoorApG
import Derived.Test.YthgcmlhmhojjhaaGreatDoorPkB
namespace Go.Proofs.YthgcmlhmhojjhaaGreatDoor.BuC
open Go Go.RowKit Go.Proofs.YthgcmlhmhojjhaaGreatDoor.Q Go.Proofs.YthgcmlhmhojjhaaGreatDoor.Mem Go.Proofs.YthgcmlhmhojjhaaGreatDoor.Rg Go.Proofs.YthgcmlhmhojjhaaGreatDoor.Ap Go.Proofs.YthgcmlhmhojjhaaGreatDoor.St Go.Proofs.YthgcmlhmhojjhaaGreatDoor.CrB Go.Proofs.YthgcmlhmhojjhaaGreatDoor.TmA Go.Proofs.YthgcmlhmhojjhaaGreatDoor.DgP Go.Proofs.YthgcmlhmhojjhaaGreatDoor.DgA Go.Proofs.YthgcmlhmhojjhaaGreatDoor.DgC Go.Proofs.YthgcmlhmhojjhaaGreatDoor.MpA Go.Proofs.YthgcmlhmhojjhaaGreatDoor.FrA Go.Proofs.YthgcmlhmhojjhaaGreatDoor.FrB

set_option maxRecDepth 100000
theorem used_any (w : World) (B gf gr : Nat) (v : Value) (S : Fr) (h : FrIn w B gf gr v S) : Calls Tryz.prog 16 #[.pointer (some ⟨gf, 0, none⟩)] w fun e w' => e = .returned (.int .i64 (S.used : Int)) ∧ w = w' := by
  have c0 := Blk.cell h.box 4 (v := .int .i64 (S.used : Int)) rfl
  clear h
  go_enter Tryz.func16, Tryz.ntmps16
  go_wp2_with fail
  go_ret
  exact ⟨rfl, rfl⟩
/-- a datagram's part -/
def gp (L : List (Nat × ByteArray)) (mac : Int) (last : Bool) (i : Nat) : Mp :=
  ⟨mac, ⟨0, decide (i + 1 = L.length), decide (i + 1 = L.length) && last, ((L.getD i (0, nob)).1 : Int)⟩, (L.getD i (0, nob)).2⟩
def gL (L : List (Nat × ByteArray)) (mac : Int) (last : Bool) : List ByteArray := (List.range L.length).map fun i => (gp L mac last i).enc
/-- datagrams that are in a frame -/
def GoodL (L : List (Nat × ByteArray)) : Prop := ∀ x ∈ L, dgE x.2 = 0 ∧ x.1 ≤ 262143
theorem gp_get {L : List (Nat × ByteArray)} {i : Nat} {x : Nat × ByteArray} (h : L[i]? = some x) (mac : Int) (last : Bool) : gp L mac last i = ⟨mac, ⟨0, decide (i + 1 = L.length), decide (i + 1 = L.length) && last, (x.1 : Int)⟩, x.2⟩ := by
  unfold gp
  rw [List.getD_eq_getElem?_getD, h]
  rfl
theorem gp_chk {L : List (Nat × ByteArray)} (hL : GoodL L) {i : Nat} {x : Nat × ByteArray} (h : L[i]? = some x) (mac : Int) (last : Bool) : (gp L mac last i).chk = if 0 ≤ mac ∧ mac ≤ 65535 then 0 else 15 := by
  rw [gp_get h]
  obtain ⟨h1, h2⟩ := hL x (List.mem_of_getElem? h)
  have ht : Ti.ok ⟨0, decide (i + 1 = L.length), decide (i + 1 = L.length) && last, (x.1 : Int)⟩ := ⟨⟨by show (0 : Int) ≤ 0; decide, by show (0 : Int) ≤ 4095; decide⟩, by show (0 : Int) ≤ (x.1 : Int); omega, by show (x.1 : Int) ≤ 262143; omega⟩
  unfold Mp.chk Mp.ok
  by_cases hm : 0 ≤ mac ∧ mac ≤ 65535
  · rw [if_pos ⟨hm, ht⟩, if_pos hm]; exact h1
  · rw [if_neg (fun h => hm h.1), if_neg hm]
theorem gL_snoc {L : List (Nat × ByteArray)} {q : Nat} (h : q < L.length) (mac : Int) (last : Bool) : flat enS ((gL L mac last).take (q + 1)) = flat enS ((gL L mac last).take q) ++ [.string (gp L mac last q).enc] := by
  have : (gL L mac last)[q]? = some (gp L mac last q).enc := by
    unfold gL
    rw [List.getElem?_map, List.getElem?_range h]
    rfl
  rw [flat_snoc this]
  rfl
theorem gL_len (L : List (Nat × ByteArray)) (mac : Int) (last : Bool) : (gL L mac last).length = L.length := by simp [gL]
theorem elemS : Elem Tryz.prog 33 9 1 16 := elem_of Tryz.underlying33 (z := .string ByteArray.empty) (by kernel_rfl) rfl (by decide)
set_option maxHeartbeats 3200000 in
theorem grams_any (w : World) (B gf gr : Nat) (v : Value) (S : Fr) (mac : Int) (last : Bool) (h : FrIn w B gf gr v S) (hok : OkF S) (hg : GoodL S.L) (h0 : S.L.length ≠ 0) :
    Calls Tryz.prog 27 #[.pointer (some ⟨gf, 0, none⟩), .int .i64 mac, .bool last] w fun e w' => Below w.heap.size w w' ∧ ∃ v', e = .returned (.tuple #[v', .int .i64 (if 0 ≤ mac ∧ mac ≤ 65535 then 0 else 15)]) ∧ (0 ≤ mac ∧ mac ≤ 65535 → w'.ownsRow w.heap.size 9 1 v' S.L.length (flat enS (gL S.L mac last))) ∧ (¬ (0 ≤ mac ∧ mac ≤ 65535) → v' = .slice none 0 0) := by
  have kp := placed_any w B gf gr v S h hok
  have hn9 : S.L.length ≤ 200000 := by have h1 := hok.n; have h2 := hok.u; have h3 := hok.C; have h4 := hok.R; have : S.R * S.C ≤ 1024 * 191 := Nat.mul_le_mul h4 h3; omega
  obtain ⟨L, hL⟩ : ∃ L, S.L = L := ⟨_, rfl⟩
  rw [hL] at kp hg h0 hn9 ⊢
  obtain ⟨n, hn⟩ : ∃ n, L.length = n := ⟨_, rfl⟩
  rw [hn] at kp h0 hn9 ⊢
  have HG := Lib.hid hg
  have HN := Lib.hid hn
  clear hg hn hL h hok
  obtain ⟨R, hR⟩ : ∃ R : Ending → World → Prop, R = (fun e w' => Below w.heap.size w w' ∧ ∃ v', e = .returned (.tuple #[v', .int .i64 (if 0 ≤ mac ∧ mac ≤ 65535 then 0 else 15)]) ∧ (0 ≤ mac ∧ mac ≤ 65535 → w'.ownsRow w.heap.size 9 1 v' n (flat enS (gL L mac last))) ∧ (¬ (0 ≤ mac ∧ mac ≤ 65535) → v' = .slice none 0 0)) := ⟨_, rfl⟩
  rw [← hR]
  have HR := Lib.hid hR
  clear hR
  go_enter Tryz.func27, Tryz.ntmps27
  go_wp2_with fail
  (with_reducible refine (kp).mono ?_); rintro e1 W1 ⟨hb1, vp, rfl, hpl⟩
  obtain ⟨pa, pc, rfl⟩ := own_form hpl
  have HSQ := Lib.hid (own_seq enPd_len hpl HN.out)
  have HB1 := Lib.hid hb1
  clear kp hpl hb1
  go_wp2_with fail
  go_loopw [8, 19] (fun out iv wr => ∃ q : Nat, q ≤ n ∧ iv = .int .i64 q ∧ wr.ownsRow W1.heap.size 9 1 out q (flat enS ((gL L mac last).take q)) ∧ Below W1.heap.size W1 wr ∧ Hid (0 < q → 0 ≤ mac ∧ mac ≤ 65535)) (fun _ iv _ => n - (intOf iv).toNat)
  case atStart => exact ⟨0, by omega, rfl, by simpa [flat] using World.ownsRow_nil _ _ _ _, Below.refl _ _, Lib.hid (fun h => absurd h (by omega))⟩
  case round =>
    obtain ⟨q, hq, rfl, hown, hb, HQ⟩ := hrel
    by_cases hqn : q < n
    · have t1 : decide (q < n) = true := decide_eq_true hqn
      obtain ⟨x, hx⟩ : ∃ x, L[q]? = some x := ⟨_, List.getElem?_eq_getElem (by rw [HN.out]; exact hqn)⟩
      obtain ⟨b0, o0, hab, hlt, hc⟩ := (HSQ.out.below (Nat.le_refl _) hb) q x hx
      have c0 := hc 0 _ rfl
      have c1 := hc 1 _ rfl
      rw [off_eq] at c0 c1
      rw [Nat.add_zero] at c0
      subst hab
      have k0 : (0 : Int) ≤ (q : Int) := Int.natCast_nonneg _
      have k1 : (q : Int) < (n : Int) := by omega
      have hck := gp_chk HG.out hx mac last
      have hgx := HG.out x (List.mem_of_getElem? hx)
      have hsn := gL_snoc (mac := mac) (last := last) (show q < L.length by rw [HN.out]; exact hqn)
      have hts := (MpA.dg_size hgx.1)
      have hgg := gp_get hx mac last
      obtain ⟨at_, d⟩ := x
      dsimp only at c0 c1 hgx hts hgg
      obtain ⟨X, hX⟩ : ∃ X, (gp L mac last q).enc = X := ⟨_, rfl⟩
      rw [hX] at hsn
      have HSN := Lib.hid hsn
      have hbs := hb.size
      have hz1 := HB1.out.size
      have hown2 := own_below hown ((Below.refl wr.heap.size wr).alloc (Nat.le_refl _) (.cells #[.int .i64 (at_ : Int), .string d] 57))
      have hb2 := hb.alloc hbs (.cells #[.int .i64 (at_ : Int), .string d] 57)
      have hbk := Blk.new wr 57 #[.int .i64 (at_ : Int), .string d]
      clear hx hc hgx hsn hown
      by_cases hen : q + 1 = n
      · have te : ((q : Int) == (n : Int) - 1) = true := beq_iff_eq.2 (by omega)
        rw [HN.out, decide_eq_true hen, Bool.true_and] at hgg
        have ke : ∀ V, Calls Tryz.prog 45 #[.agg #[.int .i64 mac, .int .i64 0, .bool true, .bool last, .int .i64 (at_ : Int), .string d]] V fun e w' => e = .returned (.tuple #[.string X, .int .i64 (if 0 ≤ mac ∧ mac ≤ 65535 then 0 else 15)]) ∧ Below V.heap.size V w' := fun V => by
          have := menc_any (gp L mac last q) V (by rw [hgg]; dsimp only; omega)
          rw [hX, hck, hgg] at this
          exact this
        clear hgg hX hck hen
        by_cases hm : 0 ≤ mac ∧ mac ≤ 65535
        · rw [if_pos hm] at ke
          have HM := Lib.hid hm
          clear hm
          have d0 := Blk.cell (hbk) 0 (v := .int .i64 (at_ : Int)) rfl
          have d1 := Blk.cell (hbk) 1 (v := .string d) rfl
          go_wp2_with fail
          (with_reducible refine (ke _).mono ?_); rintro e1 W2 ⟨rfl, hb3⟩
          have hown3 := own_below hown2 hb3
          have hb4 := hb2.trans (hb3.mono (Nat.le_trans hbs (by simp)))
          have hz4 := hb4.size
          clear ke hown2 hb3 d0 d1 hbk hb2
          go_wp2_with (at_builtin; refine ApG.wpList_appG rfl _ _ rfl elemS rfl (hown3.alloc (.cells #[.string X] 9)) rfl rfl (blk_news (Blk.new W2 9 #[.string X])) (by simp [Value.oneCell']) (by omega) (by unfold maxLen; omega) (by simp; omega) ?_)
          intro v9 w8 hown9 hg9 hl9
          have hb5 := (hb4.alloc hz4 (.cells #[.string X] 9)).trans (below_of_only hg9 (by simp; omega) (fun k hk => (hown3.lt k hk).1))
          have hown10 : w8.ownsRow W1.heap.size 9 1 v9 (q + 1) (flat enS ((gL L mac last).take (q + 1))) := by rw [HSN.out]; exact hown9
          obtain ⟨va, vc, rfl⟩ := own_form hown10
          have HO := Lib.hid hown10
          clear hown9 hg9 hl9 hown3 hb4 hown10
          go_wp2_with fail
          go_roundw
          case rel => exact ⟨q + 1, by omega, by go_num, HO.out, hb5, Lib.hid (fun _ => HM.out)⟩
          case measure => simp [intOf]; omega
        · rw [if_neg hm] at ke
          have HM := Lib.hid hm
          clear hm
          have d0 := Blk.cell (hbk) 0 (v := .int .i64 (at_ : Int)) rfl
          have d1 := Blk.cell (hbk) 1 (v := .string d) rfl
          go_wp2_with fail
          (with_reducible refine (ke _).mono ?_); rintro e1 W2 ⟨rfl, hb3⟩
          have hb4 := Lib.hid (HB1.out.trans ((hb2.trans (hb3.mono (Nat.le_trans hbs (by simp)))).mono HB1.out.size))
          clear ke hown2 hb3 d0 d1 hbk hb2
          go_wp2_with fail
          rw [HR.out]
          exact ⟨hb4.out, .slice none 0 0, by rw [if_neg HM.out]; rfl, fun h => absurd h HM.out, fun _ => rfl⟩
      · have te : ((q : Int) == (n : Int) - 1) = false := beq_eq_false_iff_ne.2 (by omega)
        rw [HN.out, decide_eq_false hen, Bool.false_and] at hgg
        have ke : ∀ V, Calls Tryz.prog 45 #[.agg #[.int .i64 mac, .int .i64 0, .bool false, .bool false, .int .i64 (at_ : Int), .string d]] V fun e w' => e = .returned (.tuple #[.string X, .int .i64 (if 0 ≤ mac ∧ mac ≤ 65535 then 0 else 15)]) ∧ Below V.heap.size V w' := fun V => by
          have := menc_any (gp L mac last q) V (by rw [hgg]; dsimp only; omega)
          rw [hX, hck, hgg] at this
          exact this
        clear hgg hX hck hen
        by_cases hm : 0 ≤ mac ∧ mac ≤ 65535
        · rw [if_pos hm] at ke
          have HM := Lib.hid hm
          clear hm
          have d0 := Blk.cell (hbk) 0 (v := .int .i64 (at_ : Int)) rfl
          have d1 := Blk.cell (hbk) 1 (v := .string d) rfl
          go_wp2_with fail
          (with_reducible refine (ke _).mono ?_); rintro e1 W2 ⟨rfl, hb3⟩
          have hown3 := own_below hown2 hb3
          have hb4 := hb2.trans (hb3.mono (Nat.le_trans hbs (by simp)))
          have hz4 := hb4.size
          clear ke hown2 hb3 d0 d1 hbk hb2
          go_wp2_with (at_builtin; refine ApG.wpList_appG rfl _ _ rfl elemS rfl (hown3.alloc (.cells #[.string X] 9)) rfl rfl (blk_news (Blk.new W2 9 #[.string X])) (by simp [Value.oneCell']) (by omega) (by unfold maxLen; omega) (by simp; omega) ?_)
          intro v9 w8 hown9 hg9 hl9
          have hb5 := (hb4.alloc hz4 (.cells #[.string X] 9)).trans (below_of_only hg9 (by simp; omega) (fun k hk => (hown3.lt k hk).1))
          have hown10 : w8.ownsRow W1.heap.size 9 1 v9 (q + 1) (flat enS ((gL L mac last).take (q + 1))) := by rw [HSN.out]; exact hown9
          obtain ⟨va, vc, rfl⟩ := own_form hown10
          have HO := Lib.hid hown10
          clear hown9 hg9 hl9 hown3 hb4 hown10
          go_wp2_with fail
          go_roundw
          case rel => exact ⟨q + 1, by omega, by go_num, HO.out, hb5, Lib.hid (fun _ => HM.out)⟩
          case measure => simp [intOf]; omega
        · rw [if_neg hm] at ke
          have HM := Lib.hid hm
          clear hm
          have d0 := Blk.cell (hbk) 0 (v := .int .i64 (at_ : Int)) rfl
          have d1 := Blk.cell (hbk) 1 (v := .string d) rfl
          go_wp2_with fail
          (with_reducible refine (ke _).mono ?_); rintro e1 W2 ⟨rfl, hb3⟩
          have hb4 := Lib.hid (HB1.out.trans ((hb2.trans (hb3.mono (Nat.le_trans hbs (by simp)))).mono HB1.out.size))
          clear ke hown2 hb3 d0 d1 hbk hb2
          go_wp2_with fail
          rw [HR.out]
          exact ⟨hb4.out, .slice none 0 0, by rw [if_neg HM.out]; rfl, fun h => absurd h HM.out, fun _ => rfl⟩
    · obtain rfl : q = n := by omega
      have t1 : decide (q < q) = false := by simp
      rw [List.take_of_length_le (by rw [gL_len, HN.out]; exact Nat.le_refl _)] at hown
      have hm := HQ.out (by omega)
      obtain ⟨oa, oc, rfl⟩ := own_form hown
      have HF := Lib.hid (show Below w.heap.size w wr ∧ wr.ownsRow w.heap.size 9 1 (.slice oa q oc) q (flat enS (gL L mac last)) from ⟨HB1.out.trans (hb.mono HB1.out.size), ApG.own_base hown HB1.out.size⟩)
      have HM := Lib.hid hm
      clear hown hm hb
      go_wp2_with fail
      rw [HR.out]
      exact ⟨HF.out.1, .slice oa q oc, by rw [if_pos HM.out]; rfl, fun _ => HF.out.2, fun h => absurd HM.out h⟩
end Go.Proofs.YthgcmlhmhojjhaaGreatDoor.BuC
