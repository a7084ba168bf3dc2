/- fec: Columns; burst: columns, joined. -/
import Derived.Test.YthgcmlhmhojjhaaGreatDoorBuC
import Derived.Test.YthgcmlhmhojjhaaGreatDoorPkF
namespace Go.Proofs.YthgcmlhmhojjhaaGreatDoor.BuD
open Go Go.RowKit Go.Proofs.YthgcmlhmhojjhaaGreatDoor.Q Go.Proofs.YthgcmlhmhojjhaaGreatDoor.Mem Go.Proofs.YthgcmlhmhojjhaaGreatDoor.Rg Go.Proofs.YthgcmlhmhojjhaaGreatDoor.Ap Go.Proofs.YthgcmlhmhojjhaaGreatDoor.St Go.Proofs.YthgcmlhmhojjhaaGreatDoor.CrB Go.Proofs.YthgcmlhmhojjhaaGreatDoor.Tab Go.Proofs.YthgcmlhmhojjhaaGreatDoor.TmA Go.Proofs.YthgcmlhmhojjhaaGreatDoor.FcA Go.Proofs.YthgcmlhmhojjhaaGreatDoor.BuC

/-- a column's part -/
def cp (pad : Int) (L : List ByteArray) (i : Nat) : Fp :=
  ⟨pad, (i : Int), (L.length : Int) - 1, ⟨0, false, decide (i + 1 = L.length), (i : Int) * ((L.getD i nob).size : Int)⟩, L.getD i nob⟩
def cps (pad : Int) (L : List ByteArray) : List Fp := (List.range L.length).map (cp pad L)
def cL (pad : Int) (L : List ByteArray) : List ByteArray := (cps pad L).map Fp.enc
def enFp (p : Fp) : List Value := p.vals.toList
theorem enFp_len (p : Fp) : (enFp p).length = 8 := rfl
/-- columns that may be -/
structure ColOk (pad : Int) (L : List ByteArray) : Prop where
  pad : 0 ≤ pad ∧ pad ≤ 191
  len : L.length ≤ 64
  sz : ∀ s ∈ L, isSz s.size = true
theorem cp_get {L : List ByteArray} {i : Nat} {s : ByteArray} (h : L[i]? = some s) (pad : Int) : cp pad L i = ⟨pad, (i : Int), (L.length : Int) - 1, ⟨0, false, decide (i + 1 = L.length), (i : Int) * (s.size : Int)⟩, s⟩ := by
  unfold cp
  rw [List.getD_eq_getElem?_getD, h]
  rfl
theorem sz_le {n : Nat} (h : isSz (n : Int) = true) : n ≤ 1024 := by
  rcases isSz_true h with h | h | h | h <;> omega
theorem cp_chk {pad : Int} {L : List ByteArray} (h : ColOk pad L) {i : Nat} {s : ByteArray} (hs : L[i]? = some s) : (cp pad L i).chk = 0 := by
  have hi := (List.getElem?_eq_some_iff.1 hs).1
  have hz := h.sz s (List.mem_of_getElem? hs)
  have h9 := sz_le hz
  have hl := h.len
  have hm : i * s.size ≤ 63 * 1024 := Nat.mul_le_mul (by omega) h9
  rw [cp_get hs]
  have h1 : Fp.ok ⟨pad, (i : Int), (L.length : Int) - 1, ⟨0, false, decide (i + 1 = L.length), (i : Int) * (s.size : Int)⟩, s⟩ := ⟨h.pad, ⟨by show (0 : Int) ≤ (L.length : Int) - 1; omega, by show (L.length : Int) - 1 < 64; omega⟩, by show (0 : Int) ≤ (i : Int); omega, by show (i : Int) ≤ (L.length : Int) - 1; omega⟩
  have h2 : Ti.ok ⟨0, false, decide (i + 1 = L.length), (i : Int) * (s.size : Int)⟩ := ⟨⟨by show (0 : Int) ≤ 0; decide, by show (0 : Int) ≤ 4095; decide⟩, by show (0 : Int) ≤ (i : Int) * (s.size : Int); exact Int.mul_nonneg (by omega) (by omega), by show (i : Int) * (s.size : Int) ≤ 262143; have : ((i * s.size : Nat) : Int) = (i : Int) * (s.size : Int) := Int.natCast_mul _ _; omega⟩
  unfold Fp.chk
  rw [if_pos ⟨h1, h2⟩]
  show (if isSz (s.size : Int) = true then (0 : Int) else 12) = 0
  rw [if_pos hz]
theorem cps_len (pad : Int) (L : List ByteArray) : (cps pad L).length = L.length := by simp [cps]
theorem cps_get {pad : Int} {L : List ByteArray} {q : Nat} (h : q < L.length) : (cps pad L)[q]? = some (cp pad L q) := by
  unfold cps
  rw [List.getElem?_map, List.getElem?_range h]
  rfl
theorem elemF : Elem Tryz.prog 120 123 8 64 := elem_of Tryz.underlying120 (z := .agg #[.int .i64 0, .int .i64 0, .int .i64 0, .int .i64 0, .bool false, .bool false, .int .i64 0, .string ByteArray.empty]) (by kernel_rfl) rfl (by decide)
set_option maxRecDepth 100000
set_option maxHeartbeats 3200000 in
theorem fcols_any (pad : Int) (a : Option Addr) (n c : Nat) (L : List ByteArray) (w : World) (hT : Tab 2 w) (hn : L.length = n) (hL : Seq enS 1 w a L) (hok : ColOk pad L) :
    Calls Tryz.prog 46 #[.int .i64 pad, .slice a n c] w fun e w' => Below w.heap.size w w' ∧ ∃ v', e = .returned (.tuple #[v', .int .i64 0]) ∧ w'.ownsRow w.heap.size 123 8 v' n (flat enFp (cps pad L)) := by
  obtain ⟨R, hR⟩ : ∃ R : Ending → World → Prop, R = (fun e w' => Below w.heap.size w w' ∧ ∃ v', e = .returned (.tuple #[v', .int .i64 0]) ∧ w'.ownsRow w.heap.size 123 8 v' n (flat enFp (cps pad L))) := ⟨_, rfl⟩
  rw [← hR]
  have HR := Lib.hid hR
  have HT := Lib.hid hT
  have HN := Lib.hid hn
  have HL := Lib.hid hL
  have HO := Lib.hid hok
  have hn9 : n ≤ 64 := by have := hok.len; omega
  clear hR hT hn hL hok
  go_enter Tryz.func46, Tryz.ntmps46
  go_wp2_with fail
  go_loopw [6, 13] (fun out iv wr => ∃ q : Nat, q ≤ n ∧ iv = .int .i64 q ∧ wr.ownsRow w.heap.size 123 8 out q (flat enFp ((cps pad L).take q)) ∧ Below w.heap.size w wr) (fun _ iv _ => n - (intOf iv).toNat)
  case atStart => exact ⟨0, by omega, rfl, by simpa [flat] using World.ownsRow_nil _ _ _ _, Below.refl _ _⟩
  case round =>
    obtain ⟨q, hq, rfl, hown, hb⟩ := hrel
    by_cases hqn : q < n
    · have t1 : decide (q < n) = true := decide_eq_true hqn
      obtain ⟨s, hs⟩ : ∃ s, L[q]? = some s := ⟨_, List.getElem?_eq_getElem (by rw [HN.out]; exact hqn)⟩
      obtain ⟨b0, o0, rfl, hlt, hc⟩ := (HL.out.below (Nat.le_refl _) hb) q s hs
      have c0 : wr.cell? ⟨b0, o0 + q, none⟩ = some (.string s) := hc 0 _ rfl
      have k0 : (0 : Int) ≤ (q : Int) := Int.natCast_nonneg _
      have k1 : (q : Int) < (n : Int) := by omega
      have hg := cp_get hs pad
      have hck := cp_chk HO.out hs
      have hsn : flat enFp ((cps pad L).take (q + 1)) = flat enFp ((cps pad L).take q) ++ enFp (cp pad L q) := flat_snoc (cps_get (by rw [HN.out]; exact hqn))
      have hz9 := sz_le (HO.out.sz s (List.mem_of_getElem? hs))
      rw [hg] at hsn
      have EN : ((q : Int) == (n : Int) - 1) = decide (q + 1 = n) := by
        by_cases h : q + 1 = n
        · rw [decide_eq_true h]; exact beq_iff_eq.2 (by omega)
        · rw [decide_eq_false h]; exact beq_eq_false_iff_ne.2 (by omega)
      have kc : ∀ V, Tab 2 V → Calls Tryz.prog 67 #[.agg (cp pad L q).vals] V fun e w' => e = .returned (.int .i64 0) ∧ Below V.heap.size V w' := fun V h => by have := fcheck_any (cp pad L q) V h; rw [hck] at this; exact this
      rw [hg] at kc
      unfold Fp.vals at kc
      dsimp only at kc
      unfold enFp Fp.vals at hsn
      dsimp only at hsn
      rw [HN.out] at kc hsn
      obtain ⟨E, hE⟩ : ∃ E, decide (q + 1 = n) = E := ⟨_, rfl⟩
      rw [hE] at EN kc hsn
      obtain ⟨A, hA⟩ : ∃ A, (q : Int) * (s.size : Int) = A := ⟨_, rfl⟩
      have hA0 : 0 ≤ A := by rw [← hA]; exact Int.mul_nonneg (by omega) (by omega)
      have hA9 : A ≤ 65536 := by rw [← hA, ← Int.natCast_mul]; have : q * s.size ≤ 64 * 1024 := Nat.mul_le_mul (by omega) hz9; omega
      rw [hA] at kc hsn
      have hw : wrap64 ((q : Int) * (s.size : Int)) = A := by rw [hA]; unfold wrap64; omega
      have HSN := Lib.hid (show flat enFp ((cps pad L).take (q + 1)) = flat enFp ((cps pad L).take q) ++ [.int .i64 pad, .int .i64 (q : Int), .int .i64 ((n : Int) - 1), .int .i64 0, .bool false, .bool E, .int .i64 A, .string s] from hsn)
      have hbs := hb.size
      have hbk := Blk.new wr 123 #[.int .i64 pad, .int .i64 (q : Int), .int .i64 ((n : Int) - 1), .int .i64 0, .bool false, .bool E, .int .i64 A, .string s]
      have hb2 := hb.alloc hbs (.cells #[.int .i64 pad, .int .i64 (q : Int), .int .i64 ((n : Int) - 1), .int .i64 0, .bool false, .bool E, .int .i64 A, .string s] 123)
      have hown2 := own_below hown ((Below.refl wr.heap.size wr).alloc (Nat.le_refl _) (.cells #[.int .i64 pad, .int .i64 (q : Int), .int .i64 ((n : Int) - 1), .int .i64 0, .bool false, .bool E, .int .i64 A, .string s] 123))
      have HKC := Lib.hid (kc _ (HT.out.be hb2))
      clear hc hs hg hck hsn hz9 hE hA hown kc hA0 hA9 hlt
      have d0 := Blk.cell (hbk) 0 (v := .int .i64 pad) rfl
      have d1 := Blk.cell (hbk) 1 (v := .int .i64 (q : Int)) rfl
      have d2 := Blk.cell (hbk) 2 (v := .int .i64 ((n : Int) - 1)) rfl
      have d3 := Blk.cell (hbk) 3 (v := .int .i64 0) rfl
      have d4 := Blk.cell (hbk) 4 (v := .bool false) rfl
      have d5 := Blk.cell (hbk) 5 (v := .bool E) rfl
      have d6 := Blk.cell (hbk) 6 (v := .int .i64 A) rfl
      have d7 := Blk.cell (hbk) 7 (v := .string s) rfl
      go_wp2_with fail
      (with_reducible refine (HKC.out).mono ?_); rintro e1 W2 ⟨rfl, hb3⟩
      have hbk3 := Blk.below hbk hb3 (Blk.lt hbk)
      have hown3 := own_below hown2 hb3
      have hb4 := hb2.trans (hb3.mono (Nat.le_trans hbs (by simp)))
      have hz4 := hb4.size
      clear HKC hown2 hb3 hbk hb2 d0 d1 d2 d3 d4 d5 d6 d7
      have d0 := Blk.cell (hbk3) 0 (v := .int .i64 pad) rfl
      have d1 := Blk.cell (hbk3) 1 (v := .int .i64 (q : Int)) rfl
      have d2 := Blk.cell (hbk3) 2 (v := .int .i64 ((n : Int) - 1)) rfl
      have d3 := Blk.cell (hbk3) 3 (v := .int .i64 0) rfl
      have d4 := Blk.cell (hbk3) 4 (v := .bool false) rfl
      have d5 := Blk.cell (hbk3) 5 (v := .bool E) rfl
      have d6 := Blk.cell (hbk3) 6 (v := .int .i64 A) rfl
      have d7 := Blk.cell (hbk3) 7 (v := .string s) rfl
      have hbn := Blk.new W2 123 #[.int .i64 pad, .int .i64 (q : Int), .int .i64 ((n : Int) - 1), .int .i64 0, .bool false, .bool E, .int .i64 A, .string s]
      go_wp2_with (at_builtin; refine ApG.wpList_appG rfl _ _ rfl elemF rfl (hown3.alloc (.cells #[.int .i64 pad, .int .i64 (q : Int), .int .i64 ((n : Int) - 1), .int .i64 0, .bool false, .bool E, .int .i64 A, .string s] 123)) rfl rfl (blk_news hbn) (by simp [Value.oneCell']) (by omega) (by unfold maxLen; omega) (by simp; omega) ?_)
      intro v9 w8 hown9 hg9 hl9
      have hb5 := (hb4.alloc hz4 (.cells #[.int .i64 pad, .int .i64 (q : Int), .int .i64 ((n : Int) - 1), .int .i64 0, .bool false, .bool E, .int .i64 A, .string s] 123)).trans (below_of_only hg9 (by simp; omega) (fun k hk => (hown3.lt k hk).1))
      have hown10 : w8.ownsRow w.heap.size 123 8 v9 (q + 1) (flat enFp ((cps pad L).take (q + 1))) := by rw [HSN.out]; exact hown9
      obtain ⟨va, vc, rfl⟩ := own_form hown10
      have HO2 := Lib.hid hown10
      clear hown9 hg9 hl9 hown3 hb4 hown10 hbk3 hbn d0 d1 d2 d3 d4 d5 d6 d7
      go_wp2_with fail
      go_roundw
      case rel => exact ⟨q + 1, by omega, by go_num, HO2.out, hb5⟩
      case measure => simp [intOf]; omega
    · obtain rfl : q = n := by omega
      have t1 : decide (q < q) = false := by simp
      rw [List.take_of_length_le (by rw [cps_len, HN.out]; exact Nat.le_refl _)] at hown
      obtain ⟨oa, oc, rfl⟩ := own_form hown
      have HF := Lib.hid (And.intro hb hown)
      clear hown hb
      go_wp2_with fail
      rw [HR.out]
      exact ⟨HF.out.1, _, rfl, HF.out.2⟩
/-- sections of columns -/
theorem cL_snoc {pad : Int} {L : List ByteArray} {q : Nat} (h : q < L.length) : flat enS ((cL pad L).take (q + 1)) = flat enS ((cL pad L).take q) ++ [.string (cp pad L q).enc] := by
  have : (cL pad L)[q]? = some (cp pad L q).enc := by
    unfold cL
    rw [List.getElem?_map, cps_get h]
    rfl
  rw [flat_snoc this]
  rfl
theorem cL_len (pad : Int) (L : List ByteArray) : (cL pad L).length = L.length := by simp [cL, cps_len]
set_option maxHeartbeats 3200000 in
theorem columns_any (pad : Int) (a : Option Addr) (n c : Nat) (L : List ByteArray) (w : World) (hT : Tab 2 w) (hn : L.length = n) (hL : Seq enS 1 w a L) (hok : ColOk pad L) :
    Calls Tryz.prog 28 #[.int .i64 pad, .slice a n c] w fun e w' => Below w.heap.size w w' ∧ ∃ v', e = .returned (.tuple #[v', .int .i64 0]) ∧ w'.ownsRow w.heap.size 9 1 v' n (flat enS (cL pad L)) := by
  have kc := fcols_any pad a n c L w hT hn hL hok
  obtain ⟨R, hR⟩ : ∃ R : Ending → World → Prop, R = (fun e w' => Below w.heap.size w w' ∧ ∃ v', e = .returned (.tuple #[v', .int .i64 0]) ∧ w'.ownsRow w.heap.size 9 1 v' n (flat enS (cL pad L))) := ⟨_, rfl⟩
  rw [← hR]
  have HR := Lib.hid hR
  have HT := Lib.hid hT
  have HN := Lib.hid hn
  have HO := Lib.hid hok
  have hn9 : n ≤ 64 := by have := hok.len; omega
  clear hR hT hn hL hok
  go_enter Tryz.func28, Tryz.ntmps28
  go_wp2_with fail
  (with_reducible refine (kc).mono ?_); rintro e1 W1 ⟨hb1, vp, rfl, hpl⟩
  obtain ⟨pa, pc, rfl⟩ := own_form hpl
  have HSQ := Lib.hid (own_seq enFp_len hpl (by rw [cps_len, HN.out]))
  have HB1 := Lib.hid hb1
  have hz1 := hb1.size
  clear kc hpl hb1
  go_wp2_with fail
  go_loopw [6, 24] (fun out iv wr => ∃ q : Nat, q ≤ n ∧ iv = .int .i64 q ∧ wr.ownsRow W1.heap.size 9 1 out q (flat enS ((cL pad L).take q)) ∧ Below W1.heap.size W1 wr) (fun _ iv _ => n - (intOf iv).toNat)
  case atStart => exact ⟨0, by omega, rfl, by simpa [flat] using World.ownsRow_nil _ _ _ _, Below.refl _ _⟩
  case round =>
    obtain ⟨q, hq, rfl, hown, hb⟩ := hrel
    by_cases hqn : q < n
    · have t1 : decide (q < n) = true := decide_eq_true hqn
      obtain ⟨s, hs⟩ : ∃ s, L[q]? = some s := ⟨_, List.getElem?_eq_getElem (by rw [HN.out]; exact hqn)⟩
      have hck := cp_chk HO.out hs
      obtain ⟨b0, o0, hab, hlt, hc⟩ := (HSQ.out.below (Nat.le_refl _) hb) q _ (cps_get (by rw [HN.out]; exact hqn))
      subst hab
      have k0 : (0 : Int) ≤ (q : Int) := Int.natCast_nonneg _
      have k1 : (q : Int) < (n : Int) := by omega
      have hsn := cL_snoc (pad := pad) (show q < L.length by rw [HN.out]; exact hqn)
      have ke : ∀ V, Tab 2 V → Calls Tryz.prog 47 #[.agg (cp pad L q).vals] V fun e w' => e = .returned (.tuple #[.string (cp pad L q).enc, .int .i64 0]) ∧ Below V.heap.size V w' := fun V h => by have := FcB.fenc_any (cp pad L q) V h; rw [hck] at this; exact this
      obtain ⟨X, hX⟩ : ∃ X, (cp pad L q).enc = X := ⟨_, rfl⟩
      rw [hX] at ke hsn
      obtain ⟨Q, hQ⟩ : ∃ Q, cp pad L q = Q := ⟨_, rfl⟩
      rw [hQ] at ke hc
      clear hX hQ hck hs
      obtain ⟨p0, p1, p2, ⟨p3, p4, p5, p6⟩, p7⟩ := Q
      unfold Fp.vals at ke
      unfold enFp Fp.vals at hc
      dsimp only at ke hc
      have c0 := hc 0 _ rfl
      have c1 := hc 1 _ rfl
      have c2 := hc 2 _ rfl
      have c3 := hc 3 _ rfl
      have c4 := hc 4 _ rfl
      have c5 := hc 5 _ rfl
      have c6 := hc 6 _ rfl
      have c7 := hc 7 _ rfl
      rw [off_eq] at c0 c1 c2 c3 c4 c5 c6 c7
      rw [Nat.add_zero] at c0
      have HSN := Lib.hid hsn
      have hbs := hb.size
      have hbk := Blk.new wr 123 #[.int .i64 p0, .int .i64 p1, .int .i64 p2, .int .i64 p3, .bool p4, .bool p5, .int .i64 p6, .string p7]
      have hb2 := hb.alloc hbs (.cells #[.int .i64 p0, .int .i64 p1, .int .i64 p2, .int .i64 p3, .bool p4, .bool p5, .int .i64 p6, .string p7] 123)
      have hown2 := own_below hown ((Below.refl wr.heap.size wr).alloc (Nat.le_refl _) (.cells #[.int .i64 p0, .int .i64 p1, .int .i64 p2, .int .i64 p3, .bool p4, .bool p5, .int .i64 p6, .string p7] 123))
      have HKE := Lib.hid (ke _ ((HT.out.be HB1.out).below hb2 (Nat.lt_of_lt_of_le HT.out.lt hz1)))
      clear hc hsn hown ke hlt
      have d0 := Blk.cell (hbk) 0 (v := .int .i64 p0) rfl
      have d1 := Blk.cell (hbk) 1 (v := .int .i64 p1) rfl
      have d2 := Blk.cell (hbk) 2 (v := .int .i64 p2) rfl
      have d3 := Blk.cell (hbk) 3 (v := .int .i64 p3) rfl
      have d4 := Blk.cell (hbk) 4 (v := .bool p4) rfl
      have d5 := Blk.cell (hbk) 5 (v := .bool p5) rfl
      have d6 := Blk.cell (hbk) 6 (v := .int .i64 p6) rfl
      have d7 := Blk.cell (hbk) 7 (v := .string p7) rfl
      go_wp2_with fail
      (with_reducible refine (HKE.out).mono ?_); rintro e1 W2 ⟨rfl, hb3⟩
      have hown3 := own_below hown2 hb3
      have hb4 := hb2.trans (hb3.mono (Nat.le_trans hbs (by simp)))
      have hz4 := hb4.size
      clear HKE hown2 hb3 hbk hb2 d0 d1 d2 d3 d4 d5 d6 d7 c0 c1 c2 c3 c4 c5 c6 c7
      go_wp2_with (at_builtin; refine ApG.wpList_appG rfl _ _ rfl elemS rfl (hown3.alloc (.cells #[.string X] 9)) rfl rfl (blk_news (Blk.new W2 9 #[.string X])) (by simp [Value.oneCell']) (by omega) (by unfold maxLen; omega) (by simp; omega) ?_)
      intro v9 w8 hown9 hg9 hl9
      have hb5 := (hb4.alloc hz4 (.cells #[.string X] 9)).trans (below_of_only hg9 (by simp; omega) (fun k hk => (hown3.lt k hk).1))
      have hown10 : w8.ownsRow W1.heap.size 9 1 v9 (q + 1) (flat enS ((cL pad L).take (q + 1))) := by rw [HSN.out]; exact hown9
      obtain ⟨va, vc, rfl⟩ := own_form hown10
      have HO2 := Lib.hid hown10
      clear hown9 hg9 hl9 hown3 hb4 hown10
      go_wp2_with fail
      go_roundw
      case rel => exact ⟨q + 1, by omega, by go_num, HO2.out, hb5⟩
      case measure => simp [intOf]; omega
    · obtain rfl : q = n := by omega
      have t1 : decide (q < q) = false := by simp
      rw [List.take_of_length_le (by rw [cL_len, HN.out]; exact Nat.le_refl _)] at hown
      obtain ⟨oa, oc, rfl⟩ := own_form hown
      have HF := Lib.hid (show Below w.heap.size w wr ∧ wr.ownsRow w.heap.size 9 1 (.slice oa q oc) q (flat enS (cL pad L)) from ⟨HB1.out.trans (hb.mono hz1), ApG.own_base hown hz1⟩)
      clear hown hb
      go_wp2_with fail
      rw [HR.out]
      exact ⟨HF.out.1, _, rfl, HF.out.2⟩
end Go.Proofs.YthgcmlhmhojjhaaGreatDoor.BuD
