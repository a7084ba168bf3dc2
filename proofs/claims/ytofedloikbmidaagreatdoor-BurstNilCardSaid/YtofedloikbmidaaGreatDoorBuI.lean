/- burst: New; what nil frames and nil gatherers answer; the law BurstNil. -/
import Derived.Test.YtofedloikbmidaaGreatDoorBuG
import Derived.Test.YtofedloikbmidaaGreatDoorPkV
namespace Go.Proofs.YtofedloikbmidaaGreatDoor.BuI
open Go Go.RowKit Go.Proofs.YtofedloikbmidaaGreatDoor.Q Go.Proofs.YtofedloikbmidaaGreatDoor.Mem Go.Proofs.YtofedloikbmidaaGreatDoor.Rg Go.Proofs.YtofedloikbmidaaGreatDoor.Ap Go.Proofs.YtofedloikbmidaaGreatDoor.St Go.Proofs.YtofedloikbmidaaGreatDoor.Tab Go.Proofs.YtofedloikbmidaaGreatDoor.TbM Go.Proofs.YtofedloikbmidaaGreatDoor.TbO Go.Proofs.YtofedloikbmidaaGreatDoor.BuG

set_option maxRecDepth 100000
theorem make_nil (mac : Int) (w : World) : Calls Tryz.prog 18 #[.pointer none, .int .i64 mac] w fun e w' => e = .returned (.tuple #[.slice none 0 0, .int .i64 2]) ∧ w = w' := by
  go_enter Tryz.func18, Tryz.ntmps18
  go_wp2_with fail
  go_ret2
  exact ⟨rfl, rfl⟩
theorem take_nil (t : ByteArray) (w : World) : Calls Tryz.prog 27 #[.pointer none, .string t] w fun e w' => e = .returned (.tuple #[.bool false, .int .i64 2]) ∧ w = w' := by
  go_enter Tryz.func27, Tryz.ntmps27
  go_wp2_with fail
  go_ret2
  exact ⟨rfl, rfl⟩
theorem taken_nil (w : World) : Calls Tryz.prog 28 #[.pointer none] w fun e w' => e = .returned (.int .i64 0) ∧ w = w' := by
  go_enter Tryz.func28, Tryz.ntmps28
  go_wp2_with fail
  go_ret
  exact ⟨rfl, rfl⟩
theorem end_nil (w : World) : Calls Tryz.prog 32 #[.pointer none] w fun e w' => e = .returned (.tuple #[.slice none 0 0, .int .i64 0, .int .i64 0]) ∧ w = w' := by
  go_enter Tryz.func32, Tryz.ntmps32
  go_wp2_with fail
  go_ret3
  exact ⟨rfl, rfl⟩
/-- a gatherer in memory -/
structure GaIn (w : World) (B g gt gr : Nat) (v : Value) (S : Tb) (mac : Int) (n : Nat) : Prop where
  box : Blk w g 164 #[.pointer (some ⟨gt, 0, none⟩), .int .i64 (S.R : Int), .int .i64 mac, .int .i64 (n : Int)]
  t : TbIn w B gt gr v S
  gb : B ≤ g
theorem bnew_yes (rows mac : Int) (w : World) (hT : Tab 1 w) (h : isSz rows = true) : Calls Tryz.prog 26 #[.int .i64 rows, .int .i64 mac] w fun e w' => Below w.heap.size w w' ∧ ∃ (R g gt gr : Nat), rows = (R : Int) ∧ R ≤ 1024 ∧ 0 < R ∧ e = .returned (.tuple #[.pointer (some ⟨g, 0, none⟩), .int .i64 0]) ∧ GaIn w' w.heap.size g gt gr (.slice none 0 0) (emptyT R) mac 0 := by
  have kt := TbO.new_any rows w hT
  rw [h] at kt
  have kt2 := kt.mono (fun e w' h => (show Below w.heap.size w w' ∧ ∃ (R gt gr : Nat), rows = (R : Int) ∧ R ≤ 1024 ∧ 0 < R ∧ e = .returned (.tuple #[.pointer (some ⟨gt, 0, none⟩), .int .i64 0]) ∧ TbIn w' w.heap.size gt gr (.slice none 0 0) (emptyT R) from ⟨h.1, by have := h.2; rw [if_pos rfl] at this; exact this⟩))
  clear kt h hT
  obtain ⟨Q, hQ⟩ : ∃ Q : Ending → World → Prop, Q = (fun e w' => Below w.heap.size w w' ∧ ∃ (R g gt gr : Nat), rows = (R : Int) ∧ R ≤ 1024 ∧ 0 < R ∧ e = .returned (.tuple #[.pointer (some ⟨g, 0, none⟩), .int .i64 0]) ∧ GaIn w' w.heap.size g gt gr (.slice none 0 0) (emptyT R) mac 0) := ⟨_, rfl⟩
  rw [← hQ]
  have HQ := Lib.hid hQ
  clear hQ
  go_enter Tryz.func26, Tryz.ntmps26
  go_wp2_with fail
  (with_reducible refine (kt2).mono ?_); rintro e1 W1 ⟨hb1, R, gt, gr, rfl, hR1, hR2, rfl, ht⟩
  have HF := Lib.hid (show Below w.heap.size w (W1.alloc (.cells #[.pointer (some ⟨gt, 0, none⟩), .int .i64 (R : Int), .int .i64 mac, .int .i64 0] 164)) ∧ GaIn (W1.alloc (.cells #[.pointer (some ⟨gt, 0, none⟩), .int .i64 (R : Int), .int .i64 mac, .int .i64 0] 164)) w.heap.size W1.heap.size gt gr (.slice none 0 0) (emptyT R) mac 0 from
    ⟨hb1.alloc hb1.size _, ⟨Blk.new _ _ _, ht.below ((Below.refl _ _).alloc (Nat.le_refl _) _), hb1.size⟩⟩)
  clear kt2 hb1 ht
  go_wp2_with fail
  rw [HQ.out]
  exact ⟨HF.out.1, R, W1.heap.size, gt, gr, rfl, hR1, hR2, rfl, HF.out.2⟩
theorem bnew_no (rows mac : Int) (w : World) (hT : Tab 1 w) (h : isSz rows = false) : Calls Tryz.prog 26 #[.int .i64 rows, .int .i64 mac] w fun e w' => e = .returned (.tuple #[.pointer none, .int .i64 23]) ∧ Below w.heap.size w w' := by
  have kt := TbO.new_any rows w hT
  rw [h] at kt
  have kt2 := kt.mono (fun e w' h => (show e = .returned (.tuple #[.pointer none, .int .i64 23]) ∧ Below w.heap.size w w' from ⟨by have := h.2; rw [if_neg (by decide)] at this; exact this, h.1⟩))
  clear kt h hT
  go_enter Tryz.func26, Tryz.ntmps26
  go_wp2_with fail
  (with_reducible refine (kt2).mono ?_); rintro e1 W1 ⟨rfl, hb1⟩
  go_wp2_with fail
  go_ret2
  exact ⟨rfl, hb1⟩
set_option maxHeartbeats 3200000 in
theorem nil_any (t : ByteArray) (a b : Int) (w : World) (hT : Tab 3 w) (hF : Tab 0 w) (hZ : Tab 1 w) : Calls Tryz.prog 8 #[.string t, .agg #[.int .i64 a, .int .i64 b]] w fun e w' => e = .returned (.bool true) ∧ Below w.heap.size w w' := by
  have HT := Lib.hid (And.intro hT (And.intro hF hZ))
  have km := fun V => make_nil a V
  have ktk := fun V => take_nil t V
  have ken := fun V => end_nil V
  have ktn := fun V => taken_nil V
  clear hT hF hZ
  by_cases hs : 5000 < t.size
  · have t1 : decide ((5000 : Int) < (t.size : Int)) = true := decide_eq_true (by omega)
    have t1' : decide (5000 < t.size) = true := decide_eq_true hs
    have HBE := Lib.hid ((Below.refl w.heap.size w).alloc (Nat.le_refl _) (.cells #[.int .i64 a, .int .i64 b] 48))
    clear hs
    go_enter Tryz.func8, Tryz.ntmps8
    have HTA := Lib.hid (awake_any _ (HT.out.1.be HBE.out) (HT.out.2.1.be HBE.out))
    go_wp2_with fail
    (with_reducible refine (HTA.out).mono ?_); rintro e1 W9 ⟨rfl, hb9⟩
    have hE := HBE.out.trans (hb9.mono HBE.out.size)
    go_wp2_with fail
    go_ret
    exact ⟨rfl, hE⟩
  · have t1 : decide ((5000 : Int) < (t.size : Int)) = false := decide_eq_false (by omega)
    have t1' : decide (5000 < t.size) = false := decide_eq_false hs
    clear hs
    by_cases h1 : a = 256
    · subst h1
      have kb := bnew_yes 256 b (w.alloc (.cells #[.int .i64 256, .int .i64 b] 48)) (HT.out.2.2.be ((Below.refl _ _).alloc (Nat.le_refl _) _)) (by decide)
      have hbk := Blk.new w 48 #[.int .i64 256, .int .i64 b]
      have d0 := Blk.cell (hbk) 0 (v := .int .i64 256) rfl
      have d1 := Blk.cell (hbk) 1 (v := .int .i64 b) rfl
      go_enter Tryz.func8, Tryz.ntmps8
      go_wp2_with fail
      (with_reducible refine (km _).mono ?_); rintro e1 W0 ⟨rfl, rfl⟩
      go_wp2_with fail
      (with_reducible refine (kb).mono ?_); rintro e1 W2 ⟨hb2, R, g, gt, gr, _, _, _, rfl, _⟩
      have HB2 := Lib.hid (((Below.refl w.heap.size w).alloc (Nat.le_refl _) (.cells #[.int .i64 256, .int .i64 b] 48)).trans (hb2.mono (by simp)))
      have hbk2 := Blk.below hbk hb2 (Blk.lt hbk)
      have x0 := Blk.cell (hbk2) 0 (v := .int .i64 256) rfl
      have x1 := Blk.cell (hbk2) 1 (v := .int .i64 b) rfl
      clear kb hb2 hbk d0 d1 hbk2
      go_wp2_with fail
      (with_reducible refine (ktk _).mono ?_); rintro e1 W3 ⟨rfl, rfl⟩
      go_wp2_with fail
      (with_reducible refine (ken _).mono ?_); rintro e1 W3 ⟨rfl, rfl⟩
      go_wp2_with fail
      (with_reducible refine (ktn _).mono ?_); rintro e1 W3 ⟨rfl, rfl⟩
      have HTA := Lib.hid (awake_any W2 (HT.out.1.be HB2.out) (HT.out.2.1.be HB2.out))
      go_wp2_with fail
      (with_reducible refine (HTA.out).mono ?_); rintro e1 W9 ⟨rfl, hb9⟩
      have hE := HB2.out.trans (hb9.mono HB2.out.size)
      go_wp2_with fail
      go_ret
      exact ⟨rfl, hE⟩
    · by_cases h2 : a = 512
      · subst h2
        clear h1
        have kb := bnew_yes 512 b (w.alloc (.cells #[.int .i64 512, .int .i64 b] 48)) (HT.out.2.2.be ((Below.refl _ _).alloc (Nat.le_refl _) _)) (by decide)
        have hbk := Blk.new w 48 #[.int .i64 512, .int .i64 b]
        have d0 := Blk.cell (hbk) 0 (v := .int .i64 512) rfl
        have d1 := Blk.cell (hbk) 1 (v := .int .i64 b) rfl
        go_enter Tryz.func8, Tryz.ntmps8
        go_wp2_with fail
        (with_reducible refine (km _).mono ?_); rintro e1 W0 ⟨rfl, rfl⟩
        go_wp2_with fail
        (with_reducible refine (kb).mono ?_); rintro e1 W2 ⟨hb2, R, g, gt, gr, _, _, _, rfl, _⟩
        have HB2 := Lib.hid (((Below.refl w.heap.size w).alloc (Nat.le_refl _) (.cells #[.int .i64 512, .int .i64 b] 48)).trans (hb2.mono (by simp)))
        have hbk2 := Blk.below hbk hb2 (Blk.lt hbk)
        have x0 := Blk.cell (hbk2) 0 (v := .int .i64 512) rfl
        have x1 := Blk.cell (hbk2) 1 (v := .int .i64 b) rfl
        clear kb hb2 hbk d0 d1 hbk2
        go_wp2_with fail
        (with_reducible refine (ktk _).mono ?_); rintro e1 W3 ⟨rfl, rfl⟩
        go_wp2_with fail
        (with_reducible refine (ken _).mono ?_); rintro e1 W3 ⟨rfl, rfl⟩
        go_wp2_with fail
        (with_reducible refine (ktn _).mono ?_); rintro e1 W3 ⟨rfl, rfl⟩
        have HTA := Lib.hid (awake_any W2 (HT.out.1.be HB2.out) (HT.out.2.1.be HB2.out))
        go_wp2_with fail
        (with_reducible refine (HTA.out).mono ?_); rintro e1 W9 ⟨rfl, hb9⟩
        have hE := HB2.out.trans (hb9.mono HB2.out.size)
        go_wp2_with fail
        go_ret
        exact ⟨rfl, hE⟩
      · by_cases h3 : a = 768
        · subst h3
          clear h1 h2
          have kb := bnew_yes 768 b (w.alloc (.cells #[.int .i64 768, .int .i64 b] 48)) (HT.out.2.2.be ((Below.refl _ _).alloc (Nat.le_refl _) _)) (by decide)
          have hbk := Blk.new w 48 #[.int .i64 768, .int .i64 b]
          have d0 := Blk.cell (hbk) 0 (v := .int .i64 768) rfl
          have d1 := Blk.cell (hbk) 1 (v := .int .i64 b) rfl
          go_enter Tryz.func8, Tryz.ntmps8
          go_wp2_with fail
          (with_reducible refine (km _).mono ?_); rintro e1 W0 ⟨rfl, rfl⟩
          go_wp2_with fail
          (with_reducible refine (kb).mono ?_); rintro e1 W2 ⟨hb2, R, g, gt, gr, _, _, _, rfl, _⟩
          have HB2 := Lib.hid (((Below.refl w.heap.size w).alloc (Nat.le_refl _) (.cells #[.int .i64 768, .int .i64 b] 48)).trans (hb2.mono (by simp)))
          have hbk2 := Blk.below hbk hb2 (Blk.lt hbk)
          have x0 := Blk.cell (hbk2) 0 (v := .int .i64 768) rfl
          have x1 := Blk.cell (hbk2) 1 (v := .int .i64 b) rfl
          clear kb hb2 hbk d0 d1 hbk2
          go_wp2_with fail
          (with_reducible refine (ktk _).mono ?_); rintro e1 W3 ⟨rfl, rfl⟩
          go_wp2_with fail
          (with_reducible refine (ken _).mono ?_); rintro e1 W3 ⟨rfl, rfl⟩
          go_wp2_with fail
          (with_reducible refine (ktn _).mono ?_); rintro e1 W3 ⟨rfl, rfl⟩
          have HTA := Lib.hid (awake_any W2 (HT.out.1.be HB2.out) (HT.out.2.1.be HB2.out))
          go_wp2_with fail
          (with_reducible refine (HTA.out).mono ?_); rintro e1 W9 ⟨rfl, hb9⟩
          have hE := HB2.out.trans (hb9.mono HB2.out.size)
          go_wp2_with fail
          go_ret
          exact ⟨rfl, hE⟩
        · by_cases h4 : a = 1024
          · subst h4
            clear h1 h2 h3
            have kb := bnew_yes 1024 b (w.alloc (.cells #[.int .i64 1024, .int .i64 b] 48)) (HT.out.2.2.be ((Below.refl _ _).alloc (Nat.le_refl _) _)) (by decide)
            have hbk := Blk.new w 48 #[.int .i64 1024, .int .i64 b]
            have d0 := Blk.cell (hbk) 0 (v := .int .i64 1024) rfl
            have d1 := Blk.cell (hbk) 1 (v := .int .i64 b) rfl
            go_enter Tryz.func8, Tryz.ntmps8
            go_wp2_with fail
            (with_reducible refine (km _).mono ?_); rintro e1 W0 ⟨rfl, rfl⟩
            go_wp2_with fail
            (with_reducible refine (kb).mono ?_); rintro e1 W2 ⟨hb2, R, g, gt, gr, _, _, _, rfl, _⟩
            have HB2 := Lib.hid (((Below.refl w.heap.size w).alloc (Nat.le_refl _) (.cells #[.int .i64 1024, .int .i64 b] 48)).trans (hb2.mono (by simp)))
            have hbk2 := Blk.below hbk hb2 (Blk.lt hbk)
            have x0 := Blk.cell (hbk2) 0 (v := .int .i64 1024) rfl
            have x1 := Blk.cell (hbk2) 1 (v := .int .i64 b) rfl
            clear kb hb2 hbk d0 d1 hbk2
            go_wp2_with fail
            (with_reducible refine (ktk _).mono ?_); rintro e1 W3 ⟨rfl, rfl⟩
            go_wp2_with fail
            (with_reducible refine (ken _).mono ?_); rintro e1 W3 ⟨rfl, rfl⟩
            go_wp2_with fail
            (with_reducible refine (ktn _).mono ?_); rintro e1 W3 ⟨rfl, rfl⟩
            have HTA := Lib.hid (awake_any W2 (HT.out.1.be HB2.out) (HT.out.2.1.be HB2.out))
            go_wp2_with fail
            (with_reducible refine (HTA.out).mono ?_); rintro e1 W9 ⟨rfl, hb9⟩
            have hE := HB2.out.trans (hb9.mono HB2.out.size)
            go_wp2_with fail
            go_ret
            exact ⟨rfl, hE⟩
          · have e1 : (a == 256) = false := beq_eq_false_iff_ne.2 h1
            have e2 : (a == 512) = false := beq_eq_false_iff_ne.2 h2
            have e3 : (a == 768) = false := beq_eq_false_iff_ne.2 h3
            have e4 : (a == 1024) = false := beq_eq_false_iff_ne.2 h4
            have hz : isSz a = false := by unfold isSz; exact decide_eq_false (fun h => by omega)
            have kb := bnew_no a b (w.alloc (.cells #[.int .i64 a, .int .i64 b] 48)) (HT.out.2.2.be ((Below.refl _ _).alloc (Nat.le_refl _) _)) hz
            have hbk := Blk.new w 48 #[.int .i64 a, .int .i64 b]
            have d0 := Blk.cell (hbk) 0 (v := .int .i64 a) rfl
            have d1 := Blk.cell (hbk) 1 (v := .int .i64 b) rfl
            clear h1 h2 h3 h4 hz
            go_enter Tryz.func8, Tryz.ntmps8
            go_wp2_with fail
            (with_reducible refine (km _).mono ?_); rintro e1 W0 ⟨rfl, rfl⟩
            go_wp2_with fail
            (with_reducible refine (kb).mono ?_); rintro e1 W2 ⟨rfl, hb2⟩
            have HB2 := Lib.hid (((Below.refl w.heap.size w).alloc (Nat.le_refl _) (.cells #[.int .i64 a, .int .i64 b] 48)).trans (hb2.mono (by simp)))
            have hbk2 := Blk.below hbk hb2 (Blk.lt hbk)
            have x0 := Blk.cell (hbk2) 0 (v := .int .i64 a) rfl
            have x1 := Blk.cell (hbk2) 1 (v := .int .i64 b) rfl
            clear kb hb2 hbk d0 d1 hbk2
            go_wp2_with fail
            (with_reducible refine (ktk _).mono ?_); rintro e1 W3 ⟨rfl, rfl⟩
            go_wp2_with fail
            (with_reducible refine (ken _).mono ?_); rintro e1 W3 ⟨rfl, rfl⟩
            go_wp2_with fail
            (with_reducible refine (ktn _).mono ?_); rintro e1 W3 ⟨rfl, rfl⟩
            have HTA := Lib.hid (awake_any W2 (HT.out.1.be HB2.out) (HT.out.2.1.be HB2.out))
            go_wp2_with fail
            (with_reducible refine (HTA.out).mono ?_); rintro e1 W9 ⟨rfl, hb9⟩
            have hE := HB2.out.trans (hb9.mono HB2.out.size)
            go_wp2_with fail
            go_ret
            exact ⟨rfl, hE⟩
end Go.Proofs.YtofedloikbmidaaGreatDoor.BuI
