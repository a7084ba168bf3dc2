/- The law's own: in, sure. -/
import Derived.Test.YtlocgilgdnhnlaaGreatDoorLaA
import Derived.Test.YtlocgilgdnhnlaaGreatDoorFrC
namespace Go.Proofs.YtlocgilgdnhnlaaGreatDoor.LaG
open Go Go.RowKit Go.Proofs.YtlocgilgdnhnlaaGreatDoor.Q Go.Proofs.YtlocgilgdnhnlaaGreatDoor.Mem Go.Proofs.YtlocgilgdnhnlaaGreatDoor.Rg Go.Proofs.YtlocgilgdnhnlaaGreatDoor.Ap Go.Proofs.YtlocgilgdnhnlaaGreatDoor.St Go.Proofs.YtlocgilgdnhnlaaGreatDoor.Tab Go.Proofs.YtlocgilgdnhnlaaGreatDoor.Ints Go.Proofs.YtlocgilgdnhnlaaGreatDoor.FrA

set_option maxRecDepth 100000
theorem in_any (w : World) (a : Option Addr) (c : Nat) (zs : List Int) (x : Int) (n : Nat) (hn : zs.length = n) (hl : n ≤ 9223372036854775807) (h : Ints w a zs) :
    Calls Tryz.prog 16 #[.slice a n c, .int .i64 x] w fun e w' => e = .returned (.bool (decide (x ∈ zs))) ∧ w = w' := by
  have HH := Lib.hid h
  have HN := Lib.hid hn
  have s0 : (n : Int) ≤ 9223372036854775807 := by omega
  clear h hn hl
  go_enter Tryz.func16, Tryz.ntmps16
  go_wp2_with fail
  go_loop [5] (fun iv => ∃ k : Nat, k ≤ n ∧ iv = .int .i64 k ∧ Hid (x ∉ zs.take k)) (fun iv => n - (intOf iv).toNat)
  case atStart => exact ⟨0, by omega, rfl, Lib.hid (by simp)⟩
  case round =>
    obtain ⟨k, hk, rfl, HK⟩ := hrel
    have k0 : (0 : Int) ≤ (k : Int) := Int.natCast_nonneg _
    by_cases hkn : k < n
    · have t0 : decide ((k : Int) < (n : Int)) = true := decide_eq_true (by omega)
      have t0' : decide (k < n) = true := decide_eq_true hkn
      obtain ⟨z, hz⟩ : ∃ z, zs[k]? = some z := ⟨_, List.getElem?_eq_getElem (by rw [HN.out]; exact hkn)⟩
      obtain ⟨b, o, rfl, hlt, hc⟩ := HH.out k z hz
      have k1 : (k : Int) < (n : Int) := by omega
      have HZ := Lib.hid hz
      clear hz
      by_cases hx : z = x
      · have t1 : (z == x) = true := by simpa using hx
        have HR := Lib.hid (show decide (x ∈ zs) = true from decide_eq_true (by rw [← hx]; exact List.mem_of_getElem? HZ.out))
        clear hx
        go_wp2_with fail
        go_ret
        exact ⟨by rw [HR.out]; rfl, rfl⟩
      · have t1 : (z == x) = false := by simpa using hx
        have HX := Lib.hid hx
        clear hx
        go_wp2_with fail
        go_round
        case rel => exact ⟨k + 1, by omega, by go_num, Lib.hid (by
          rw [List.take_add_one, HZ.out, Option.toList_some, List.mem_append, List.mem_singleton]
          rintro (h | h)
          · exact HK.out h
          · exact HX.out h.symm)⟩
        case measure => simp [intOf]; omega
    · obtain rfl : k = n := by omega
      have t0 : decide ((k : Int) < (k : Int)) = false := decide_eq_false (by omega)
      have t0' : decide (k < k) = false := decide_eq_false (by omega)
      have HR := Lib.hid (show decide (x ∈ zs) = false from decide_eq_false (by have := HK.out; rwa [← HN.out, List.take_length] at this))
      go_wp2_with fail
      go_ret
      exact ⟨by rw [HR.out]; rfl, rfl⟩
/-- may a frame be sent so? -/
def small (z : Int) : Bool := decide (0 ≤ z) && decide (z ≤ 1000)
def sureB (R C K : Int) (l : List Int) (g p : Nat) : Bool := l.all small && (okC R C K && decide (R = 256) && decide (l.length ≤ 20) && decide (g ≤ 30) && decide (p ≤ 64))
set_option maxHeartbeats 1600000 in
theorem sure_any (w : World) (R C K : Int) (la ga pa : Option Addr) (ln lc gn gc pn pc : Nat) (pad : Bool) (l : List Int) (hT : Tab 1 w) (hl : l.length = ln) (hll : ln ≤ 9223372036854775807) (h : Ints w la l) :
    Calls Tryz.prog 5 #[.agg #[.int .i64 R, .int .i64 C, .int .i64 K], .slice la ln lc, .agg #[.slice ga gn gc, .slice pa pn pc, .bool pad]] w fun e w' => e = .returned (.bool (sureB R C K l gn pn)) ∧ Below w.heap.size w w' := by
  obtain ⟨Q, hQ⟩ : ∃ Q : Ending → World → Prop, Q = (fun e w' => e = .returned (.bool (sureB R C K l gn pn)) ∧ Below w.heap.size w w') := ⟨_, rfl⟩
  rw [← hQ]
  have HR := Lib.hid hQ
  have HH := Lib.hid h
  have HN := Lib.hid hl
  have s0 : (ln : Int) ≤ 9223372036854775807 := by omega
  have HS := Lib.hid (show sureB R C K l gn pn = (l.all small && (okC R C K && decide (R = 256) && decide (l.length ≤ 20) && decide (gn ≤ 30) && decide (pn ≤ 64))) from rfl)
  have hB1 := Blk.new w 23 #[.int .i64 R, .int .i64 C, .int .i64 K]
  have hbe1 := (Below.refl _ w).alloc (Nat.le_refl _) (.cells #[.int .i64 R, .int .i64 C, .int .i64 K] 23)
  have hB2 := hB1.alloc (.cells #[.slice ga gn gc, .slice pa pn pc, .bool pad] 26)
  have hB3 := Blk.newAt (w.alloc (.cells #[.int .i64 R, .int .i64 C, .int .i64 K] 23)) 26 #[.slice ga gn gc, .slice pa pn pc, .bool pad] (show w.heap.size + 1 = (w.alloc (.cells #[.int .i64 R, .int .i64 C, .int .i64 K] 23)).heap.size by simp)
  have hbe2 := hbe1.alloc hbe1.size (.cells #[.slice ga gn gc, .slice pa pn pc, .bool pad] 26)
  obtain ⟨V, hV⟩ : ∃ V, (w.alloc (.cells #[.int .i64 R, .int .i64 C, .int .i64 K] 23)).alloc (.cells #[.slice ga gn gc, .slice pa pn pc, .bool pad] 26) = V := ⟨_, rfl⟩
  rw [hV] at hB2 hB3 hbe2
  clear h hl hll hQ hB1 hbe1
  have kc := fun p => check_any R C K (ext V p) ((hT.be hbe2).ext p)
  have HV := Lib.hid (HH.out.below (Nat.le_refl _) hbe2)
  have c0 := Blk.cell (hB2) 0 (v := .int .i64 R) rfl
  have c1 := Blk.cell (hB2) 1 (v := .int .i64 C) rfl
  have c2 := Blk.cell (hB2) 2 (v := .int .i64 K) rfl
  have d0 := Blk.cell (hB3) 0 (v := .slice ga gn gc) rfl
  have d1 := Blk.cell (hB3) 1 (v := .slice pa pn pc) rfl
  have d2 := Blk.cell (hB3) 2 (v := .bool pad) rfl
  have cx0 := fun pX => Blk.cell (blk_ext (hB2) pX) 0 (v := .int .i64 R) rfl
  have cx1 := fun pX => Blk.cell (blk_ext (hB2) pX) 1 (v := .int .i64 C) rfl
  have cx2 := fun pX => Blk.cell (blk_ext (hB2) pX) 2 (v := .int .i64 K) rfl
  have dx0 := fun pX => Blk.cell (blk_ext (hB3) pX) 0 (v := .slice ga gn gc) rfl
  have dx1 := fun pX => Blk.cell (blk_ext (hB3) pX) 1 (v := .slice pa pn pc) rfl
  have dx2 := fun pX => Blk.cell (blk_ext (hB3) pX) 2 (v := .bool pad) rfl
  have kc0 := check_any R C K V (hT.be hbe2)
  have HB2 := Lib.hid hB2
  have HB3 := Lib.hid hB3
  clear hT hB2 hB3 kc
  go_enter Tryz.func5, Tryz.ntmps5
  go_wp2_with fail
  go_loop [7] (fun iv => ∃ k : Nat, k ≤ ln ∧ iv = .int .i64 k ∧ Hid ((l.take k).all small = true)) (fun iv => ln - (intOf iv).toNat)
  case atStart => exact ⟨0, by omega, rfl, Lib.hid rfl⟩
  case round =>
    obtain ⟨k, hk, rfl, HK⟩ := hrel
    have k0 : (0 : Int) ≤ (k : Int) := Int.natCast_nonneg _
    by_cases hkn : k < ln
    · have t0 : decide ((k : Int) < (ln : Int)) = true := decide_eq_true (by omega)
      have t0' : decide (k < ln) = true := decide_eq_true hkn
      obtain ⟨z, hz⟩ : ∃ z, l[k]? = some z := ⟨_, List.getElem?_eq_getElem (by rw [HN.out]; exact hkn)⟩
      obtain ⟨b, o, rfl, hlt, hc⟩ := HV.out k z hz
      have k1 : (k : Int) < (ln : Int) := by omega
      have HZ := Lib.hid hz
      clear hz
      by_cases h1 : z < 0
      · have t1 : decide (z < 0) = true := decide_eq_true h1
        have HF := Lib.hid (show l.all small = false from by
          rw [List.all_eq_false]
          exact ⟨z, List.mem_of_getElem? HZ.out, by unfold small; rw [decide_eq_false (by omega)]; simp⟩)
        clear h1
        go_wp2_with fail
        rw [HR.out]
        exact ⟨by rw [HS.out, HF.out]; rfl, hbe2⟩
      · have t1 : decide (z < 0) = false := decide_eq_false h1
        by_cases h2 : 1000 < z
        · have t2 : decide (1000 < z) = true := decide_eq_true h2
          have HF := Lib.hid (show l.all small = false from by
            rw [List.all_eq_false]
            exact ⟨z, List.mem_of_getElem? HZ.out, by unfold small; rw [decide_eq_false (show ¬ z ≤ 1000 by omega)]; simp⟩)
          clear h1 h2
          go_wp2_with fail
          rw [HR.out]
          exact ⟨by rw [HS.out, HF.out]; rfl, hbe2⟩
        · have t2 : decide (1000 < z) = false := decide_eq_false h2
          have HT := Lib.hid (show small z = true from by unfold small; rw [decide_eq_true (by omega), decide_eq_true (by omega)]; rfl)
          clear h1 h2
          go_wp2_with fail
          go_round
          case rel => exact ⟨k + 1, by omega, by go_num, Lib.hid (by rw [List.take_add_one, HZ.out, Option.toList_some, List.all_append, HK.out]; simp [HT.out])⟩
          case measure => simp [intOf]; omega
    · obtain rfl : k = ln := by omega
      have t0 : decide ((k : Int) < (k : Int)) = false := decide_eq_false (by omega)
      have t0' : decide (k < k) = false := decide_eq_false (by omega)
      have HA := Lib.hid (show l.all small = true from by have := HK.out; rwa [← HN.out, List.take_length] at this)
      rw [← HN.out] at s0
      clear hV HK HH HV
      obtain ⟨z, hz⟩ : ∃ z, okC R C K = z := ⟨_, rfl⟩
      rw [hz] at kc0
      cases z with
      | false =>
        rw [if_neg (by decide)] at kc0
        have HZ := Lib.hid (show (okC R C K && decide (R = 256) && decide (l.length ≤ 20) && decide (gn ≤ 30) && decide (pn ≤ 64)) = false by rw [hz]; rfl)
        clear hz
        try clear h4
        try clear h3
        try clear h2
        try clear h1
        go_wp2_with fail
        (with_reducible refine (kc0).mono ?_); rintro e1 W1 ⟨rfl, hb1⟩
        have hB4 := Blk.below HB2.out hb1 HB2.out.lt
        have hB5 := Blk.below HB3.out hb1 HB3.out.lt
        have e0 := Blk.cell (hB4) 0 (v := .int .i64 R) rfl
        have e1 := Blk.cell (hB4) 1 (v := .int .i64 C) rfl
        have e2 := Blk.cell (hB4) 2 (v := .int .i64 K) rfl
        have f0 := Blk.cell (hB5) 0 (v := .slice ga gn gc) rfl
        have f1 := Blk.cell (hB5) 1 (v := .slice pa pn pc) rfl
        have f2 := Blk.cell (hB5) 2 (v := .bool pad) rfl
        have hb9 := hbe2.trans (hb1.mono hbe2.size)
        clear kc0 hB4 hB5 hb1
        go_wp2_with fail
        rw [HR.out]
        exact ⟨by rw [HS.out, HA.out, HZ.out]; rfl, hb9⟩
      | true =>
        rw [if_pos rfl] at kc0
        by_cases h1 : R = 256
        · have t1 : (R == 256) = true := by simpa using h1
          by_cases h2 : k ≤ 20
          · have t2 : decide ((k : Int) ≤ 20) = true := decide_eq_true (by omega)
            by_cases h3 : gn ≤ 30
            · have t3 : decide ((gn : Int) ≤ 30) = true := decide_eq_true (by omega)
              by_cases h4 : pn ≤ 64
              · have t4 : decide ((pn : Int) ≤ 64) = true := decide_eq_true (by omega)
                have HZ := Lib.hid (show (okC R C K && decide (R = 256) && decide (l.length ≤ 20) && decide (gn ≤ 30) && decide (pn ≤ 64)) = true by rw [hz, h1, HN.out]; simp [h2, h3, h4])
                clear hz
                try clear h4
                try clear h3
                try clear h2
                try clear h1
                go_wp2_with fail
                (with_reducible refine (kc0).mono ?_); rintro e1 W1 ⟨rfl, hb1⟩
                have hB4 := Blk.below HB2.out hb1 HB2.out.lt
                have hB5 := Blk.below HB3.out hb1 HB3.out.lt
                have e0 := Blk.cell (hB4) 0 (v := .int .i64 R) rfl
                have e1 := Blk.cell (hB4) 1 (v := .int .i64 C) rfl
                have e2 := Blk.cell (hB4) 2 (v := .int .i64 K) rfl
                have f0 := Blk.cell (hB5) 0 (v := .slice ga gn gc) rfl
                have f1 := Blk.cell (hB5) 1 (v := .slice pa pn pc) rfl
                have f2 := Blk.cell (hB5) 2 (v := .bool pad) rfl
                have hb9 := hbe2.trans (hb1.mono hbe2.size)
                clear kc0 hB4 hB5 hb1
                go_wp2_with fail
                rw [HR.out]
                exact ⟨by rw [HS.out, HA.out, HZ.out]; rfl, hb9⟩
              · have t4 : decide ((pn : Int) ≤ 64) = false := decide_eq_false (by omega)
                have HZ := Lib.hid (show (okC R C K && decide (R = 256) && decide (l.length ≤ 20) && decide (gn ≤ 30) && decide (pn ≤ 64)) = false by rw [hz, h1, HN.out]; simp [h2, h3, h4])
                clear hz
                try clear h4
                try clear h3
                try clear h2
                try clear h1
                go_wp2_with fail
                (with_reducible refine (kc0).mono ?_); rintro e1 W1 ⟨rfl, hb1⟩
                have hB4 := Blk.below HB2.out hb1 HB2.out.lt
                have hB5 := Blk.below HB3.out hb1 HB3.out.lt
                have e0 := Blk.cell (hB4) 0 (v := .int .i64 R) rfl
                have e1 := Blk.cell (hB4) 1 (v := .int .i64 C) rfl
                have e2 := Blk.cell (hB4) 2 (v := .int .i64 K) rfl
                have f0 := Blk.cell (hB5) 0 (v := .slice ga gn gc) rfl
                have f1 := Blk.cell (hB5) 1 (v := .slice pa pn pc) rfl
                have f2 := Blk.cell (hB5) 2 (v := .bool pad) rfl
                have hb9 := hbe2.trans (hb1.mono hbe2.size)
                clear kc0 hB4 hB5 hb1
                go_wp2_with fail
                rw [HR.out]
                exact ⟨by rw [HS.out, HA.out, HZ.out]; rfl, hb9⟩
            · have t3 : decide ((gn : Int) ≤ 30) = false := decide_eq_false (by omega)
              have HZ := Lib.hid (show (okC R C K && decide (R = 256) && decide (l.length ≤ 20) && decide (gn ≤ 30) && decide (pn ≤ 64)) = false by rw [hz, h1, HN.out]; simp [h2, h3])
              clear hz
              try clear h4
              try clear h3
              try clear h2
              try clear h1
              go_wp2_with fail
              (with_reducible refine (kc0).mono ?_); rintro e1 W1 ⟨rfl, hb1⟩
              have hB4 := Blk.below HB2.out hb1 HB2.out.lt
              have hB5 := Blk.below HB3.out hb1 HB3.out.lt
              have e0 := Blk.cell (hB4) 0 (v := .int .i64 R) rfl
              have e1 := Blk.cell (hB4) 1 (v := .int .i64 C) rfl
              have e2 := Blk.cell (hB4) 2 (v := .int .i64 K) rfl
              have f0 := Blk.cell (hB5) 0 (v := .slice ga gn gc) rfl
              have f1 := Blk.cell (hB5) 1 (v := .slice pa pn pc) rfl
              have f2 := Blk.cell (hB5) 2 (v := .bool pad) rfl
              have hb9 := hbe2.trans (hb1.mono hbe2.size)
              clear kc0 hB4 hB5 hb1
              go_wp2_with fail
              rw [HR.out]
              exact ⟨by rw [HS.out, HA.out, HZ.out]; rfl, hb9⟩
          · have t2 : decide ((k : Int) ≤ 20) = false := decide_eq_false (by omega)
            have HZ := Lib.hid (show (okC R C K && decide (R = 256) && decide (l.length ≤ 20) && decide (gn ≤ 30) && decide (pn ≤ 64)) = false by rw [hz, h1, HN.out]; simp [h2])
            clear hz
            try clear h4
            try clear h3
            try clear h2
            try clear h1
            go_wp2_with fail
            (with_reducible refine (kc0).mono ?_); rintro e1 W1 ⟨rfl, hb1⟩
            have hB4 := Blk.below HB2.out hb1 HB2.out.lt
            have hB5 := Blk.below HB3.out hb1 HB3.out.lt
            have e0 := Blk.cell (hB4) 0 (v := .int .i64 R) rfl
            have e1 := Blk.cell (hB4) 1 (v := .int .i64 C) rfl
            have e2 := Blk.cell (hB4) 2 (v := .int .i64 K) rfl
            have f0 := Blk.cell (hB5) 0 (v := .slice ga gn gc) rfl
            have f1 := Blk.cell (hB5) 1 (v := .slice pa pn pc) rfl
            have f2 := Blk.cell (hB5) 2 (v := .bool pad) rfl
            have hb9 := hbe2.trans (hb1.mono hbe2.size)
            clear kc0 hB4 hB5 hb1
            go_wp2_with fail
            rw [HR.out]
            exact ⟨by rw [HS.out, HA.out, HZ.out]; rfl, hb9⟩
        · have t1 : (R == 256) = false := by simpa using h1
          have HZ := Lib.hid (show (okC R C K && decide (R = 256) && decide (l.length ≤ 20) && decide (gn ≤ 30) && decide (pn ≤ 64)) = false by rw [hz]; simp [h1])
          clear hz
          try clear h4
          try clear h3
          try clear h2
          try clear h1
          go_wp2_with fail
          (with_reducible refine (kc0).mono ?_); rintro e1 W1 ⟨rfl, hb1⟩
          have hB4 := Blk.below HB2.out hb1 HB2.out.lt
          have hB5 := Blk.below HB3.out hb1 HB3.out.lt
          have e0 := Blk.cell (hB4) 0 (v := .int .i64 R) rfl
          have e1 := Blk.cell (hB4) 1 (v := .int .i64 C) rfl
          have e2 := Blk.cell (hB4) 2 (v := .int .i64 K) rfl
          have f0 := Blk.cell (hB5) 0 (v := .slice ga gn gc) rfl
          have f1 := Blk.cell (hB5) 1 (v := .slice pa pn pc) rfl
          have f2 := Blk.cell (hB5) 2 (v := .bool pad) rfl
          have hb9 := hbe2.trans (hb1.mono hbe2.size)
          clear kc0 hB4 hB5 hb1
          go_wp2_with fail
          rw [HR.out]
          exact ⟨by rw [HS.out, HA.out, HZ.out]; rfl, hb9⟩
end Go.Proofs.YtlocgilgdnhnlaaGreatDoor.LaG
