/- fec: what is wrong with a part; its section. -/
import Derived.Test.YtfadhgbhdoddpaaDoorTab
import Derived.Test.YtfadhgbhdoddpaaDoorTmB
namespace Go.Proofs.YtfadhgbhdoddpaaDoor.FcA
open Go Go.RowKit Go.Proofs.YtfadhgbhdoddpaaDoor.Q Go.Proofs.YtfadhgbhdoddpaaDoor.Mem Go.Proofs.YtfadhgbhdoddpaaDoor.Rg Go.Proofs.YtfadhgbhdoddpaaDoor.Ap Go.Proofs.YtfadhgbhdoddpaaDoor.St Go.Proofs.YtfadhgbhdoddpaaDoor.BiP Go.Proofs.YtfadhgbhdoddpaaDoor.SeA Go.Proofs.YtfadhgbhdoddpaaDoor.SeC Go.Proofs.YtfadhgbhdoddpaaDoor.SeE Go.Proofs.YtfadhgbhdoddpaaDoor.SeP Go.Proofs.YtfadhgbhdoddpaaDoor.TmA Go.Proofs.YtfadhgbhdoddpaaDoor.TmB Go.Proofs.YtfadhgbhdoddpaaDoor.Tab

/-- a part -/
structure Fp where
  pad : Int
  number : Int
  last : Int
  times : Ti
  text : ByteArray
def Fp.vals (p : Fp) : Array Value := #[.int .i64 p.pad, .int .i64 p.number, .int .i64 p.last, .int .i64 p.times.delta, .bool p.times.table, .bool p.times.frame, .int .i64 p.times.at_, .string p.text]
def Fp.ok (p : Fp) : Prop := (0 ≤ p.pad ∧ p.pad ≤ 191) ∧ (0 ≤ p.last ∧ p.last < 64) ∧ 0 ≤ p.number ∧ p.number ≤ p.last
instance (p : Fp) : Decidable p.ok := by unfold Fp.ok; infer_instance
def Fp.chk (p : Fp) : Int := if p.ok ∧ p.times.ok then (if isSz p.text.size then 0 else 12) else 15
/-- its section -/
def Fp.sec (p : Fp) : Sc := ⟨120, true, p.pad * 256 + 255, 31, true, p.number, p.last, encT p.times ++ p.text⟩
def Fp.enc (p : Fp) : ByteArray := if p.chk = 0 then bytesS p.sec else nob
theorem fchk_zero {p : Fp} (h : p.chk = 0) : p.ok ∧ p.times.ok ∧ isSz p.text.size = true := by
  unfold Fp.chk at h
  split at h
  · rename_i hk
    split at h
    · exact ⟨hk.1, hk.2, by assumption⟩
    · omega
  · omega
theorem sec_ok {p : Fp} (h : p.chk = 0) : p.sec.chk = 0 := by
  obtain ⟨⟨⟨a1, a2⟩, ⟨b1, b2⟩, c1, c2⟩, h2, h3⟩ := fchk_zero h
  refine chk_ok ?_ ?_
  · unfold Sc.ok Fp.sec; dsimp only; omega
  · have h4 : (encT p.times).size = 4 := by unfold encT; rw [if_pos (tchk_ok h2), str_size, tm_len]
    have h5 := isSz_true h3
    show ¬ 4084 < (encT p.times ++ p.text).size
    rw [ByteArray.size_append, h4]
    omega
set_option maxRecDepth 100000
set_option maxHeartbeats 1600000 in
theorem fcheck_any (p : Fp) (w : World) (hT : Tab 0 w) : Calls Tryd.prog 12 #[.agg p.vals] w fun e w' => e = .returned (.int .i64 p.chk) ∧ Below w.heap.size w w' := by
  have kt := fun V => tcheck_any p.times V
  have hc0 : ¬ p.ok → p.chk = 15 := fun h => by unfold Fp.chk; rw [if_neg (fun h' => h h'.1)]
  have hc1 : ¬ p.times.ok → p.chk = 15 := fun h => by unfold Fp.chk; rw [if_neg (fun h' => h h'.2)]
  have hc2 : p.ok → p.times.ok → p.chk = if isSz p.text.size then 0 else 12 := fun h h' => by unfold Fp.chk; rw [if_pos ⟨h, h'⟩]
  have htc : p.times.chk = if p.times.ok then 0 else 15 := rfl
  have kc := fun V (h : Tab 0 V) => contains_any 0 (p.text.size : Int) V h
  obtain ⟨c, hc⟩ : ∃ c, p.chk = c := ⟨_, rfl⟩
  rw [hc] at hc0 hc1 hc2 ⊢
  unfold Fp.ok at hc0 hc2
  have HB := bk1 w 25 p.vals
  unfold Fp.vals at HB ⊢
  obtain ⟨pa, nu, la, ti, te⟩ := p
  obtain ⟨d, ta, fr, a⟩ := ti
  unfold Ti.vals at kt
  dsimp only at *
  have HB := Lib.hid HB
  have H0 := Lib.hid hc0
  have HT := Lib.hid (hT.be (HB.out.be))
  by_cases hok : ((0 ≤ pa ∧ pa ≤ 191) ∧ (0 ≤ la ∧ la < 64) ∧ 0 ≤ nu ∧ nu ≤ la)
  · have t1 : decide (pa < 0) = false := by simp; omega
    have t2 : decide (191 < pa) = false := by simp; omega
    have t3 : decide (la < 0) = false := by simp; omega
    have t4 : decide (64 ≤ la) = false := by simp; omega
    have t5 : decide (nu < 0) = false := by simp; omega
    have t6 : decide (la < nu) = false := by simp; omega
    by_cases htk : Ti.ok ⟨d, ta, fr, a⟩
    · rw [htc, if_pos htk] at kt
      replace hc2 := Lib.hid (hc2 hok htk)
      clear hc0 hc1 htc hok htk hc hT H0
      go_enter Tryd.func12, Tryd.ntmps12
      go_wp2_with fail
      (with_reducible refine (kt _).mono ?_); rintro e1 W1 ⟨rfl, hb1⟩
      have HB1 := Lib.hid (HB.out.below hb1)
      have HT1 := Lib.hid (HT.out.be hb1)
      clear HB HT hb1 kt
      have c7 := Blk.cell (HB1.out.nth 0 rfl) 7 (v := .string te) rfl
      go_wp2_with fail
      have c7 := fun pX => Blk.cell (blk_ext (HB1.out.nth 0 rfl) pX) 7 (v := .string te) rfl
      refine Go.Proofs.YtfadhgbhdoddpaaDoor.Q.region_ext (by kernel_rfl) (by kernel_rfl) ?_
      repeat (go_big_quiet_step ((go_at_call 24; exact ext_call_same (kc _ (HT1.out.ext _)))))
      refine wpQuiet_nil ?_
      rintro w9 ⟨pq, rfl⟩
      have hE := (HB1.out.px pq).be
      cases hsz : isSz (te.size : Int) with
      | true =>
        rw [hsz] at hc2 kc
        go_wp2_with fail
        go_ret
        exact ⟨by rw [hc2.out]; rfl, hE⟩
      | false =>
        rw [hsz] at hc2 kc
        go_wp2_with fail
        go_ret
        exact ⟨by rw [hc2.out]; rfl, hE⟩
    · rw [htc, if_neg htk] at kt
      replace hc1 := Lib.hid (hc1 htk)
      clear hc0 hc2 htc hok htk hc hT H0 kc
      go_enter Tryd.func12, Tryd.ntmps12
      go_wp2_with fail
      (with_reducible refine (kt _).mono ?_); rintro e1 W1 ⟨rfl, hb1⟩
      have hE := (HB.out.below hb1).be
      go_wp2_with fail
      go_ret
      exact ⟨by rw [hc1.out]; rfl, hE⟩
  · replace hc0 := Lib.hid (hc0 hok)
    clear hc1 hc2 htc hc hT kt kc H0
    have hE := HB.out.be
    by_cases t1 : pa < 0
    · have t1 : decide (pa < 0) = true := by simpa using t1
      clear hok
      go_enter Tryd.func12, Tryd.ntmps12
      go_wp2_with fail
      go_ret
      exact ⟨by rw [hc0.out]; rfl, hE⟩
    · have r1 : decide (pa < 0) = false := by simpa using t1
      by_cases t2 : 191 < pa
      · have t2 : decide (191 < pa) = true := by simpa using t2
        clear hok t1
        go_enter Tryd.func12, Tryd.ntmps12
        go_wp2_with fail
        go_ret
        exact ⟨by rw [hc0.out]; rfl, hE⟩
      · have r2 : decide (191 < pa) = false := by simpa using t2
        by_cases t3 : la < 0
        · have t3 : decide (la < 0) = true := by simpa using t3
          clear hok t1 t2
          go_enter Tryd.func12, Tryd.ntmps12
          go_wp2_with fail
          go_ret
          exact ⟨by rw [hc0.out]; rfl, hE⟩
        · have r3 : decide (la < 0) = false := by simpa using t3
          by_cases t4 : 64 ≤ la
          · have t4 : decide (64 ≤ la) = true := by simpa using t4
            clear hok t1 t2 t3
            go_enter Tryd.func12, Tryd.ntmps12
            go_wp2_with fail
            go_ret
            exact ⟨by rw [hc0.out]; rfl, hE⟩
          · have r4 : decide (64 ≤ la) = false := by simpa using t4
            by_cases t5 : nu < 0
            · have t5 : decide (nu < 0) = true := by simpa using t5
              clear hok t1 t2 t3 t4
              go_enter Tryd.func12, Tryd.ntmps12
              go_wp2_with fail
              go_ret
              exact ⟨by rw [hc0.out]; rfl, hE⟩
            · have r5 : decide (nu < 0) = false := by simpa using t5
              have t6 : decide (la < nu) = true := by simp; omega
              clear hok t1 t2 t3 t4 t5
              go_enter Tryd.func12, Tryd.ntmps12
              go_wp2_with fail
              go_ret
              exact ⟨by rw [hc0.out]; rfl, hE⟩
end Go.Proofs.YtfadhgbhdoddpaaDoor.FcA
