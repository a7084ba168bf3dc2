/- The document's table: lay, Put, Parity, Pad. -/
import Derived.Test.YtnjbacdgecoedaaDoorRtM
namespace Go.Proofs.YtnjbacdgecoedaaDoor.RtN
open Go Go.RowKit Go.Proofs.YtnjbacdgecoedaaDoor.Q Go.Proofs.YtnjbacdgecoedaaDoor.Mem Go.Proofs.YtnjbacdgecoedaaDoor.Rg Go.Proofs.YtnjbacdgecoedaaDoor.Ap Go.Proofs.YtnjbacdgecoedaaDoor.ApG Go.Proofs.YtnjbacdgecoedaaDoor.St Go.Proofs.YtnjbacdgecoedaaDoor.BiW Go.Proofs.YtnjbacdgecoedaaDoor.TlS Go.Proofs.YtnjbacdgecoedaaDoor.TbM Go.Proofs.YtnjbacdgecoedaaDoor.TbN Go.Proofs.YtnjbacdgecoedaaDoor.TbO Go.Proofs.YtnjbacdgecoedaaDoor.TbP Go.Proofs.YtnjbacdgecoedaaDoor.TbR Go.Proofs.YtnjbacdgecoedaaDoor.RtM

set_option maxRecDepth 100000
variable {w w' : World} {B gx g1 g2 g3 : Nat} {S : Tb}
theorem rt_b (h : RtIn w B gx g1 g2 g3 S) (p : Nat) (c : UInt8) : RtIn (w.setCell ⟨g1, p, none⟩ (u8v c)) B gx g1 g2 g3 { S with b := fun i => if i = p then c else S.b i } :=
  ⟨Blk.far h.box (show gx ≠ g1 from h.n1) _, (h.b.put p (u8v c)).congr (fun i _ => by by_cases e : i = p <;> simp [e]), h.is.far (show g2 ≠ g1 from h.n4.symm) _, h.st.far (show g3 ≠ g1 from h.n5.symm) _, h.n1, h.n2, h.n3, h.n4, h.n5, h.n6, h.bx, h.b1, h.b2, h.b3⟩
theorem rt_is (h : RtIn w B gx g1 g2 g3 S) (p : Nat) : RtIn (w.setCell ⟨g2, p, none⟩ (.bool true)) B gx g1 g2 g3 (S.mark p) :=
  ⟨Blk.far h.box (show gx ≠ g2 from h.n2) _, h.b.far (show g1 ≠ g2 from h.n4) _, (h.is.put p (.bool true)).congr (fun i _ => by unfold Tb.mark; by_cases e : i = p <;> simp [e]), h.st.far (show g3 ≠ g2 from h.n6.symm) _, h.n1, h.n2, h.n3, h.n4, h.n5, h.n6, h.bx, h.b1, h.b2, h.b3⟩
theorem kept1 (h : Kept (feet gx g1 g2 g3) w w') {p : Nat} {u : Value} : Kept (feet gx g1 g2 g3) w (w'.setCell ⟨g1, p, none⟩ u) := h.trans (kept_set (F := feet gx g1 g2 g3) (Or.inr (Or.inl rfl))) (fun _ _ h => h)
theorem kept2 (h : Kept (feet gx g1 g2 g3) w w') {p : Nat} {u : Value} : Kept (feet gx g1 g2 g3) w (w'.setCell ⟨g2, p, none⟩ u) := h.trans (kept_set (F := feet gx g1 g2 g3) (Or.inr (Or.inr (Or.inl rfl)))) (fun _ _ h => h)
theorem kept3 (h : Kept (feet gx g1 g2 g3) w w') {p : Nat} {u : Value} : Kept (feet gx g1 g2 g3) w (w'.setCell ⟨g3, p, none⟩ u) := h.trans (kept_set (F := feet gx g1 g2 g3) (Or.inr (Or.inr (Or.inr rfl)))) (fun _ _ h => h)
theorem set_two (S : Tb) (p : Nat) (c : UInt8) : ({ S with b := fun i => if i = p then c else S.b i } : Tb).mark p = S.set p c := rfl
set_option maxHeartbeats 1600000 in
theorem lay_any (w : World) (B gx g1 g2 g3 p : Nat) (S : Tb) (s : ByteArray) (h : RtIn w B gx g1 g2 g3 S) (hR : S.R ≤ 1024) (hp : p + s.size ≤ 255 * S.R) :
    Calls Tryd.prog 37 #[.pointer (some ⟨gx, 0, none⟩), .int .i64 p, .string s] w fun e w' => e = .returned (.tuple #[]) ∧ RtIn w' B gx g1 g2 g3 (laid S p s s.size) ∧ Kept (feet gx g1 g2 g3) w w' := by
  obtain ⟨n, hn⟩ : ∃ n, s.size = n := ⟨_, rfl⟩
  have HN := Lib.hid hn
  obtain ⟨D, hD⟩ : ∃ D, 255 * S.R = D := ⟨_, rfl⟩
  have HD := Lib.hid hD
  rw [hn, hD] at hp
  have hDb : D ≤ 300000 := by omega
  have j0 : (0 : Int) ≤ (p : Int) := Int.natCast_nonneg _
  clear hn hD
  go_enter Tryd.func37, Tryd.ntmps37
  go_wp2_with fail
  go_loopw [6] (fun i wr => ∃ k : Nat, k ≤ n ∧ i = .int .i64 k ∧ Hid (RtIn wr B gx g1 g2 g3 (laid S p s k)) ∧ Hid (Kept (feet gx g1 g2 g3) w wr)) (fun i _ => n - (intOf i).toNat)
  case atStart => exact ⟨0, by omega, rfl, Lib.hid (by rw [laid_zero]; exact h), Lib.hid (Kept.refl _ _)⟩
  case round =>
    obtain ⟨k, hk, rfl, HT, HK⟩ := hrel
    by_cases hkn : k < n
    · have u0 : decide ((k : Int) < (s.size : Int)) = true := decide_eq_true (by rw [HN.out]; omega)
      have u1 : decide (k < s.size) = true := decide_eq_true (by rw [HN.out]; exact hkn)
      have hi : ∀ V, (Instr.index 9 (.string s) (.int .i64 (k : Int))).run Tryd.prog V = .ok (.int .u8 ((sb s k).toNat : Int)) V := fun V => idx_at s k (by rw [HN.out]; exact hkn) V
      have c1 := fun p => Blk.cell (blk_ext HT.out.box p) 1 (v := .slice (some ⟨g1, 0, none⟩) (255 * S.R) (255 * S.R)) rfl
      rw [HD.out] at c1
      have q1 : (0 : Int) ≤ (k : Int) := Int.natCast_nonneg _
      have q2 : (p : Int) + (k : Int) < (D : Int) := by omega
      have q3 : (p : Int) + (k : Int) ≤ 300000 := by omega
      go_wp2_with fail
      refine Go.Proofs.YtnjbacdgecoedaaDoor.Q.region_ext_tail 11 (by kernel_rfl) (by kernel_rfl) ?_
      simp only [List.take_succ_cons, List.take_zero, List.drop_succ_cons, List.drop_zero]
      repeat (go_big_quiet_step (fail))
      refine wpQuiet_nil ?_
      rintro w9 ⟨pq, rfl⟩
      have HT2 := Lib.hid (HT.out.below (below_ext wr pq))
      have HK2 := Lib.hid (HK.out.then ((below_ext wr pq).mono HK.out.size))
      have e1 := HT2.out.b.cell (p + k) (by show p + k < 255 * S.R; rw [HD.out]; omega)
      have e2 := HT2.out.b.frozen (p + k)
      have HT3 := Lib.hid (rt_b HT2.out (p + k) (sb s k))
      have HK3 := Lib.hid (kept1 (p := p + k) (u := u8v (sb s k)) HK2.out)
      have c2 : ((ext wr pq).setCell ⟨g1, p + k, none⟩ (.int .u8 ((sb s k).toNat : Int))).cell? ⟨gx, 2, none⟩ = some (.slice (some ⟨g2, 0, none⟩) (255 * S.R) (255 * S.R)) := Blk.cell HT3.out.box 2 rfl
      rw [HD.out] at c2
      have e3 : ((ext wr pq).setCell ⟨g1, p + k, none⟩ (.int .u8 ((sb s k).toNat : Int))).cell? ⟨g2, p + k, none⟩ = some _ := HT3.out.is.cell (p + k) (by show p + k < 255 * S.R; rw [HD.out]; omega)
      have e4 : ((ext wr pq).setCell ⟨g1, p + k, none⟩ (.int .u8 ((sb s k).toNat : Int))).frozen? ⟨g2, p + k, none⟩ = false := HT3.out.is.frozen (p + k)
      have HT4 := Lib.hid (rt_is HT3.out (p + k))
      have HK4 := Lib.hid (kept2 (p := p + k) (u := .bool true) HK3.out)
      rw [set_two, laid_step] at HT4
      clear c1 HT HK HT2 HK2 HT3 HK3
      go_wp2_with fail
      go_roundw
      case rel => exact ⟨k + 1, by omega, by go_num, HT4, HK4⟩
      case measure => simp [intOf]; omega
    · obtain rfl : k = n := by omega
      have u0 : decide ((k : Int) < (s.size : Int)) = false := decide_eq_false (by rw [HN.out]; omega)
      have u1 : decide (k < s.size) = false := decide_eq_false (by rw [HN.out]; omega)
      go_wp2_with fail
      go_end0
      exact ⟨rfl, by rw [HN.out]; exact HT.out, HK.out⟩
theorem ins_mem (L : List Nat) (i x p : Nat) : p ∈ ins L i x ↔ p = x ∨ p ∈ L := by
  unfold ins
  rw [List.mem_append, List.mem_cons]
  constructor
  · rintro (h | h | h)
    · exact Or.inr (List.mem_of_mem_take h)
    · exact Or.inl h
    · exact Or.inr (List.mem_of_mem_drop h)
  · rintro (h | h)
    · exact Or.inr (Or.inl h)
    · have : p ∈ L.take i ++ L.drop i := by rw [List.take_append_drop]; exact h
      rcases List.mem_append.1 this with h | h
      · exact Or.inl h
      · exact Or.inr (Or.inr h)
theorem rt_st (h : RtIn w B gx g1 g2 g3 S) (L : List Nat) (hL : ∀ p, p < 191 * S.R → (p ∈ L ↔ p ∈ S.st)) : RtIn w B gx g1 g2 g3 { S with st := L } :=
  ⟨h.box, h.b, h.is, h.st.congr (fun i hi => by simp [hL i hi]), h.n1, h.n2, h.n3, h.n4, h.n5, h.n6, h.bx, h.b1, h.b2, h.b3⟩
theorem rt_mark (h : RtIn w B gx g1 g2 g3 S) (p : Nat) (L : List Nat) (hL : ∀ q, q ∈ L ↔ q = p ∨ q ∈ S.st) : RtIn (w.setCell ⟨g3, p, none⟩ (.bool true)) B gx g1 g2 g3 { S with st := L } :=
  ⟨Blk.far h.box (show gx ≠ g3 from h.n3) _, h.b.far (show g1 ≠ g3 from h.n5) _, h.is.far (show g2 ≠ g3 from h.n6) _, (h.st.put p (.bool true)).congr (fun i _ => by
    by_cases e : i = p
    · simp [e, hL]
    · simp [e, hL]), h.n1, h.n2, h.n3, h.n4, h.n5, h.n6, h.bx, h.b1, h.b2, h.b3⟩
set_option maxHeartbeats 1600000 in
theorem rput_any (w : World) (B gx g1 g2 g3 : Nat) (S : Tb) (at_ : Int) (s : ByteArray) (h : RtIn w B gx g1 g2 g3 S) (hok : Ok S) :
    Calls Tryd.prog 20 #[.pointer (some ⟨gx, 0, none⟩), .int .i64 at_, .string s] w fun e w' => e = .returned (.bool (decide (putE S.R at_ s = 0))) ∧ RtIn w' B gx g1 g2 g3 (putS S at_ s) ∧ Kept (feet gx g1 g2 g3) w w' := by
  have c0 := Blk.cell h.box 0 (v := .int .i64 (S.R : Int)) rfl
  have hR9 := hok.R
  by_cases hn : at_ < 0
  · have t0 : decide (at_ < 0) = true := decide_eq_true hn
    have hE : putE S.R at_ s = 15 := if_pos (Or.inl hn)
    have HE := Lib.hid (show decide (putE S.R at_ s = 0) = false from by rw [hE]; rfl)
    have HS := Lib.hid (show putS S at_ s = S from if_pos (Or.inl (by rw [hE]; decide)))
    clear hn hok hE
    go_enter Tryd.func20, Tryd.ntmps20
    go_wp2_with fail
    go_ret
    exact ⟨by rw [HE.out]; rfl, by rw [HS.out]; exact h, Kept.refl _ _⟩
  · have t0 : decide (at_ < 0) = false := decide_eq_false hn
    obtain ⟨p, rfl⟩ := Int.eq_ofNat_of_zero_le (Int.not_lt.1 hn)
    have jp : (0 : Int) ≤ (p : Int) := Int.natCast_nonneg _
    clear hn
    by_cases h1 : 191 * S.R < p
    · have t1 : decide (191 * (S.R : Int) < (p : Int)) = true := decide_eq_true (by omega)
      have hE : putE S.R p s = 15 := if_pos (Or.inr (Or.inl (by omega)))
      have HE := Lib.hid (show decide (putE S.R p s = 0) = false from by rw [hE]; rfl)
      have HS := Lib.hid (show putS S p s = S from if_pos (Or.inl (by rw [hE]; decide)))
      obtain ⟨R, hR⟩ : ∃ R, S.R = R := ⟨_, rfl⟩
      rw [hR] at c0 t1 hR9
      have jR : (0 : Int) ≤ (R : Int) := Int.natCast_nonneg _
      clear h1 hok hE hR
      go_enter Tryd.func20, Tryd.ntmps20
      go_wp2_with fail
      go_ret
      exact ⟨by rw [HE.out]; rfl, by rw [HS.out]; exact h, Kept.refl _ _⟩
    · have t1 : decide (191 * (S.R : Int) < (p : Int)) = false := decide_eq_false (by omega)
      by_cases h2 : 191 * S.R - p < s.size
      · have t3 : decide (191 * (S.R : Int) - (p : Int) < (s.size : Int)) = true := decide_eq_true (by omega)
        have hE : putE S.R p s = 15 := if_pos (Or.inr (Or.inr (by omega)))
        have HE := Lib.hid (show decide (putE S.R p s = 0) = false from by rw [hE]; rfl)
        have HS := Lib.hid (show putS S p s = S from if_pos (Or.inl (by rw [hE]; decide)))
        have jpb : (p : Int) ≤ 300000 := by omega
        obtain ⟨R, hR⟩ : ∃ R, S.R = R := ⟨_, rfl⟩
        rw [hR] at c0 t1 t3 hR9
        have jR : (0 : Int) ≤ (R : Int) := Int.natCast_nonneg _
        clear h1 h2 hok hE hR
        go_enter Tryd.func20, Tryd.ntmps20
        go_wp2_with fail
        go_ret
        exact ⟨by rw [HE.out]; rfl, by rw [HS.out]; exact h, Kept.refl _ _⟩
      · have t3 : decide (191 * (S.R : Int) - (p : Int) < (s.size : Int)) = false := decide_eq_false (by omega)
        have hE : putE S.R p s = 0 := if_neg (by omega)
        have HE := Lib.hid (show decide (putE S.R p s = 0) = true from by rw [hE]; rfl)
        have jpb : (p : Int) ≤ 300000 := by omega
        have hps : p + s.size ≤ 255 * S.R := by omega
        have kl := lay_any w B gx g1 g2 g3 p S s h hR9 hps
        have HR0 := Lib.hid (show 191 * S.R ≤ 300000 from by omega)
        by_cases hz : s.size = 0
        · have t4 : decide (0 < s.size) = false := decide_eq_false (by omega)
          have HS := Lib.hid (show putS S p s = S from if_pos (Or.inr hz))
          rw [hz, laid_zero] at kl
          obtain ⟨R, hR⟩ : ∃ R, S.R = R := ⟨_, rfl⟩
          rw [hR] at c0 t1 t3 hR9
          have jR : (0 : Int) ≤ (R : Int) := Int.natCast_nonneg _
          have HZ := Lib.hid hz
          clear h1 h2 hok hE hR hps hz
          go_enter Tryd.func20, Tryd.ntmps20
          go_wp2_with fail
          (with_reducible refine (kl).mono ?_); rintro e1 W1 ⟨rfl, ht1, hk1⟩
          go_wp2_with fail
          go_ret
          exact ⟨by rw [HE.out]; rfl, by rw [HS.out]; exact ht1, hk1⟩
        · have t4 : decide (0 < s.size) = true := decide_eq_true (by omega)
          have HS := Lib.hid (show putS S p s = { laid S p s s.size with st := if p ∈ S.st then S.st else ins S.st (below S.st p) p } from by
            unfold putS
            rw [if_neg (by rw [hE]; simp [hz])]
            rfl)
          have hpl : p < 191 * S.R := by omega
          have HPL := Lib.hid hpl
          obtain ⟨R, hR⟩ : ∃ R, S.R = R := ⟨_, rfl⟩
          have HR := Lib.hid hR
          rw [hR] at c0 t1 t3 hR9 hpl
          have jR : (0 : Int) ≤ (R : Int) := Int.natCast_nonneg _
          have jpl : (p : Int) < ((191 * R : Nat) : Int) := by omega
          clear h1 h2 hok hE hR hps hz
          go_enter Tryd.func20, Tryd.ntmps20
          go_wp2_with fail
          (with_reducible refine (kl).mono ?_); rintro e1 W1 ⟨rfl, ht1, hk1⟩
          have d0 := Blk.cell ht1.box 3 (v := .slice (some ⟨g3, 0, none⟩) (191 * S.R) (191 * S.R)) rfl
          rw [HR.out] at d0
          have d1 := ht1.st.cell p HPL.out
          have d2 := ht1.st.frozen p
          have HT2 := Lib.hid (rt_mark ht1 p (if p ∈ S.st then S.st else ins S.st (below S.st p) p) (fun q => by
            show _ ↔ q = p ∨ q ∈ S.st
            by_cases hin : p ∈ S.st
            · rw [if_pos hin]
              constructor
              · exact Or.inr
              · rintro (rfl | h); exact hin; exact h
            · rw [if_neg hin]; exact ins_mem _ _ _ _))
          have HK2 := Lib.hid (kept3 (p := p) (u := .bool true) hk1)
          clear kl ht1 hk1
          go_wp2_with fail
          go_ret
          exact ⟨by rw [HE.out]; rfl, by rw [HS.out]; exact HT2.out, HK2.out⟩
end Go.Proofs.YtnjbacdgecoedaaDoor.RtN
