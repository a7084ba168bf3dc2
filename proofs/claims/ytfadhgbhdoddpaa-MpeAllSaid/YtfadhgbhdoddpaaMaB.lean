/- mpe.All, and its function: it yields each part, with its place. -/
import Derived.Test.YtfadhgbhdoddpaaMaA
namespace Go.Proofs.Ytfadhgbhdoddpaa.MaB
open Go Go.RowKit Go.Shelf Go.Proofs.Ytfadhgbhdoddpaa.Q Go.Proofs.Ytfadhgbhdoddpaa.Mem Go.Proofs.Ytfadhgbhdoddpaa.Rg Go.Proofs.Ytfadhgbhdoddpaa.Ap Go.Proofs.Ytfadhgbhdoddpaa.St Go.Proofs.Ytfadhgbhdoddpaa.CrB Go.Proofs.Ytfadhgbhdoddpaa.MpA Go.Proofs.Ytfadhgbhdoddpaa.MpC Go.Proofs.Ytfadhgbhdoddpaa.MaA
attribute [local go_sem] Oper.semAt_some

theorem alls_any (a : Option Addr) (n c : Nat) (w : World) :
    Calls Try.prog 21 #[.slice a n c] w fun e w' => e = .returned (.func (.func 34) #[] #[.pointer (some ⟨w.heap.size, 0, none⟩)]) ∧ w' = w.alloc (.cells #[.slice a n c] 48) := by
  go_enter Try.func21, Try.ntmps21
  go_wp2
  go_ret
  exact ⟨rfl, rfl⟩
def el (L : List ByteArray) (k : Nat) : ByteArray := (L[k]?).getD nob
theorem el_of {L : List ByteArray} {k : Nat} {t : ByteArray} (h : L[k]? = some t) : el L k = t := by unfold el; rw [h]; rfl
set_option maxRecDepth 100000 in
set_option maxHeartbeats 2000000 in
theorem all_in (n : Nat) (hn : 1 ≤ n) (l B m c lim : Nat) (a : Option Addr) (L : List ByteArray) (hm : L.length = m) (hm2 : m ≤ 20) (hsz : ∀ s ∈ L, s.size ≤ 5000) (J : Nat → World → Prop) (hJ : ∀ k A B, J k A → Below A.heap.size A B → J k B)
    (hY : ∀ k A, k < cnt L m → J k A → YieldAt Fence.wide (n - 1) Try.prog l #[.int .i64 (idx L k : Int), .agg (mdP (el L (idx L k))).vals] A fun e B => e = .returned (.bool true) ∧ J (k + 1) B ∧ Below lim A B)
    (W : World) (cB : Boxed W B 48 (.slice a m c)) (hL : Seq enS 1 W a L) (hlim : 0 < m → ∀ b o, a = some ⟨b, o, none⟩ → b < lim) (hlW : lim ≤ W.heap.size) (h0 : J 0 W) :
    CallsIn Fence.wide n Try.prog 34 #[.func (.yield l) #[] #[], .pointer (some ⟨B, 0, none⟩)] W fun e W' => (∃ v, e = .returned v) ∧ J (cnt L m) W' := by
  refine callsIn_of_wp Try.func34 rfl trivial ?_ rfl
  simp only [Try.ntmps34, List.size_toArray, List.length_cons, List.length_nil, Nat.reduceAdd, Nat.reduceSub, Array.replicate_succ, Array.replicate_zero, List.push_toArray, List.append_toArray, List.nil_append, List.cons_append]
  have dB := cB.cell
  have HY := Lib.hid hY
  have HL := Lib.hid hL
  have HS := Lib.hid hsz
  have HJ := Lib.hid hJ
  have HI := Lib.hid hlim
  clear hY hL hsz cB hJ hlim
  gi_wp2
  gi_loopw [9] (fun i wr => ∃ k : Nat, k ≤ m ∧ i = .int .i64 k ∧ Hid (J (cnt L k) wr) ∧ Below lim W wr) (fun i _ => m - (intOf i).toNat)
  case atStart => exact ⟨0, by omega, rfl, Lib.hid h0, Below.refl _ _⟩
  case round =>
    obtain ⟨k, hk, rfl, hj, hb⟩ := hrel
    by_cases hkm : k < m
    · have t0 : decide ((k : Int) < (m : Int)) = true := by simp; omega
      obtain ⟨s, hsk⟩ : ∃ s, L[k]? = some s := ⟨_, List.getElem?_eq_getElem (by omega)⟩
      obtain ⟨b0, o0, rfl, hlt, hc⟩ := HL.out k s hsk
      have hb0 := HI.out (by omega) b0 o0 rfl
      have c0 : wr.cell? ⟨b0, o0 + k, none⟩ = some (.string s) := (World.cell?_of_block (a := ⟨b0, o0 + k, none⟩) (hb.block b0 hb0)).trans (hc 0 _ rfl)
      have k0 : (0 : Int) ≤ (k : Int) := Int.natCast_nonneg _
      have k1 : (k : Int) < (m : Int) := by omega
      have k2 : (k : Int) ≤ 20 := by omega
      have hs5 := HS.out s (List.mem_of_getElem? hsk)
      have kd := fun V => mdec_any s V (by omega)
      have hg := good_at hsk
      have hel := el_of hsk
      have hidx : good L k = true → idx L (cnt L k) = k := fun h => idx_of (by omega) h
      have hcn : cnt L (k + 1) = cnt L k + if good L k then 1 else 0 := rfl
      have hlt2 : good L k = true → cnt L k < cnt L m := fun h => cnt_lt L (by omega) h
      obtain ⟨E, hE⟩ : ∃ E, mdE s = E := ⟨_, rfl⟩
      rw [hE] at kd hg
      obtain ⟨Q, hQ⟩ : ∃ Q, mdP s = Q := ⟨_, rfl⟩
      rw [hQ] at kd
      clear hc hlt
      gi_wp2
      refine ⟨trivial, ?_⟩
      refine (callsIn_wide.2 (kd _)).mono ?_
      rintro e W2 ⟨rfl, hb2⟩
      have hsz2 : wr.heap.size ≤ W2.heap.size := hb2.size
      have hb3 := (hb.trans (hb2.mono (Nat.le_trans hlW hb.size))).alloc (Nat.le_trans hlW (Nat.le_trans hb.size hb2.size)) (.cells Q.vals 25)
      have hj3 := HJ.out _ _ _ (HJ.out _ _ _ hj.out hb2) ((Below.refl _ W2).alloc (Nat.le_refl _) (.cells Q.vals 25))
      by_cases hE0 : E = 0
      · subst hE0
        rw [decide_eq_true rfl] at hg
        have hi := hidx hg
        obtain ⟨fn, tmps, assign, body, hy, hR⟩ := HY.out _ _ (hlt2 hg) hj3
        rw [hi, hel, hQ] at hy
        rw [if_pos hg] at hcn
        unfold Mp.vals at *
        have HC := Lib.hid hcn
        clear hi hel hidx hlt2 hj3 hj hE hQ hsk hg hcn kd hb2 hb HY
        gi_wp2
        refine hR.mono ?_
        rintro e W3 ⟨rfl, hJ3, hk3⟩
        have hb4 := hb3.trans hk3
        have HJ3 := Lib.hid hJ3
        clear hy hR hJ3 hk3 hb3
        gi_wp2
        go_roundw
        case rel => exact ⟨k + 1, by omega, by go_num, Lib.hid (by rw [HC.out]; exact HJ3.out), hb4⟩
        case measure => simp [intOf]; omega
      · have t1 : (E == 0) = false := by simpa using hE0
        rw [decide_eq_false hE0] at hg
        rw [hg] at hcn
        have HC := Lib.hid (show cnt L (k + 1) = cnt L k by rw [hcn]; simp)
        have HJ3 := Lib.hid hj3
        unfold Mp.vals at *
        clear hel hidx hlt2 hj3 hj hE hQ hsk hg hcn kd hb2 hb HY hE0
        gi_wp2
        refine ⟨fun f h => (by cases h), ?_⟩
        gi_wp2
        go_roundw
        case rel => exact ⟨k + 1, by omega, by go_num, Lib.hid (by rw [HC.out]; exact HJ3.out), hb3⟩
        case measure => simp [intOf]; omega
    · obtain rfl : k = m := by omega
      have t0 : decide ((k : Int) < (k : Int)) = false := by simp
      gi_wp2
      go_end0
      exact ⟨⟨_, rfl⟩, hj.out⟩
end Go.Proofs.Ytfadhgbhdoddpaa.MaB
