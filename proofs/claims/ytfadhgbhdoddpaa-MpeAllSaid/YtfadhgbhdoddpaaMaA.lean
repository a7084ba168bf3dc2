/- Which of some bytes are parts, plain; few. -/
import Derived.Test.YtfadhgbhdoddpaaMpW
import Derived.Test.YtfadhgbhdoddpaaMpT
namespace Go.Proofs.Ytfadhgbhdoddpaa.MaA
open Go Go.RowKit Go.Proofs.Ytfadhgbhdoddpaa.Q Go.Proofs.Ytfadhgbhdoddpaa.Mem Go.Proofs.Ytfadhgbhdoddpaa.Rg Go.Proofs.Ytfadhgbhdoddpaa.Ap Go.Proofs.Ytfadhgbhdoddpaa.St Go.Proofs.Ytfadhgbhdoddpaa.CrB Go.Proofs.Ytfadhgbhdoddpaa.MpC

/-- is the i-th one a part? -/
def good (L : List ByteArray) (i : Nat) : Bool := match L[i]? with | some t => decide (mdE t = 0) | none => false
/-- how many parts are ahead of i -/
def cnt (L : List ByteArray) : Nat → Nat
  | 0 => 0
  | i + 1 => cnt L i + if good L i then 1 else 0
theorem cnt_le (L : List ByteArray) {i j : Nat} (h : i ≤ j) : cnt L i ≤ cnt L j := by
  induction j with
  | zero => obtain rfl : i = 0 := by omega
            exact Nat.le_refl _
  | succ j ih =>
    by_cases e : i = j + 1
    · rw [e]; exact Nat.le_refl _
    · have := ih (by omega)
      rw [cnt]; split <;> omega
theorem cnt_lt (L : List ByteArray) {i j : Nat} (h : i < j) (hg : good L i = true) : cnt L i < cnt L j := by
  have := cnt_le L (show i + 1 ≤ j from h)
  rw [cnt, if_pos hg] at this
  omega
theorem cnt_bound (L : List ByteArray) (i : Nat) : cnt L i ≤ i := by
  induction i with
  | zero => exact Nat.le_refl _
  | succ i ih => rw [cnt]; split <;> omega
/-- the place of the k-th part -/
def idx (L : List ByteArray) (k : Nat) : Nat := ((List.range L.length).find? fun i => good L i && (cnt L i == k)).getD 0
theorem idx_of {L : List ByteArray} {i : Nat} (hi : i < L.length) (hg : good L i = true) : idx L (cnt L i) = i := by
  unfold idx
  cases h : (List.range L.length).find? fun j => good L j && (cnt L j == cnt L i) with
  | none =>
    have := List.find?_eq_none.1 h i (by simpa using hi)
    simp [hg] at this
  | some j =>
    have h1 := List.find?_some h
    simp only [Bool.and_eq_true, beq_iff_eq] at h1
    rcases Nat.lt_trichotomy i j with h2 | h2 | h2
    · have := cnt_lt L h2 hg; omega
    · rw [h2]; rfl
    · have := cnt_lt L h2 h1.1; omega
theorem cnt_find (L : List ByteArray) (n : Nat) : ∀ k, k < cnt L n → ∃ i, i < n ∧ good L i = true ∧ cnt L i = k := by
  induction n with
  | zero => intro k h; simp [cnt] at h
  | succ n ih =>
    intro k h
    rw [cnt] at h
    by_cases hk : k < cnt L n
    · obtain ⟨i, h1, h2, h3⟩ := ih k hk
      exact ⟨i, by omega, h2, h3⟩
    · by_cases hg : good L n = true
      · rw [if_pos hg] at h
        exact ⟨n, by omega, hg, by omega⟩
      · rw [if_neg hg] at h; omega
theorem idx_spec {L : List ByteArray} {k : Nat} (h : k < cnt L L.length) : idx L k < L.length ∧ good L (idx L k) = true ∧ cnt L (idx L k) = k := by
  obtain ⟨i, h1, h2, h3⟩ := cnt_find L L.length k h
  have := idx_of h1 h2
  rw [h3] at this
  rw [this]
  exact ⟨h1, h2, h3⟩
theorem good_at {L : List ByteArray} {i : Nat} {t : ByteArray} (h : L[i]? = some t) : good L i = decide (mdE t = 0) := by unfold good; rw [h]
def fewL (L : List ByteArray) : Bool := L.all (fun t => decide (t.size ≤ 5000)) && decide (L.length ≤ 20)
set_option maxRecDepth 100000
theorem few_any (a : Option Addr) (n c : Nat) (L : List ByteArray) (w : World) (hn : L.length = n) (hl : n ≤ 9223372036854775807) (hL : Seq enS 1 w a L) : Calls Try.prog 20 #[.slice a n c] w fun e w' => e = .returned (.bool (fewL L)) ∧ w = w' := by
  obtain ⟨R, hR⟩ : ∃ R : Ending → World → Prop, R = (fun e w' => e = .returned (.bool (fewL L)) ∧ w = w') := ⟨_, rfl⟩
  rw [← hR]
  have HRR := Lib.hid hR
  clear hR
  have HL := Lib.hid hL
  have hl' : (n : Int) ≤ 9223372036854775807 := by omega
  clear hL
  go_enter Try.func20, Try.ntmps20
  go_wp2_with fail
  go_loop [3] (fun i => ∃ k : Nat, k ≤ n ∧ i = .int .i64 k ∧ Hid (∀ t ∈ L.take k, t.size ≤ 5000)) (fun i => n - (intOf i).toNat)
  case atStart => exact ⟨0, by omega, rfl, Lib.hid (by simp)⟩
  case round =>
    obtain ⟨k, hk, rfl, hI⟩ := hrel
    by_cases hkn : k < n
    · have t0 : decide ((k : Int) < (n : Int)) = true := by simp; omega
      obtain ⟨s, hsk⟩ : ∃ s, L[k]? = some s := ⟨_, List.getElem?_eq_getElem (by omega)⟩
      obtain ⟨b0, o0, rfl, hlt, hc⟩ := HL.out k s hsk
      have c0 : w.cell? ⟨b0, o0 + k, none⟩ = some (.string s) := hc 0 _ rfl
      have k0 : (0 : Int) ≤ (k : Int) := Int.natCast_nonneg _
      have k1 : (k : Int) < (n : Int) := by omega
      by_cases hs : 5000 < s.size
      · have t1 : decide (5000 < (s.size : Int)) = true := by simp; omega
        have HF := Lib.hid (show fewL L = false by
          unfold fewL
          rw [Bool.and_eq_false_iff]
          left
          rw [List.all_eq_false]
          exact ⟨s, List.mem_of_getElem? hsk, by simp; omega⟩)
        clear hc hsk hlt hI hs
        go_wp2_with fail
        rw [HRR.out, HF.out]
        exact ⟨rfl, rfl⟩
      · have t1 : decide (5000 < (s.size : Int)) = false := by simp; omega
        have HI2 := Lib.hid (show ∀ t ∈ L.take (k + 1), t.size ≤ 5000 from fun t ht => by
          rw [List.take_add_one, hsk] at ht
          rcases List.mem_append.1 ht with h | h
          · exact hI.out t h
          · have : t = s := by simpa using h
            rw [this]; omega)
        clear hc hsk hlt hI hs
        go_wp2_with fail
        go_round
        case rel => exact ⟨k + 1, by omega, by go_num, HI2⟩
        case measure => simp [intOf]; omega
    · obtain rfl : k = n := by omega
      have t0 : decide ((k : Int) < (k : Int)) = false := by simp
      have HF := Lib.hid (show fewL L = decide (k ≤ 20) by
        unfold fewL
        rw [show L.all (fun t => decide (t.size ≤ 5000)) = true from List.all_eq_true.2 (fun t ht => by
          have := hI.out t (by rw [List.take_of_length_le (by omega)]; exact ht)
          simpa using this), Bool.true_and, hn])
      clear hI
      go_wp2_with fail
      rw [HRR.out, HF.out]
      have e : decide ((k : Int) ≤ 20) = decide (k ≤ 20) := by rw [decide_eq_decide]; omega
      exact ⟨by rw [← e], rfl⟩
end Go.Proofs.Ytfadhgbhdoddpaa.MaA
