/- link's law: few, gram. -/
import Derived.Test.YtbiiehobfnbloaaGreatDoorLnA
import Derived.Test.YtbiiehobfnbloaaGreatDoorPkR
namespace Go.Proofs.YtbiiehobfnbloaaGreatDoor.LnG
open Go Go.RowKit Go.Proofs.YtbiiehobfnbloaaGreatDoor.Q Go.Proofs.YtbiiehobfnbloaaGreatDoor.Mem Go.Proofs.YtbiiehobfnbloaaGreatDoor.Rg Go.Proofs.YtbiiehobfnbloaaGreatDoor.Ap Go.Proofs.YtbiiehobfnbloaaGreatDoor.LaA

/-- a call -/
structure LOp where
  ask : Int
  stream : Int
  n : Int
  b : Nat
  text : ByteArray
def enOp (o : LOp) : List Value := [.int .i64 o.ask, .int .i64 o.stream, .int .i64 o.n, .int .u8 (o.b : Int), .string o.text]
def fewO (o : LOp) : Bool := decide (o.n ≤ 1000) && decide (o.text.size ≤ 5000)
def fewL (L : List LOp) : Bool := L.all fewO && decide (L.length ≤ 40)
def gramO (o : LOp) : ByteArray := if o.text = ByteArray.empty then madeD o.n o.b else o.text
set_option maxRecDepth 100000
set_option maxHeartbeats 800000 in
theorem few_any (a : Option Addr) (n c : Nat) (L : List LOp) (w : World) (hn : L.length = n) (hl : n ≤ 1099511627776) (hL : Seq enOp 5 w a L) : Calls Tryz.prog 25 #[.slice a n c] w fun e w' => e = .returned (.bool (fewL L)) ∧ w = w' := by
  obtain ⟨R, hR⟩ : ∃ R : Ending → World → Prop, R = (fun e w' => e = .returned (.bool (fewL L)) ∧ w = w') := ⟨_, rfl⟩
  rw [← hR]
  have HRR := Lib.hid hR
  clear hR
  have HL := Lib.hid hL
  have HN := Lib.hid hn
  clear hL hn
  go_enter Tryz.func25, Tryz.ntmps25
  go_wp2_with fail
  go_loop [3] (fun i => ∃ k : Nat, k ≤ n ∧ i = .int .i64 k ∧ Hid (∀ t ∈ L.take k, fewO t = true)) (fun i => n - (intOf i).toNat)
  case atStart => exact ⟨0, by omega, rfl, Lib.hid (by simp)⟩
  case round =>
    obtain ⟨k, hk, rfl, hI⟩ := hrel
    by_cases hkn : k < n
    · have t0 : decide (k < n) = true := decide_eq_true hkn
      obtain ⟨s, hsk⟩ : ∃ s, L[k]? = some s := ⟨_, List.getElem?_eq_getElem (by rw [HN.out]; omega)⟩
      obtain ⟨b0, o0, rfl, hlt, hc⟩ := HL.out k s hsk
      have c2 := hc 2 _ rfl
      have c4 := hc 4 _ rfl
      rw [off_eq] at c2 c4
      have k0 : (0 : Int) ≤ (k : Int) := Int.natCast_nonneg _
      have k1 : (k : Int) < (n : Int) := by omega
      have HSK := Lib.hid hsk
      have HF0 : Hid (fewO s = false → fewL L = false) := Lib.hid (fun h => by
        unfold fewL
        rw [Bool.and_eq_false_iff]
        left
        rw [List.all_eq_false]
        exact ⟨s, List.mem_of_getElem? hsk, by rw [h]; decide⟩)
      have HFE : Hid (fewO s = (decide (s.n ≤ 1000) && decide (s.text.size ≤ 5000))) := Lib.hid rfl
      obtain ⟨ask, stream, nn, b, text⟩ := s
      dsimp only at c2 c4 HFE
      clear hc hsk hlt
      by_cases h1 : 1000 < nn
      · have t1 : decide (1000 < nn) = true := decide_eq_true h1
        have HF := Lib.hid (HF0.out (by rw [HFE.out, decide_eq_false (by omega)]; rfl))
        clear hI h1
        go_wp2_with fail
        rw [HRR.out, HF.out]
        exact ⟨rfl, rfl⟩
      · have t1 : decide (1000 < nn) = false := decide_eq_false h1
        by_cases h2 : 5000 < text.size
        · have t2 : decide ((5000 : Int) < (text.size : Int)) = true := decide_eq_true (by omega)
          have HF := Lib.hid (HF0.out (by rw [HFE.out, decide_eq_false (show ¬ text.size ≤ 5000 by omega), Bool.and_false]))
          clear hI h1 h2
          go_wp2_with fail
          rw [HRR.out, HF.out]
          exact ⟨rfl, rfl⟩
        · have t2 : decide ((5000 : Int) < (text.size : Int)) = false := decide_eq_false (by omega)
          have HI2 := Lib.hid (show ∀ t ∈ L.take (k + 1), fewO t = true from fun t ht => by
            rw [List.take_add_one, HSK.out] at ht
            rcases List.mem_append.1 ht with h | h
            · exact hI.out t h
            · have : t = ⟨ask, stream, nn, b, text⟩ := by simpa using h
              rw [this, HFE.out, decide_eq_true (by omega), decide_eq_true (by omega)]
              rfl)
          clear hI h1 h2
          go_wp2_with fail
          go_round
          case rel => exact ⟨k + 1, by omega, by go_num, HI2⟩
          case measure => simp [intOf]; omega
    · obtain rfl : k = n := by omega
      have t0 : decide (k < k) = false := by simp
      have HF := Lib.hid (show fewL L = decide ((k : Int) ≤ 40) by
        unfold fewL
        rw [show L.all fewO = true from List.all_eq_true.2 (fun t ht => hI.out t (by rw [List.take_of_length_le (by rw [HN.out]; exact Nat.le_refl _)]; exact ht)), Bool.true_and, HN.out, decide_eq_decide]
        omega)
      clear hI
      go_wp2_with fail
      rw [HRR.out, HF.out]
      exact ⟨rfl, rfl⟩
theorem str_ne {s : ByteArray} (h : s ≠ ByteArray.empty) : (!s.toList.isEmpty) = true := by
  rw [ByteArray.toList_eq]
  obtain ⟨⟨l⟩⟩ := s
  cases l with
  | nil => exact absurd rfl h
  | cons a l => rfl
theorem gram_any (o : LOp) (w : World) (hb : o.b < 256) : Calls Tryz.prog 30 #[.agg #[.int .i64 o.ask, .int .i64 o.stream, .int .i64 o.n, .int .u8 (o.b : Int), .string o.text]] w fun e w' => e = .returned (.string (gramO o)) ∧ Below w.heap.size w w' := by
  obtain ⟨ask, stream, n, b, text⟩ := o
  dsimp only at hb ⊢
  have hbe := (Below.refl _ w).alloc (Nat.le_refl _) (.cells #[.int .i64 ask, .int .i64 stream, .int .i64 n, .int .u8 (b : Int), .string text] 79)
  have hB := Blk.new w 79 #[.int .i64 ask, .int .i64 stream, .int .i64 n, .int .u8 (b : Int), .string text]
  have c0 := Blk.cell (hB) 0 (v := .int .i64 ask) rfl
  have c1 := Blk.cell (hB) 1 (v := .int .i64 stream) rfl
  have c2 := Blk.cell (hB) 2 (v := .int .i64 n) rfl
  have c3 := Blk.cell (hB) 3 (v := .int .u8 (b : Int)) rfl
  have c4 := Blk.cell (hB) 4 (v := .string text) rfl
  have km := made_any n b (w.alloc (.cells #[.int .i64 ask, .int .i64 stream, .int .i64 n, .int .u8 (b : Int), .string text] 79)) hb
  by_cases h : text = ByteArray.empty
  · have HG : Hid (gramO ⟨ask, stream, n, b, text⟩ = madeD n b) := Lib.hid (if_pos h)
    subst h
    go_enter Tryz.func30, Tryz.ntmps30
    go_wp2_with fail
    (with_reducible refine (km).mono ?_); rintro e1 W1 ⟨rfl, hb1⟩
    go_wp2_with fail
    go_ret
    exact ⟨by rw [HG.out]; rfl, hbe.trans (hb1.mono hbe.size)⟩
  · have HG : Hid (gramO ⟨ask, stream, n, b, text⟩ = text) := Lib.hid (if_neg h)
    have t1 := str_ne h
    clear h km
    go_enter Tryz.func30, Tryz.ntmps30
    go_wp2_with fail
    go_ret
    exact ⟨by rw [HG.out]; rfl, hbe⟩
end Go.Proofs.YtbiiehobfnbloaaGreatDoor.LnG
