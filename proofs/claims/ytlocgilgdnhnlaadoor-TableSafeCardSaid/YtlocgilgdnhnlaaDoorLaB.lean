/- The law's few, bytes; both tables side by side. -/
import Derived.Test.YtlocgilgdnhnlaaDoorRtQ
import Derived.Test.YtlocgilgdnhnlaaDoorLaA
namespace Go.Proofs.YtlocgilgdnhnlaaDoor.LaB
open Go Go.RowKit Go.Proofs.YtlocgilgdnhnlaaDoor.Q Go.Proofs.YtlocgilgdnhnlaaDoor.Mem Go.Proofs.YtlocgilgdnhnlaaDoor.Rg Go.Proofs.YtlocgilgdnhnlaaDoor.Ap Go.Proofs.YtlocgilgdnhnlaaDoor.St Go.Proofs.YtlocgilgdnhnlaaDoor.BiW Go.Proofs.YtlocgilgdnhnlaaDoor.CrB Go.Proofs.YtlocgilgdnhnlaaDoor.SeEq Go.Proofs.YtlocgilgdnhnlaaDoor.TlS Go.Proofs.YtlocgilgdnhnlaaDoor.TbM Go.Proofs.YtlocgilgdnhnlaaDoor.TbO Go.Proofs.YtlocgilgdnhnlaaDoor.TbP Go.Proofs.YtlocgilgdnhnlaaDoor.TbR Go.Proofs.YtlocgilgdnhnlaaDoor.TbU Go.Proofs.YtlocgilgdnhnlaaDoor.RtM Go.Proofs.YtlocgilgdnhnlaaDoor.RtN Go.Proofs.YtlocgilgdnhnlaaDoor.RtQ Go.Proofs.YtlocgilgdnhnlaaDoor.LaA

set_option maxRecDepth 100000
/-- a call -/
structure Opn where
  ask : Int
  at_ : Int
  n : Int
  b : Nat
  text : ByteArray
def enOp (o : Opn) : List Value := [.int .i64 o.ask, .int .i64 o.at_, .int .i64 o.n, .int .u8 (o.b : Int), .string o.text]
def fewO (o : Opn) : Prop := o.text.size ≤ 5000 ∧ o.n ≤ 5000 ∧ -5000 ≤ o.n
instance (o : Opn) : Decidable (fewO o) := by unfold fewO; infer_instance
def fewB (L : List Opn) : Bool := L.all (fun r => decide (fewO r)) && decide (L.length ≤ 30)
theorem few_no {L : List Opn} {k : Nat} {r : Opn} (h : L[k]? = some r) (hf : ¬ fewO r) : fewB L = false := by
  unfold fewB
  have : L.all (fun r => decide (fewO r)) = false := by
    rw [List.all_eq_false]
    exact ⟨r, List.mem_of_getElem? h, by simpa using hf⟩
  rw [this, Bool.false_and]
theorem few_yes {L : List Opn} (h : ∀ (j : Nat) (r : Opn), L[j]? = some r → fewO r) : fewB L = decide (L.length ≤ 30) := by
  unfold fewB
  have : L.all (fun r => decide (fewO r)) = true := by
    rw [List.all_eq_true]
    intro r hr
    obtain ⟨j, hj, hj2⟩ := List.getElem_of_mem hr
    exact decide_eq_true (h j r (by rw [List.getElem?_eq_getElem hj, hj2]))
  rw [this, Bool.true_and]
set_option maxHeartbeats 1600000 in
theorem few_any (a : Option Addr) (n c : Nat) (L : List Opn) (w : World) (hn : L.length = n) (hl : n ≤ 9223372036854775807) (hL : Seq enOp 5 w a L) :
    Calls Tryd.prog 11 #[.slice a n c] w fun e w' => e = .returned (.bool (fewB L)) ∧ w = w' := by
  have HL := Lib.hid hL
  have HN := Lib.hid hn
  obtain ⟨F, hF⟩ : ∃ F, fewB L = F := ⟨_, rfl⟩
  have HF := Lib.hid hF
  rw [hF]
  clear hL hn hF
  go_enter Tryd.func11, Tryd.ntmps11
  go_wp2_with fail
  go_loopw [3] (fun i wr => ∃ k : Nat, k ≤ n ∧ i = .int .i64 k ∧ w = wr ∧ Hid (∀ (j : Nat) (r : Opn), j < k → L[j]? = some r → fewO r)) (fun i _ => n - (intOf i).toNat)
  case atStart => exact ⟨0, by omega, rfl, rfl, Lib.hid (fun j r h => by omega)⟩
  case round =>
    obtain ⟨k, hk, rfl, rfl, hK⟩ := hrel
    by_cases hkn : k < n
    · have t0 : decide (k < n) = true := decide_eq_true hkn
      obtain ⟨r, hr⟩ : ∃ r, L[k]? = some r := ⟨_, List.getElem?_eq_getElem (by rw [HN.out]; exact hkn)⟩
      obtain ⟨b0, o0, rfl, hlt, hc⟩ := HL.out k r hr
      have HR := Lib.hid hr
      have k0 : (0 : Int) ≤ (k : Int) := Int.natCast_nonneg _
      have k1 : (k : Int) < (n : Int) := by omega
      have c2 := hc 2 _ rfl
      have c4 := hc 4 _ rfl
      rw [off_eq] at c2 c4
      obtain ⟨ask, at_, m, b, text⟩ := r
      dsimp only at c2 c4
      clear hc hr hlt
      by_cases h1 : 5000 < text.size
      · have t1 : decide (5000 < text.size) = true := decide_eq_true h1
        have t2 : decide ((5000 : Int) < (text.size : Int)) = true := decide_eq_true (by omega)
        have HE := Lib.hid (few_no HR.out (fun h => absurd h.1 (Nat.not_le.2 h1)))
        go_wp2_with fail
        go_ret
        exact ⟨by rw [← HF.out, HE.out]; rfl, rfl⟩
      · have t1 : decide (5000 < text.size) = false := decide_eq_false h1
        have t2 : decide ((5000 : Int) < (text.size : Int)) = false := decide_eq_false (by omega)
        by_cases h2 : 5000 < m
        · have t3 : decide (5000 < m) = true := decide_eq_true h2
          have HE := Lib.hid (few_no HR.out (fun h => absurd h.2.1 (Int.not_le.2 h2)))
          go_wp2_with fail
          go_ret
          exact ⟨by rw [← HF.out, HE.out]; rfl, rfl⟩
        · have t3 : decide (5000 < m) = false := decide_eq_false h2
          by_cases h3 : m < -5000
          · have t4 : decide (m < -5000) = true := decide_eq_true h3
            have HE := Lib.hid (few_no HR.out (fun h => absurd h.2.2 (Int.not_le.2 h3)))
            go_wp2_with fail
            go_ret
            exact ⟨by rw [← HF.out, HE.out]; rfl, rfl⟩
          · have t4 : decide (m < -5000) = false := decide_eq_false h3
            have HX := Lib.hid (show ∀ (j : Nat) (r : Opn), j < k + 1 → L[j]? = some r → fewO r from fun j r' hj hr' => by
              rcases Nat.lt_or_ge j k with h | h
              · exact hK.out j r' h hr'
              · obtain rfl : j = k := by omega
                rw [HR.out] at hr'
                injection hr' with e
                rw [← e]
                exact ⟨Nat.not_lt.1 h1, Int.not_lt.1 h2, Int.not_lt.1 h3⟩)
            clear h1 h2 h3
            go_wp2_with fail
            go_roundw
            case rel => exact ⟨k + 1, by omega, by go_num, by trivial, HX⟩
            case measure => simp [intOf]; omega
    · obtain rfl : k = n := by omega
      have t0 : decide (k < k) = false := by simp
      have HE := Lib.hid (show F = decide (k ≤ 30) from by
        rw [← HF.out, few_yes (fun j r hj => hK.out j r (by have := (List.getElem?_eq_some_iff.1 hj).1; have := HN.out; omega) hj), HN.out])
      go_wp2_with fail
      go_ret
      exact ⟨by rw [HE.out]; simp; omega, rfl⟩
def bytesO (o : Opn) : ByteArray := if o.text.size = 0 then madeD o.n o.b else o.text
theorem bytes_any (o : Opn) (w : World) (hb : o.b < 256) : Calls Tryd.prog 17 #[.agg (enOp o).toArray] w fun e w' => e = .returned (.string (bytesO o)) ∧ Below w.heap.size w w' := by
  have HY := Lib.hid (show bytesO o = if o.text.size = 0 then madeD o.n o.b else o.text from rfl)
  obtain ⟨ask, at_, n, b, text⟩ := o
  unfold enOp
  dsimp only at *
  have hbk := Blk.new w 42 #[.int .i64 ask, .int .i64 at_, .int .i64 n, .int .u8 (b : Int), .string text]
  have hbe := (Below.refl w.heap.size w).alloc (Nat.le_refl _) (.cells #[.int .i64 ask, .int .i64 at_, .int .i64 n, .int .u8 (b : Int), .string text] 42)
  have c0 := Blk.cell (hbk) 0 (v := .int .i64 ask) rfl
  have c1 := Blk.cell (hbk) 1 (v := .int .i64 at_) rfl
  have c2 := Blk.cell (hbk) 2 (v := .int .i64 n) rfl
  have c3 := Blk.cell (hbk) 3 (v := .int .u8 (b : Int)) rfl
  have c4 := Blk.cell (hbk) 4 (v := .string text) rfl
  have km := fun V => made_any n b V hb
  by_cases hz : text.size = 0
  · have t1 : text.toList.isEmpty = true := by rw [isEmpty_iff]; simpa using hz
    have HX := Lib.hid (HY.out.trans (if_pos hz))
    clear hz hbk HY
    go_enter Tryd.func17, Tryd.ntmps17
    go_wp2_with fail
    (with_reducible refine (km _).mono ?_); rintro e1 W1 ⟨rfl, hb1⟩
    have hE := hbe.trans (hb1.mono hbe.size)
    go_wp2_with fail
    go_ret
    exact ⟨by rw [HX.out]; rfl, hE⟩
  · have t1 : text.toList.isEmpty = false := by rw [isEmpty_iff]; simpa using hz
    have HX := Lib.hid (HY.out.trans (if_neg hz))
    clear hz hbk HY km
    go_enter Tryd.func17, Tryd.ntmps17
    go_wp2_with fail
    go_ret
    exact ⟨by rw [HX.out]; rfl, hbe⟩
theorem bytes_size (o : Opn) (h : fewO o) : (bytesO o).size ≤ 1099511627776 := by
  unfold bytesO
  split
  · rw [(made_ok o.n o.b).2]; unfold madeK; omega
  · have := h.1; omega
theorem ins_up {L : List Nat} (hs : L.Pairwise (· < ·)) {p : Nat} (hp : p ∉ L) : (ins L (below L p) p).Pairwise (· < ·) := by
  have h1 := take_below hs p
  have h2 := drop_below hs p
  unfold ins
  rw [List.pairwise_append, List.pairwise_cons]
  refine ⟨hs.sublist (List.take_sublist _ _), ⟨fun z hz => ?_, hs.sublist (List.drop_sublist _ _)⟩, fun y hy z hz => ?_⟩
  · have := h2 z hz
    rcases Nat.eq_or_lt_of_le this with e | e
    · subst e; exact absurd (List.mem_of_mem_drop hz) hp
    · exact e
  · have hy' := h1 y hy
    rcases List.mem_cons.1 hz with rfl | hz
    · exact hy'
    · have := h2 z hz; omega
theorem put_ok {S : Tb} (h : Ok S) (hl : S.st.length < 100000) (at_ : Int) (s : ByteArray) : Ok (putS S at_ s) ∧ (putS S at_ s).st.length ≤ S.st.length + 1 := by
  unfold putS
  split
  · exact ⟨h, by omega⟩
  · rename_i hc
    have hE : putE S.R at_ s = 0 := by
      by_cases e : putE S.R at_ s = 0
      · exact e
      · exact absurd (Or.inl e) hc
    have hz : s.size ≠ 0 := fun e => hc (Or.inr e)
    have hp : 0 ≤ at_ ∧ at_.toNat < 191 * S.R := by
      unfold putE at hE
      split at hE
      · cases hE
      · omega
    by_cases hin : at_.toNat ∈ S.st
    · simp only [hin, if_true]
      exact ⟨⟨h.R, h.R0, h.st, h.up, h.lt⟩, by simp⟩
    · simp only [hin, if_false]
      have hl2 : (ins S.st (below S.st at_.toNat) at_.toNat).length = S.st.length + 1 := ins_len _ _ _ (below_le _ _)
      refine ⟨⟨h.R, h.R0, by show (ins _ _ _).length ≤ _; omega, ins_up h.up hin, fun z hz => ?_⟩, by show (ins _ _ _).length ≤ _; omega⟩
      rcases (ins_mem _ _ _ _).1 hz with rfl | hz
      · exact hp.2
      · exact h.lt z hz
theorem par_ok {S : Tb} (h : Ok S) (n : Int) (s : ByteArray) : Ok (parS S n s) ∧ (parS S n s).st = S.st ∧ (parS S n s).R = S.R := by
  unfold parS
  split
  · exact ⟨h, rfl, rfl⟩
  · exact ⟨⟨h.R, h.R0, h.st, h.up, h.lt⟩, rfl, rfl⟩
theorem pad_ok {S : Tb} (h : Ok S) (n : Int) : Ok (padS S n) ∧ (padS S n).st = S.st ∧ (padS S n).R = S.R := by
  unfold padS
  split
  · exact ⟨h, rfl, rfl⟩
  · exact ⟨⟨h.R, h.R0, h.st, h.up, h.lt⟩, rfl, rfl⟩
theorem empty_ok {R : Nat} (h : R ≤ 1024) (h0 : 0 < R) : Ok (emptyT R) := ⟨h, h0, by simp [emptyT], List.Pairwise.nil, fun z hz => (by cases hz)⟩
end Go.Proofs.YtlocgilgdnhnlaaDoor.LaB
