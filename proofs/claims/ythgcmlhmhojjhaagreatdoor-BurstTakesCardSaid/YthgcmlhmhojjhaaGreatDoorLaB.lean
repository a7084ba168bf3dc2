/- The law's few, bytes; both tables side by side. -/
import Derived.Test.YthgcmlhmhojjhaaGreatDoorRtQ
import Derived.Test.YthgcmlhmhojjhaaGreatDoorLaA
namespace Go.Proofs.YthgcmlhmhojjhaaGreatDoor.LaB
open Go Go.RowKit Go.Proofs.YthgcmlhmhojjhaaGreatDoor.Q Go.Proofs.YthgcmlhmhojjhaaGreatDoor.Mem Go.Proofs.YthgcmlhmhojjhaaGreatDoor.Rg Go.Proofs.YthgcmlhmhojjhaaGreatDoor.Ap Go.Proofs.YthgcmlhmhojjhaaGreatDoor.St Go.Proofs.YthgcmlhmhojjhaaGreatDoor.BiW Go.Proofs.YthgcmlhmhojjhaaGreatDoor.CrB Go.Proofs.YthgcmlhmhojjhaaGreatDoor.SeEq Go.Proofs.YthgcmlhmhojjhaaGreatDoor.TlS Go.Proofs.YthgcmlhmhojjhaaGreatDoor.TbM Go.Proofs.YthgcmlhmhojjhaaGreatDoor.TbO Go.Proofs.YthgcmlhmhojjhaaGreatDoor.TbP Go.Proofs.YthgcmlhmhojjhaaGreatDoor.TbR Go.Proofs.YthgcmlhmhojjhaaGreatDoor.TbU Go.Proofs.YthgcmlhmhojjhaaGreatDoor.RtM Go.Proofs.YthgcmlhmhojjhaaGreatDoor.RtN Go.Proofs.YthgcmlhmhojjhaaGreatDoor.RtQ Go.Proofs.YthgcmlhmhojjhaaGreatDoor.LaA

set_option maxRecDepth 100000
/-- a call -/
structure Opn where
  ask : Int
  at_ : Int
  n : Int
  b : Nat
  text : ByteArray
def enOp (o : Opn) : List Value := [.int .i64 o.ask, .int .i64 o.at_, .int .i64 o.n, .int .u8 (o.b : Int), .string o.text]
def fewO (o : Opn) : Prop := o.text.size ≤ 5000 ∧ o.n ≤ 5000 ∧ -5000 ≤ o.n
instance (o : Opn) : Decidable (fewO o) := by unfold fewO; infer_instance
def fewB (L : List Opn) : Bool := L.all (fun r => decide (fewO r)) && decide (L.length ≤ 30)
theorem few_no {L : List Opn} {k : Nat} {r : Opn} (h : L[k]? = some r) (hf : ¬ fewO r) : fewB L = false := by
  unfold fewB
  have : L.all (fun r => decide (fewO r)) = false := by
    rw [List.all_eq_false]
    exact ⟨r, List.mem_of_getElem? h, by simpa using hf⟩
  rw [this, Bool.false_and]
theorem few_yes {L : List Opn} (h : ∀ (j : Nat) (r : Opn), L[j]? = some r → fewO r) : fewB L = decide (L.length ≤ 30) := by
  unfold fewB
  have : L.all (fun r => decide (fewO r)) = true := by
    rw [List.all_eq_true]
    intro r hr
    obtain ⟨j, hj, hj2⟩ := List.getElem_of_mem hr
    exact decide_eq_true (h j r (by rw [List.getElem?_eq_getElem hj, hj2]))
  rw [this, Bool.true_and]
def bytesO (o : Opn) : ByteArray := if o.text.size = 0 then madeD o.n o.b else o.text
theorem bytes_size (o : Opn) (h : fewO o) : (bytesO o).size ≤ 1099511627776 := by
  unfold bytesO
  split
  · rw [(made_ok o.n o.b).2]; unfold madeK; omega
  · have := h.1; omega
theorem ins_up {L : List Nat} (hs : L.Pairwise (· < ·)) {p : Nat} (hp : p ∉ L) : (ins L (below L p) p).Pairwise (· < ·) := by
  have h1 := take_below hs p
  have h2 := drop_below hs p
  unfold ins
  rw [List.pairwise_append, List.pairwise_cons]
  refine ⟨hs.sublist (List.take_sublist _ _), ⟨fun z hz => ?_, hs.sublist (List.drop_sublist _ _)⟩, fun y hy z hz => ?_⟩
  · have := h2 z hz
    rcases Nat.eq_or_lt_of_le this with e | e
    · subst e; exact absurd (List.mem_of_mem_drop hz) hp
    · exact e
  · have hy' := h1 y hy
    rcases List.mem_cons.1 hz with rfl | hz
    · exact hy'
    · have := h2 z hz; omega
theorem put_ok {S : Tb} (h : Ok S) (hl : S.st.length < 100000) (at_ : Int) (s : ByteArray) : Ok (putS S at_ s) ∧ (putS S at_ s).st.length ≤ S.st.length + 1 := by
  unfold putS
  split
  · exact ⟨h, by omega⟩
  · rename_i hc
    have hE : putE S.R at_ s = 0 := by
      by_cases e : putE S.R at_ s = 0
      · exact e
      · exact absurd (Or.inl e) hc
    have hz : s.size ≠ 0 := fun e => hc (Or.inr e)
    have hp : 0 ≤ at_ ∧ at_.toNat < 191 * S.R := by
      unfold putE at hE
      split at hE
      · cases hE
      · omega
    by_cases hin : at_.toNat ∈ S.st
    · simp only [hin, if_true]
      exact ⟨⟨h.R, h.R0, h.st, h.up, h.lt⟩, by simp⟩
    · simp only [hin, if_false]
      have hl2 : (ins S.st (below S.st at_.toNat) at_.toNat).length = S.st.length + 1 := ins_len _ _ _ (below_le _ _)
      refine ⟨⟨h.R, h.R0, by show (ins _ _ _).length ≤ _; omega, ins_up h.up hin, fun z hz => ?_⟩, by show (ins _ _ _).length ≤ _; omega⟩
      rcases (ins_mem _ _ _ _).1 hz with rfl | hz
      · exact hp.2
      · exact h.lt z hz
theorem par_ok {S : Tb} (h : Ok S) (n : Int) (s : ByteArray) : Ok (parS S n s) ∧ (parS S n s).st = S.st ∧ (parS S n s).R = S.R := by
  unfold parS
  split
  · exact ⟨h, rfl, rfl⟩
  · exact ⟨⟨h.R, h.R0, h.st, h.up, h.lt⟩, rfl, rfl⟩
theorem pad_ok {S : Tb} (h : Ok S) (n : Int) : Ok (padS S n) ∧ (padS S n).st = S.st ∧ (padS S n).R = S.R := by
  unfold padS
  split
  · exact ⟨h, rfl, rfl⟩
  · exact ⟨⟨h.R, h.R0, h.st, h.up, h.lt⟩, rfl, rfl⟩
theorem empty_ok {R : Nat} (h : R ≤ 1024) (h0 : 0 < R) : Ok (emptyT R) := ⟨h, h0, by simp [emptyT], List.Pairwise.nil, fun z hz => (by cases hz)⟩
end Go.Proofs.YthgcmlhmhojjhaaGreatDoor.LaB
