/- Reading a Slice: the plain law (P18.2). The byte in front decides; what is read is made of the same bytes. -/
import Derived.Test.YtbceakdifklocaaDsApart
namespace Go.Proofs.Ytbceakdifklocaa.DsI
open Go.RowKit Go.Proofs.Ytbceakdifklocaa.Q Go.Proofs.Ytbceakdifklocaa.Mem Go.Proofs.Ytbceakdifklocaa.DsA Go.Proofs.Ytbceakdifklocaa.DsB Go.Proofs.Ytbceakdifklocaa.DsC Go.Proofs.Ytbceakdifklocaa.DsD Go.Proofs.Ytbceakdifklocaa.DsE Go.Proofs.Ytbceakdifklocaa.DsApart

/-- a byte of a string -/
def at' (s : ByteArray) (i : Nat) : Int := ((s.data[i]?.getD 0).toNat : Int)
theorem at_range (s : ByteArray) (i : Nat) : 0 ≤ at' s i ∧ at' s i ≤ 255 := by
  unfold at'
  have := (s.data[i]?.getD 0).toNat_lt
  omega
/-- the Slice that three bytes and the rest are -/
def rd (s : ByteArray) : Sl := ⟨decide (at' s 0 / 128 = 1), decide (at' s 0 / 32 % 2 = 1), 256 * (at' s 0 % 8 + 1), at' s 1, at' s 2 / 16, at' s 2 % 16, s.extract 3 s.size⟩
/-- the document's test of the first byte -/
def bad (s : ByteArray) : Bool := decide (255 < s.size) || decide (at' s 0 / 64 % 2 = 1) || decide (at' s 0 / 8 % 4 ≠ 3) || decide (3 < at' s 0 % 8)
def rdE (d : Dc) : Int := if d.tag ≠ 119 then 14 else if d.body.size < 3 then 10 else if bad d.body then 12 else 0
def zeroSl : Sl := ⟨false, false, 0, 0, 0, 0, nob⟩
def rdS (d : Dc) : Sl := if rdE d = 0 then rd d.body else zeroSl

theorem byte_cases (b : Int) (h : 0 ≤ b ∧ b ≤ 255) (hg : ¬ (b / 64 % 2 = 1 ∨ b / 8 % 4 ≠ 3 ∨ 3 < b % 8)) :
    okRows (256 * (b % 8 + 1)) ∧ (if decide (b / 128 = 1) = true then (128 : Int) else 0) + (if decide (b / 32 % 2 = 1) = true then 32 else 0) + 24 + 256 * (b % 8 + 1) / 256 - 1 = b := by
  unfold okRows
  by_cases h1 : b / 128 = 1 <;> by_cases h2 : b / 32 % 2 = 1 <;> simp [h1, h2] <;> omega
theorem head3 (s : ByteArray) (h : 3 ≤ s.size) : s.data.toList = [UInt8.ofNat (at' s 0).toNat, UInt8.ofNat (at' s 1).toNat, UInt8.ofNat (at' s 2).toNat] ++ (s.extract 3 s.size).data.toList := by
  obtain ⟨⟨l⟩⟩ := s
  match l, (show 3 ≤ l.length from h) with
  | a :: b :: c :: m, _ =>
    simp [at', ByteArray.extract, ByteArray.copySlice, ByteArray.size]
/-- where the byte serves, what is read is made of the same bytes -/
theorem rd_make (d : Dc) (h : rdE d = 0) : (rd d.body).makeE = 0 ∧ slD (rd d.body) = d := by
  unfold rdE at h
  by_cases h1 : d.tag ≠ 119
  · rw [if_pos h1] at h; omega
  rw [if_neg h1] at h
  by_cases h2 : d.body.size < 3
  · rw [if_pos h2] at h; omega
  rw [if_neg h2] at h
  cases h3 : bad d.body with
  | true => rw [h3] at h; simp at h
  | false =>
    unfold bad at h3
    simp only [Bool.or_eq_false_iff, decide_eq_false_iff_not] at h3
    obtain ⟨⟨⟨g1, g2⟩, g3⟩, g4⟩ := h3
    obtain ⟨r0, r0'⟩ := at_range d.body 0
    obtain ⟨r1, r1'⟩ := at_range d.body 1
    obtain ⟨r2, r2'⟩ := at_range d.body 2
    obtain ⟨e1, e2⟩ := byte_cases (at' d.body 0) ⟨r0, r0'⟩ (by omega)
    have hsz : (d.body.extract 3 d.body.size).size = d.body.size - 3 := by simp [ByteArray.size_extract]
    have hm : (rd d.body).may = true := by
      simp only [Sl.may, rd, in1, Bool.and_eq_true]
      exact ⟨⟨⟨decide_eq_true e1, decide_eq_true ⟨r1, r1'⟩⟩, decide_eq_true ⟨by omega, by omega⟩⟩, decide_eq_true ⟨by omega, by omega⟩⟩
    have hE : (rd d.body).makeE = 0 := by
      unfold Sl.makeE
      rw [hm]
      simp only [if_true]
      rw [if_neg]
      show ¬ 252 < (d.body.extract 3 d.body.size).size
      omega
    refine ⟨hE, ?_⟩
    unfold slD
    rw [if_pos hE]
    refine dc_iff.2 ⟨by show (119 : Int) = d.tag; omega, ?_⟩
    apply ba_ext
    rw [Sl.body, body_list, head3 d.body (by omega)]
    have hb0 : (rd d.body).b0 = at' d.body 0 := e2
    have hr : (rd d.body).rate * 16 + (rd d.body).id = at' d.body 2 := by show at' d.body 2 / 16 * 16 + at' d.body 2 % 16 = _; omega
    rw [hb0, hr]
    rfl
/-- and else not -/
theorem rd_other (d : Dc) (h2 : ¬ d.body.size < 3) (h3 : bad d.body = true) : ¬ ((rd d.body).makeE = 0 ∧ slD (rd d.body) = d) := by
  intro ⟨hE, hD⟩
  obtain ⟨a1, a2, a3, a4, a5⟩ := sl_parts hE
  unfold slD at hD
  rw [if_pos hE] at hD
  have hb := congrArg (fun d => d.body.data.toList) hD
  simp only [Sl.body, body_list] at hb
  rw [head3 d.body (by omega)] at hb
  simp only [List.map_cons, List.map_nil, List.cons_append, List.nil_append, List.cons.injEq] at hb
  have e0 := byte_inj (b0_range a1) (at_range d.body 0) hb.1
  have hsz : (d.body.extract 3 d.body.size).size = d.body.size - 3 := by simp [ByteArray.size_extract]
  have a5' : (d.body.extract 3 d.body.size).size ≤ 252 := a5
  obtain ⟨r0, r0'⟩ := at_range d.body 0
  unfold bad at h3
  simp only [Bool.or_eq_true, decide_eq_true_eq] at h3
  have a1' : okRows (256 * (at' d.body 0 % 8 + 1)) := a1
  unfold okRows at a1'
  have e0' : (if decide (at' d.body 0 / 128 = 1) = true then (128 : Int) else 0) + (if decide (at' d.body 0 / 32 % 2 = 1) = true then 32 else 0) + 24 + 256 * (at' d.body 0 % 8 + 1) / 256 - 1 = at' d.body 0 := e0
  by_cases h4 : at' d.body 0 / 128 = 1 <;> by_cases h5 : at' d.body 0 / 32 % 2 = 1 <;> simp [h4, h5] at e0' <;> omega
end Go.Proofs.Ytbceakdifklocaa.DsI
