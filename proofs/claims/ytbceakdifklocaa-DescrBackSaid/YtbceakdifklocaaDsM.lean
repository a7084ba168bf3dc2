/- The document's MakeSlice and ReadSlice, of any. -/
import Derived.Test.YtbceakdifklocaaDsH
import Derived.Test.YtbceakdifklocaaDsL
namespace Go.Proofs.Ytbceakdifklocaa.DsM
open Go.RowKit Go.Proofs.Ytbceakdifklocaa.Mem Go.Proofs.Ytbceakdifklocaa.DsA Go.Proofs.Ytbceakdifklocaa.DsB Go.Proofs.Ytbceakdifklocaa.DsC Go.Proofs.Ytbceakdifklocaa.DsD Go.Proofs.Ytbceakdifklocaa.DsE Go.Proofs.Ytbceakdifklocaa.DsG Go.Proofs.Ytbceakdifklocaa.DsH Go.Proofs.Ytbceakdifklocaa.DsI Go.Proofs.Ytbceakdifklocaa.DsJ Go.Proofs.Ytbceakdifklocaa.DsK Go.Proofs.Ytbceakdifklocaa.DsL
theorem rmake_any (x : Sl) (w : World) : Calls Try.prog 13 #[.agg x.vals] w fun e w' => e = .returned (.tuple #[.agg #[.int .i64 (slD x).tag, .string (slD x).body], .int .i64 x.makeE]) ∧ Below w.heap.size w w' := by
  by_cases h : x.makeE = 0
  · obtain ⟨a1, a2, a3, a4, a5⟩ := DsApart.sl_parts h
    have hD : slD x = ⟨119, x.body⟩ := by simp [slD, h]
    rw [h, hD]
    exact rmake_ok x w a1 (decide_eq_true a2) (decide_eq_true a3) (decide_eq_true a4) a5
  · have hD : slD x = ⟨0, nob⟩ := by simp [slD, h]
    rw [hD]
    by_cases h1 : okRows x.rows
    · cases h2 : in1 255 x.burst with
      | false => rw [show x.makeE = 15 by simp [Sl.makeE, Sl.may, h1, h2]]; exact rmake_burst x w h1 h2
      | true =>
        cases h3 : in1 15 x.rate with
        | false => rw [show x.makeE = 15 by simp [Sl.makeE, Sl.may, h1, h2, h3]]; exact rmake_rate x w h1 h2 h3
        | true =>
          cases h4 : in1 15 x.id with
          | false => rw [show x.makeE = 15 by simp [Sl.makeE, Sl.may, h1, h2, h3, h4]]; exact rmake_id x w h1 h2 h3 h4
          | true =>
            by_cases h5 : 252 < x.more.size
            · rw [show x.makeE = 11 by simp [Sl.makeE, Sl.may, h1, h2, h3, h4, h5]]; exact rmake_long x w h1 h2 h3 h4 h5
            · exact absurd (show x.makeE = 0 by simp [Sl.makeE, Sl.may, h1, h2, h3, h4, h5]) h
    · rw [show x.makeE = 15 by simp [Sl.makeE, Sl.may, h1]]; exact rmake_rows x w h1
theorem rread_any (d : Dc) (w : World) : Calls Try.prog 15 #[.agg #[.int .i64 d.tag, .string d.body]] w fun e w' => e = .returned (.tuple #[.agg (rdS d).vals, .int .i64 (rdE d)]) ∧ Below w.heap.size w w' := by
  by_cases h1 : d.tag ≠ 119
  · have hE : rdE d = 14 := by simp [rdE, h1]
    rw [show rdS d = zeroSl by simp [rdS, hE], hE]
    exact rread_kind d w h1
  · have h1' : d.tag = 119 := by omega
    by_cases h2 : d.body.size < 3
    · have hE : rdE d = 10 := by simp [rdE, h1', h2]
      rw [show rdS d = zeroSl by simp [rdS, hE], hE]
      exact rread_short d w h1 h2
    · cases h3 : bad d.body with
      | true =>
        have hE : rdE d = 12 := by simp [rdE, h1', h2, h3]
        rw [show rdS d = zeroSl by simp [rdS, hE], hE]
        exact rread_form d w h1 h2 h3
      | false =>
        have hE : rdE d = 0 := by simp [rdE, h1', h2, h3]
        rw [show rdS d = rd d.body by simp [rdS, hE], hE]
        exact rread_ok d w h1 h2 h3
end Go.Proofs.Ytbceakdifklocaa.DsM
