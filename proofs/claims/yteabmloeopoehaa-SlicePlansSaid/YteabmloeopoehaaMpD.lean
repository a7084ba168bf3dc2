/- fec: With, Is, Cut. -/
import Derived.Test.YteabmloeopoehaaMpC
namespace Go.Proofs.Yteabmloeopoehaa.MpD
open Go Go.RowKit Go.Proofs.Yteabmloeopoehaa.Q Go.Proofs.Yteabmloeopoehaa.Mem Go.Proofs.Yteabmloeopoehaa.Rg Go.Proofs.Yteabmloeopoehaa.Ap Go.Proofs.Yteabmloeopoehaa.St Go.Proofs.Yteabmloeopoehaa.BiP Go.Proofs.Yteabmloeopoehaa.SeA Go.Proofs.Yteabmloeopoehaa.SeC Go.Proofs.Yteabmloeopoehaa.SeE Go.Proofs.Yteabmloeopoehaa.SeEq Go.Proofs.Yteabmloeopoehaa.SeI Go.Proofs.Yteabmloeopoehaa.SeK Go.Proofs.Yteabmloeopoehaa.SeP Go.Proofs.Yteabmloeopoehaa.TmA Go.Proofs.Yteabmloeopoehaa.TmB Go.Proofs.Yteabmloeopoehaa.MpA Go.Proofs.Yteabmloeopoehaa.MpC

/-- a part with other times -/
def atP (p : Mp) (x : Ti) : Mp := ⟨p.mac, x, p.text⟩
def mwE (t : ByteArray) (x : Ti) : Int := if mdE t = 0 then (atP (mdP t) x).chk else mdE t
def mwS (t : ByteArray) (x : Ti) : ByteArray := if mdE t = 0 then (atP (mdP t) x).enc else nob
theorem mdp_zero {t : ByteArray} (h : mdE t ≠ 0) : mdP t = zeroP := (md_zero rfl h).2
theorem dp_size (t : ByteArray) : (mdP t).text.size ≤ 1099511627776 := by
  by_cases h : mdE t = 0
  · unfold mdP
    rw [if_pos h]
    unfold mdE at h
    by_cases h1 : decE t = 0
    · have hb := (chk_zero (dec_enc h1).1).2
      show ((decS t).body.extract 4 (decS t).body.size).size ≤ _
      rw [ByteArray.size_extract]
      omega
    · rw [if_pos h1] at h; exact absurd h h1
  · rw [mdp_zero h]
    exact Nat.zero_le _
set_option maxRecDepth 100000
end Go.Proofs.Yteabmloeopoehaa.MpD
