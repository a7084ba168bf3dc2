/- fec: Decode. -/
import Derived.Test.YteabmloeopoehaaMpA
import Derived.Test.YteabmloeopoehaaPkS
namespace Go.Proofs.Yteabmloeopoehaa.MpC
open Go Go.RowKit Go.Proofs.Yteabmloeopoehaa.Q Go.Proofs.Yteabmloeopoehaa.Mem Go.Proofs.Yteabmloeopoehaa.Rg Go.Proofs.Yteabmloeopoehaa.Ap Go.Proofs.Yteabmloeopoehaa.St Go.Proofs.Yteabmloeopoehaa.BiP Go.Proofs.Yteabmloeopoehaa.SeA Go.Proofs.Yteabmloeopoehaa.SeC Go.Proofs.Yteabmloeopoehaa.SeE Go.Proofs.Yteabmloeopoehaa.SeEq Go.Proofs.Yteabmloeopoehaa.SeI Go.Proofs.Yteabmloeopoehaa.SeK Go.Proofs.Yteabmloeopoehaa.SeP Go.Proofs.Yteabmloeopoehaa.TmA Go.Proofs.Yteabmloeopoehaa.TmB Go.Proofs.Yteabmloeopoehaa.MpA

def zeroP : Mp := ⟨0, zeroT, nob⟩
/-- the part that a section is -/
def mpOf (s : Sc) : Mp := ⟨s.ext, tmD (s.body.extract 0 4), s.body.extract 4 s.body.size⟩
/-- is a section framed as a part's? -/
def frm (s : Sc) : Prop := s.priv = false ∧ s.version = 0 ∧ s.now = true ∧ s.number = 0 ∧ s.last = 0
instance (s : Sc) : Decidable (frm s) := by unfold frm; infer_instance
def secE (s : Sc) : Int := if s.table ≠ 62 then 14 else if ¬ frm s then 12 else if s.body.size < 4 then 10 else (mpOf s).chk
def mdE (t : ByteArray) : Int := if decE t ≠ 0 then decE t else secE (decS t)
def mdP (t : ByteArray) : Mp := if mdE t = 0 then mpOf (decS t) else zeroP
theorem md_zero {t : ByteArray} {c : Int} (h : mdE t = c) (hc : c ≠ 0) : mdE t = c ∧ mdP t = zeroP := ⟨h, by unfold mdP; rw [if_neg (by rw [h]; exact hc)]⟩
theorem frm_eq (s : Sc) (ht : s.table = 62) : decide (s = ⟨62, false, s.ext, 0, true, 0, 0, s.body⟩) = decide (frm s) := by
  rw [decide_eq_decide, sc_iff]
  unfold frm
  dsimp only
  constructor
  · rintro ⟨h1, h2, h3, h4, h5, h6, h7, h8⟩; exact ⟨h2, h4, h5, h6, h7⟩
  · rintro ⟨h1, h2, h3, h4, h5⟩; exact ⟨ht, h1, rfl, h2, h3, h4, h5, rfl⟩
set_option maxRecDepth 100000
/-- the zero part -/
abbrev zc : Array Value := #[.int .i64 0, .int .i64 0, .bool false, .bool false, .int .i64 0, .string nob]
end Go.Proofs.Yteabmloeopoehaa.MpC
