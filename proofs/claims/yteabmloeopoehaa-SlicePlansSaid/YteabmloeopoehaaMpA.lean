/- mpe: what is wrong with a part; its section; Encode. -/
import Derived.Test.YteabmloeopoehaaPkD
import Derived.Test.YteabmloeopoehaaPkS
import Derived.Test.YteabmloeopoehaaPkT
namespace Go.Proofs.Yteabmloeopoehaa.MpA
open Go Go.RowKit Go.Proofs.Yteabmloeopoehaa.Q Go.Proofs.Yteabmloeopoehaa.Mem Go.Proofs.Yteabmloeopoehaa.Rg Go.Proofs.Yteabmloeopoehaa.Ap Go.Proofs.Yteabmloeopoehaa.St Go.Proofs.Yteabmloeopoehaa.BiP Go.Proofs.Yteabmloeopoehaa.SeA Go.Proofs.Yteabmloeopoehaa.SeC Go.Proofs.Yteabmloeopoehaa.SeE Go.Proofs.Yteabmloeopoehaa.SeP Go.Proofs.Yteabmloeopoehaa.TmA Go.Proofs.Yteabmloeopoehaa.TmB Go.Proofs.Yteabmloeopoehaa.DgB Go.Proofs.Yteabmloeopoehaa.DgC

/-- a part -/
structure Mp where
  mac : Int
  times : Ti
  text : ByteArray
def Mp.vals (p : Mp) : Array Value := #[.int .i64 p.mac, .int .i64 p.times.delta, .bool p.times.table, .bool p.times.frame, .int .i64 p.times.at_, .string p.text]
def Mp.ok (p : Mp) : Prop := 0 ≤ p.mac ∧ p.mac ≤ 65535
instance (p : Mp) : Decidable p.ok := by unfold Mp.ok; infer_instance
def Mp.chk (p : Mp) : Int := if p.ok ∧ p.times.ok then dgE p.text else 15
/-- its section -/
def Mp.sec (p : Mp) : Sc := ⟨62, false, p.mac, 0, true, 0, 0, encT p.times ++ p.text⟩
def Mp.enc (p : Mp) : ByteArray := if p.chk = 0 then bytesS p.sec else nob
theorem dg_size {s : ByteArray} (h : dgE s = 0) : s.size ≤ 4080 := by
  unfold dgE at h
  by_cases h1 : pkE s = 0
  · have h2 := (pk_ok h1).2.2.2
    rw [if_neg (by simpa using h1)] at h
    split at h
    · omega
    · split at h
      · omega
      · omega
  · rw [if_pos h1] at h; exact absurd h h1
theorem mchk_zero {p : Mp} (h : p.chk = 0) : p.ok ∧ p.times.ok ∧ dgE p.text = 0 := by
  unfold Mp.chk at h
  split at h
  · rename_i hk
    exact ⟨hk.1, hk.2, h⟩
  · omega
theorem sec_ok {p : Mp} (h : p.chk = 0) : p.sec.chk = 0 := by
  obtain ⟨⟨a1, a2⟩, h2, h3⟩ := mchk_zero h
  refine chk_ok ?_ ?_
  · unfold Sc.ok Mp.sec; dsimp only; omega
  · have h4 : (encT p.times).size = 4 := by unfold encT; rw [if_pos (tchk_ok h2), str_size, tm_len]
    have h5 := dg_size h3
    show ¬ 4084 < (encT p.times ++ p.text).size
    rw [ByteArray.size_append, h4]
    omega
set_option maxRecDepth 100000
end Go.Proofs.Yteabmloeopoehaa.MpA
