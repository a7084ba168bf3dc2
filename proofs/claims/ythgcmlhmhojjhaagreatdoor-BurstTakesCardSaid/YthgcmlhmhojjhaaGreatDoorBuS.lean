/- The gatherer: Take of any section; what it keeps. -/
import Derived.Test.YthgcmlhmhojjhaaGreatDoorBuR
namespace Go.Proofs.YthgcmlhmhojjhaaGreatDoor.BuS
open Go Go.RowKit Go.Proofs.YthgcmlhmhojjhaaGreatDoor.Q Go.Proofs.YthgcmlhmhojjhaaGreatDoor.Mem Go.Proofs.YthgcmlhmhojjhaaGreatDoor.Rg Go.Proofs.YthgcmlhmhojjhaaGreatDoor.Ap Go.Proofs.YthgcmlhmhojjhaaGreatDoor.St Go.Proofs.YthgcmlhmhojjhaaGreatDoor.Tab Go.Proofs.YthgcmlhmhojjhaaGreatDoor.TmA Go.Proofs.YthgcmlhmhojjhaaGreatDoor.TbM Go.Proofs.YthgcmlhmhojjhaaGreatDoor.TbO Go.Proofs.YthgcmlhmhojjhaaGreatDoor.TbP Go.Proofs.YthgcmlhmhojjhaaGreatDoor.BuA Go.Proofs.YthgcmlhmhojjhaaGreatDoor.BuI Go.Proofs.YthgcmlhmhojjhaaGreatDoor.BuN Go.Proofs.YthgcmlhmhojjhaaGreatDoor.BuO Go.Proofs.YthgcmlhmhojjhaaGreatDoor.BuP

theorem tk_ok {S : Tb} (h : Ok S) (hst : S.st.length ≤ 90000) (mac : Int) (t : ByteArray) : Ok (tkT S mac t) ∧ (tkT S mac t).st.length ≤ S.st.length + 2 ∧ (tkT S mac t).R = S.R := by
  unfold tkT
  split
  · unfold grmT
    split
    · exact ⟨h, by omega, rfl⟩
    · have h1 := LaB.put_ok h (by omega) (MpC.mdP t).times.at_ (MpC.mdP t).text
      split
      · have h2 := LaB.put_ok h1.1 (by omega) (endN t : Int) (zz (usedN S.R t * S.R - endN t))
        have h3 := LaB.pad_ok h2.1 (191 - (usedN S.R t : Int))
        exact ⟨h3.1, by rw [h3.2.1]; omega, by rw [h3.2.2, put_R, put_R]⟩
      · exact ⟨h1.1, by omega, by rw [put_R]⟩
  · split
    · unfold colT
      split
      · exact ⟨h, by omega, rfl⟩
      · have h1 := LaB.par_ok h (FcC.fdP t).number (FcC.fdP t).text
        have h2 := LaB.pad_ok h1.1 (FcC.fdP t).pad
        exact ⟨h2.1, by rw [h2.2.1, h1.2.1]; omega, by rw [h2.2.2, h1.2.2]⟩
    · exact ⟨h, by omega, rfl⟩
theorem take_any (w : World) (B g gt gr : Nat) (v : Value) (S : Tb) (mac : Int) (n : Nat) (t : ByteArray) (h : GaA w B g gt gr v S mac n) (hok : Ok S) (hst : S.st.length ≤ 90000) (hR : S.R = 256) (hs : t.size ≤ 1099511627776) (hn : n ≤ 1000000) (hT : Tab 2 w) :
    Calls Tryz.prog 11 #[.pointer (some ⟨g, 0, none⟩), .string t] w fun e w' => TkIn w B g gt gr v S mac n t e w' := by
  cases h1 : isM t with
  | true => exact BuQ.take_m w B g gt gr v S mac n t h hok hst hR hs hn h1
  | false =>
    cases h2 : isF t with
    | true => exact BuR.take_f w B g gt gr v S mac n t h hok hst hR hs hn h1 h2 hT
    | false => exact take_z w B g gt gr v S mac n t h h1 h2
end Go.Proofs.YthgcmlhmhojjhaaGreatDoor.BuS
