/- The gatherer: Take, Taken. -/
import Derived.Test.YthgcmlhmhojjhaaGreatDoorBuO
import Derived.Test.YthgcmlhmhojjhaaGreatDoorBuF
import Derived.Laws.EntriesVeiled
namespace Go.Proofs.YthgcmlhmhojjhaaGreatDoor.BuP
open Go Go.RowKit Go.Proofs.YthgcmlhmhojjhaaGreatDoor.Q Go.Proofs.YthgcmlhmhojjhaaGreatDoor.Mem Go.Proofs.YthgcmlhmhojjhaaGreatDoor.Rg Go.Proofs.YthgcmlhmhojjhaaGreatDoor.Ap Go.Proofs.YthgcmlhmhojjhaaGreatDoor.St Go.Proofs.YthgcmlhmhojjhaaGreatDoor.Tab Go.Proofs.YthgcmlhmhojjhaaGreatDoor.TmA Go.Proofs.YthgcmlhmhojjhaaGreatDoor.TbM Go.Proofs.YthgcmlhmhojjhaaGreatDoor.TbO Go.Proofs.YthgcmlhmhojjhaaGreatDoor.TbP Go.Proofs.YthgcmlhmhojjhaaGreatDoor.BuA Go.Proofs.YthgcmlhmhojjhaaGreatDoor.BuI Go.Proofs.YthgcmlhmhojjhaaGreatDoor.BuN Go.Proofs.YthgcmlhmhojjhaaGreatDoor.BuO

set_option maxRecDepth 100000
theorem taken_any {w : World} {B g gt gr : Nat} {v : Value} {S : Tb} {mac : Int} {n : Nat} (h : GaA w B g gt gr v S mac n) : Calls Tryz.prog 13 #[.pointer (some ⟨g, 0, none⟩)] w fun e w' => e = .returned (.int .i64 (n : Int)) ∧ w = w' := by
  have c3 := Blk.cell h.box 3 (v := .int .i64 (n : Int)) rfl
  clear h
  go_enter Tryz.func13, Tryz.ntmps13
  go_wp2_with fail
  go_ret
  exact ⟨rfl, rfl⟩
/-- a section is taken -/
def tkE (R : Nat) (mac : Int) (t : ByteArray) : Int := if isM t then grmE R mac t else if isF t then colE R t else 14
def tkT (S : Tb) (mac : Int) (t : ByteArray) : Tb := if isM t then grmT S mac t else if isF t then colT S t else S
def tkF (R : Nat) (mac : Int) (t : ByteArray) : Bool := if isM t then grmF R mac t else if isF t then colF R t else false
def tkN (R : Nat) (mac : Int) (t : ByteArray) (n : Nat) : Nat := if tkE R mac t = 0 then n + 1 else n
structure TkIn (w : World) (B g gt gr : Nat) (v : Value) (S : Tb) (mac : Int) (n : Nat) (t : ByteArray) (e : Ending) (w' : World) : Prop where
  e : e = .returned (.tuple #[.bool (tkF S.R mac t), .int .i64 (tkE S.R mac t)])
  ga : ∃ v', GaA w' B g gt gr v' (tkT S mac t) mac (tkN S.R mac t n) ∧ far w v v'
  k : Kept (footG g gt gr v) w w'
theorem take_z (w : World) (B g gt gr : Nat) (v : Value) (S : Tb) (mac : Int) (n : Nat) (t : ByteArray) (h : GaA w B g gt gr v S mac n) (h1 : isM t = false) (h2 : isF t = false) :
    Calls Tryz.prog 11 #[.pointer (some ⟨g, 0, none⟩), .string t] w fun e w' => TkIn w B g gt gr v S mac n t e w' := by
  have kf := find_z t w h1 h2
  unfold KZ at kf
  have HE := Lib.hid (show ∀ w', Below w.heap.size w w' → TkIn w B g gt gr v S mac n t (.returned (.tuple #[.bool false, .int .i64 14])) w' from fun w' hb => by
    refine ⟨by unfold tkF tkE; rw [h1, h2]; rfl, ⟨v, ?_, Or.inl rfl⟩, kept_below _ hb⟩
    have := h.below hb
    unfold tkT tkN tkE
    rw [h1, h2]
    exact this)
  clear h h1 h2
  go_enter Tryz.func11, Tryz.ntmps11
  go_wp2_with fail
  (with_reducible refine (kf).mono ?_); rintro e1 W1 ⟨rfl, hb1⟩
  have HF := Lib.hid (HE.out _ (hb1.alloc hb1.size (.cells #[.nilFunc, .nilFunc, .nilFunc, .nilFunc] 83)))
  clear kf hb1
  go_wp2_with fail
  go_ret2
  exact HF.out
theorem gram_all (w : World) (B g gt gr : Nat) (v : Value) (S : Tb) (mac : Int) (n : Nat) (t : ByteArray) (h : GaA w B g gt gr v S mac n) (hok : Ok S) (hst : S.st.length ≤ 90000) (hR : S.R = 256) (hs : t.size ≤ 1099511627776) :
    Calls Tryz.prog 72 #[.pointer (some ⟨g, 0, none⟩), .string t] w fun e w' => GrmIn w B g gt gr v S mac n t e w' := by
  by_cases h0 : MpC.mdE t = 0
  · by_cases hm : 0 ≤ mac ∧ (MpC.mdP t).mac ≠ mac
    · exact gram_none w B g gt gr v S mac n t h hs h0 hm
    · exact gram_put w B g gt gr v S mac n t h hok hst hR hs h0 hm
  · exact gram_bad w B g gt gr v S mac n t h hs h0
end Go.Proofs.YthgcmlhmhojjhaaGreatDoor.BuP
