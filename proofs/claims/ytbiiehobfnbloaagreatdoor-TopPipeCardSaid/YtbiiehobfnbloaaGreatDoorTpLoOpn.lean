import Derived.Test.YtbiiehobfnbloaaGreatDoorTpOpS
namespace Go.Proofs.YtbiiehobfnbloaaGreatDoor.LoOpn
open Go Go.RowKit Q Mem Ap Opn OpS Ints
open Go.ChangeShapes Go.WideShapes Go.ChangeAt Go.Joins
set_option maxRecDepth 100000
section
variable {H0 : Type} {enc : TypeId × Value → H0} {w : World} {base : Nat} {spare : Nat → Bool} {held : Bool}
theorem ints_of {n : Nat} {v : Value} {x : DataW H0 × List MemPlace} (h : DataW.trod enc Tryz.prog w base spare held n 22 [v] = some x) :
   ∃ (a : Option Addr) (cap : Nat) (zs : List Int), v = .slice a zs.length cap ∧ zs.length ≤ 9223372036854775807 ∧ Ints w a zs := by
 obtain ⟨a, cap, L, rfl, hl, hs, _⟩ := seq_of (Q := fun _ : Int => True) (en := fun z : Int => [.int .i64 z]) (sz := 1) Tryz.underlying22 (by kernel_rfl) (by decide) (fun n cs x hc hx => by
   match cs, hc with
   | [c0], _ =>
     obtain ⟨a0, e0, _, _⟩ := DataW.trod_int Tryz.underlying3 hx
     simp at e0
     exact ⟨a0, by rw [e0], trivial⟩) h
 exact ⟨a, cap, L, rfl, hl, fun i z hi => by
   obtain ⟨b, o, e, hlt, hc⟩ := hs i z hi
   exact ⟨b, o, e, hlt, hc 0 _ rfl⟩⟩
end
end Go.Proofs.YtbiiehobfnbloaaGreatDoor.LoOpn
