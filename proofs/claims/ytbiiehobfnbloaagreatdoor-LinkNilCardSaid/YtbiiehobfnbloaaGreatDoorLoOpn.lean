/- Arguments of layer 13, opened: configurations, lists of ints, losses. -/
import Derived.Test.YtbiiehobfnbloaaGreatDoorPkT
import Derived.Test.YtbiiehobfnbloaaGreatDoorOpS
import Derived.Test.YtbiiehobfnbloaaGreatDoorPkB
namespace Go.Proofs.YtbiiehobfnbloaaGreatDoor.LoOpn
open Go Go.RowKit Go.Proofs.YtbiiehobfnbloaaGreatDoor.Q Go.Proofs.YtbiiehobfnbloaaGreatDoor.Mem Go.Proofs.YtbiiehobfnbloaaGreatDoor.Ap Go.Proofs.YtbiiehobfnbloaaGreatDoor.Opn Go.Proofs.YtbiiehobfnbloaaGreatDoor.OpS Go.Proofs.YtbiiehobfnbloaaGreatDoor.Ints
open Go.ChangeShapes Go.WideShapes Go.ChangeAt Go.Joins

set_option maxRecDepth 100000
section
variable {H0 : Type} {enc : TypeId × Value → H0} {w : World} {base : Nat} {spare : Nat → Bool} {held : Bool}
theorem ints_of {n : Nat} {v : Value} {x : DataW H0 × List MemPlace} (h : DataW.trod enc Tryz.prog w base spare held n 22 [v] = some x) :
    ∃ (a : Option Addr) (cap : Nat) (zs : List Int), v = .slice a zs.length cap ∧ zs.length ≤ 9223372036854775807 ∧ Ints w a zs := by
  obtain ⟨a, cap, L, rfl, hl, hs, _⟩ := seq_of (Q := fun _ : Int => True) (en := fun z : Int => [.int .i64 z]) (sz := 1) Tryz.underlying22 (by kernel_rfl) (by decide) (fun n cs x hc hx => by
    match cs, hc with
    | [c0], _ =>
      obtain ⟨a0, e0, _, _⟩ := DataW.trod_int Tryz.underlying3 hx
      simp at e0
      exact ⟨a0, by rw [e0], trivial⟩) h
  exact ⟨a, cap, L, rfl, hl, fun i z hi => by
    obtain ⟨b, o, e, hlt, hc⟩ := hs i z hi
    exact ⟨b, o, e, hlt, hc 0 _ rfl⟩⟩
theorem cfg_of {n : Nat} {cs : List Value} (hl : cs.length = 3) {x : DataW H0 × List MemPlace} (h : DataW.trod enc Tryz.prog w base spare held n 75 cs = some x) : ∃ R C K : Int, cs = [.int .i64 R, .int .i64 C, .int .i64 K] := by
  obtain ⟨ys, n', hn', hy, hlen, hyl, hf⟩ := DataW.trod_struct Tryz.underlying75 h
  match cs, hl, ys, hyl with
  | [c0, c1, c2], _, [y0, y1, y2], _ =>
    have h0 := hf 0 _ rfl
    have h1 := hf 1 _ rfl
    have h2 := hf 2 _ rfl
    rw [show Tryz.prog.cellsOf _ = 1 by kernel_rfl] at h0 h1 h2
    obtain ⟨a0, e0, _, _⟩ := DataW.trod_int Tryz.underlying3 h0
    obtain ⟨a1, e1, _, _⟩ := DataW.trod_int Tryz.underlying3 h1
    obtain ⟨a2, e2, _, _⟩ := DataW.trod_int Tryz.underlying3 h2
    simp at e0 e1 e2
    exact ⟨a0, a1, a2, by simp [*]⟩
theorem cfg_arg {v : Value} {d : DataW H0} {p : List MemPlace} {r : Reach} {b0 : Nat} (hv : Value.okWide Tryz.prog w r b0 75 v) (h : DataW.Trod enc Tryz.prog w base spare held 75 v d p) : ∃ R C K : Int, v = .agg #[.int .i64 R, .int .i64 C, .int .i64 K] := by
  obtain ⟨cs, rfl, hsz⟩ := TiOpn.okWide_struct Tryz.underlying75 hv
  obtain ⟨l⟩ := cs
  obtain ⟨fuel, hf⟩ := h
  obtain ⟨R, C, K, ex⟩ := cfg_of (hsz.trans (show Tryz.prog.cellsOf 75 = 3 by kernel_rfl)) hf
  have : l = [.int .i64 R, .int .i64 C, .int .i64 K] := ex
  exact ⟨R, C, K, by rw [this]⟩
end
end Go.Proofs.YtbiiehobfnbloaaGreatDoor.LoOpn
