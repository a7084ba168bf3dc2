/- Arguments of layer 23, opened: a link's configuration, a call. -/
import Derived.Test.YtbiiehobfnbloaaGreatDoorPkT
import Derived.Test.YtbiiehobfnbloaaGreatDoorOpS
import Derived.Test.YtbiiehobfnbloaaGreatDoorLoOpn
import Derived.Test.YtbiiehobfnbloaaGreatDoorLnP
import Derived.Test.YtbiiehobfnbloaaGreatDoorLnG
namespace Go.Proofs.YtbiiehobfnbloaaGreatDoor.LnOpn
open Go Go.RowKit Go.Proofs.YtbiiehobfnbloaaGreatDoor.Q Go.Proofs.YtbiiehobfnbloaaGreatDoor.Mem Go.Proofs.YtbiiehobfnbloaaGreatDoor.Ap Go.Proofs.YtbiiehobfnbloaaGreatDoor.Opn Go.Proofs.YtbiiehobfnbloaaGreatDoor.OpS Go.Proofs.YtbiiehobfnbloaaGreatDoor.LnP Go.Proofs.YtbiiehobfnbloaaGreatDoor.LnG Go.Proofs.YtbiiehobfnbloaaGreatDoor.LoOpn
open Go.ChangeShapes Go.WideShapes Go.ChangeAt Go.Joins

set_option maxRecDepth 100000
section
variable {H0 : Type} {enc : TypeId × Value → H0} {w : World} {base : Nat} {spare : Nat → Bool} {held : Bool}
theorem u8_of {n : Int} (h : (Lit.int .u8 n).wf = true) : 0 ≤ n ∧ n < 256 := by
  simp only [Lit.wf, Bool.and_eq_true, decide_eq_true_eq] at h
  have h1 : (0 : Int) ≤ n := h.1
  have h2 : n ≤ 255 := h.2
  omega
theorem i64_of {n : Int} (h : (Lit.int .i64 n).wf = true) : -9223372036854775808 ≤ n ∧ n ≤ 9223372036854775807 := by
  simp only [Lit.wf, Bool.and_eq_true, decide_eq_true_eq] at h
  exact h
theorem sm_of {n : Nat} {cs : List Value} (hl : cs.length = 5) {x : DataW H0 × List MemPlace} (h : DataW.trod enc Tryz.prog w base spare held n 77 cs = some x) : ∃ y : Sm, cs = enSm y ∧ True := by
  obtain ⟨ys, n', hn', hy, hlen, hyl, hf⟩ := DataW.trod_struct Tryz.underlying77 h
  match cs, hl, ys, hyl with
  | [c0, c1, c2, c3, c4], _, [y0, y1, y2], _ =>
    have h0 := hf 0 _ rfl
    have h1 := hf 1 _ rfl
    have h2 := hf 2 _ rfl
    rw [show Tryz.prog.cellsOf _ = 1 by kernel_rfl] at h0 h1
    rw [show Tryz.prog.cellsOf _ = 3 by kernel_rfl] at h2
    obtain ⟨a0, e0, _, _⟩ := DataW.trod_int Tryz.underlying3 h0
    obtain ⟨a1, e1, _, _⟩ := DataW.trod_int Tryz.underlying3 h1
    obtain ⟨R, C, K, e2⟩ := cfg_of (by rfl) h2
    simp at e0 e1 e2
    exact ⟨⟨a0, a1, R, C, K⟩, by simp [enSm, *], trivial⟩
theorem sms_of {n : Nat} {v : Value} {x : DataW H0 × List MemPlace} (h : DataW.trod enc Tryz.prog w base spare held n 61 [v] = some x) :
    ∃ (a : Option Addr) (cap : Nat) (L : List Sm), v = .slice a L.length cap ∧ L.length ≤ 9223372036854775807 ∧ Seq enSm 5 w a L := by
  obtain ⟨a, cap, L, rfl, hl, hs, _⟩ := seq_of (Q := fun _ : Sm => True) (en := enSm) (sz := 5) Tryz.underlying61 (by kernel_rfl) (by decide) (fun n cs x hc hx => sm_of hc hx) h
  exact ⟨a, cap, L, rfl, hl, hs⟩
def i64 (n : Int) : Prop := -9223372036854775808 ≤ n ∧ n ≤ 9223372036854775807
theorem cf_of {n : Nat} {cs : List Value} (hl : cs.length = 8) {x : DataW H0 × List MemPlace} (h : DataW.trod enc Tryz.prog w base spare held n 63 cs = some x) :
    ∃ (c : Cf) (a : Option Addr) (cap : Nat) (L : List Sm), cs = [.int .i64 c.unit, .int .i64 c.guard, .int .i64 c.most, .int .i64 c.pat, .int .i64 c.gap, .int .i64 c.every, .int .i64 c.table, .slice a L.length cap] ∧ L.length ≤ 9223372036854775807 ∧ Seq enSm 5 w a L ∧ i64 c.unit ∧ i64 c.guard ∧ i64 c.most ∧ i64 c.pat ∧ i64 c.gap ∧ i64 c.every ∧ i64 c.table := by
  obtain ⟨ys, n', hn', hy, hlen, hyl, hf⟩ := DataW.trod_struct Tryz.underlying63 h
  match cs, hl, ys, hyl with
  | [c0, c1, c2, c3, c4, c5, c6, c7], _, [y0, y1, y2, y3, y4, y5, y6, y7], _ =>
    have h0 := hf 0 _ rfl
    have h1 := hf 1 _ rfl
    have h2 := hf 2 _ rfl
    have h3 := hf 3 _ rfl
    have h4 := hf 4 _ rfl
    have h5 := hf 5 _ rfl
    have h6 := hf 6 _ rfl
    have h7 := hf 7 _ rfl
    rw [show Tryz.prog.cellsOf _ = 1 by kernel_rfl] at h0 h1 h2 h3 h4 h5 h6 h7
    obtain ⟨a0, e0, _, w0⟩ := DataW.trod_int Tryz.underlying3 h0
    obtain ⟨a1, e1, _, w1⟩ := DataW.trod_int Tryz.underlying3 h1
    obtain ⟨a2, e2, _, w2⟩ := DataW.trod_int Tryz.underlying3 h2
    obtain ⟨a3, e3, _, w3⟩ := DataW.trod_int Tryz.underlying3 h3
    obtain ⟨a4, e4, _, w4⟩ := DataW.trod_int Tryz.underlying3 h4
    obtain ⟨a5, e5, _, w5⟩ := DataW.trod_int Tryz.underlying3 h5
    obtain ⟨a6, e6, _, w6⟩ := DataW.trod_int Tryz.underlying3 h6
    obtain ⟨a, cap, L, e7, hL, hs⟩ := sms_of (v := c7) h7
    simp at e0 e1 e2 e3 e4 e5 e6
    exact ⟨⟨a0, a1, a2, a3, a4, a5, a6⟩, a, cap, L, by simp [*], hL, hs, i64_of w0, i64_of w1, i64_of w2, i64_of w3, i64_of w4, i64_of w5, i64_of w6⟩
theorem cf_arg {v : Value} {d : DataW H0} {q : List MemPlace} {r : Reach} {b0 : Nat} (hv : Value.okWide Tryz.prog w r b0 63 v) (h : DataW.Trod enc Tryz.prog w base spare held 63 v d q) :
    ∃ (c : Cf) (a : Option Addr) (cap : Nat) (L : List Sm), v = .agg #[.int .i64 c.unit, .int .i64 c.guard, .int .i64 c.most, .int .i64 c.pat, .int .i64 c.gap, .int .i64 c.every, .int .i64 c.table, .slice a L.length cap] ∧ L.length ≤ 9223372036854775807 ∧ Seq enSm 5 w a L ∧ i64 c.unit ∧ i64 c.guard ∧ i64 c.most ∧ i64 c.pat ∧ i64 c.gap ∧ i64 c.every ∧ i64 c.table := by
  obtain ⟨cs, rfl, hsz⟩ := TiOpn.okWide_struct Tryz.underlying63 hv
  obtain ⟨l⟩ := cs
  obtain ⟨fuel, hf⟩ := h
  obtain ⟨c, a, cap, L, ex, hg⟩ := cf_of (hsz.trans (show Tryz.prog.cellsOf 63 = 8 by kernel_rfl)) hf
  have ex : l = _ := ex
  exact ⟨c, a, cap, L, by rw [ex], hg⟩
theorem op_of {n : Nat} {cs : List Value} (hl : cs.length = 5) {x : DataW H0 × List MemPlace} (h : DataW.trod enc Tryz.prog w base spare held n 79 cs = some x) : ∃ y : LOp, cs = enOp y ∧ y.b < 256 := by
  obtain ⟨ys, n', hn', hy, hlen, hyl, hf⟩ := DataW.trod_struct Tryz.underlying79 h
  match cs, hl, ys, hyl with
  | [c0, c1, c2, c3, c4], _, [y0, y1, y2, y3, y4], _ =>
    have h0 := hf 0 _ rfl
    have h1 := hf 1 _ rfl
    have h2 := hf 2 _ rfl
    have h3 := hf 3 _ rfl
    have h4 := hf 4 _ rfl
    rw [show Tryz.prog.cellsOf _ = 1 by kernel_rfl] at h0 h1 h2 h3 h4
    obtain ⟨a0, e0, _, _⟩ := DataW.trod_int Tryz.underlying3 h0
    obtain ⟨a1, e1, _, _⟩ := DataW.trod_int Tryz.underlying3 h1
    obtain ⟨a2, e2, _, _⟩ := DataW.trod_int Tryz.underlying3 h2
    obtain ⟨a3, e3, _, w3⟩ := DataW.trod_int Tryz.underlying5 h3
    obtain ⟨a4, e4, _, _⟩ := DataW.trod_string Tryz.underlying9 h4
    simp at e0 e1 e2 e3 e4
    have u3 := u8_of w3
    obtain ⟨m3, rfl⟩ := Int.eq_ofNat_of_zero_le u3.1
    exact ⟨⟨a0, a1, a2, m3, a4⟩, by simp [enOp, *], by dsimp only; omega⟩
theorem op_arg {v : Value} {d : DataW H0} {q : List MemPlace} {r : Reach} {b0 : Nat} (hv : Value.okWide Tryz.prog w r b0 79 v) (h : DataW.Trod enc Tryz.prog w base spare held 79 v d q) :
    ∃ o : LOp, v = .agg #[.int .i64 o.ask, .int .i64 o.stream, .int .i64 o.n, .int .u8 (o.b : Int), .string o.text] ∧ o.b < 256 := by
  obtain ⟨cs, rfl, hsz⟩ := TiOpn.okWide_struct Tryz.underlying79 hv
  obtain ⟨l⟩ := cs
  obtain ⟨fuel, hf⟩ := h
  obtain ⟨o, ex, hg⟩ := op_of (hsz.trans (show Tryz.prog.cellsOf 79 = 5 by kernel_rfl)) hf
  have ex : l = _ := ex
  exact ⟨o, by rw [ex]; rfl, hg⟩
end
end Go.Proofs.YtbiiehobfnbloaaGreatDoor.LnOpn
