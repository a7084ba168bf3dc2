/- MpeAll: joined. It holds of every list of texts, without a condition. -/
import Derived.Test.YtfadhgbhdoddpaaMpOpn
import Derived.Test.YtfadhgbhdoddpaaOpS
import Derived.Test.YtfadhgbhdoddpaaMaC
namespace Go.Proofs.Ytfadhgbhdoddpaa.MaCC
open Go.RowKit Go.Proofs.Ytfadhgbhdoddpaa.Mem Go.Proofs.Ytfadhgbhdoddpaa.Ap Go.Proofs.Ytfadhgbhdoddpaa.CrB Go.Proofs.Ytfadhgbhdoddpaa.Opn Go.Proofs.Ytfadhgbhdoddpaa.OpS Go.Proofs.Ytfadhgbhdoddpaa.MaC
open Go.ChangeShapes Go.WideShapes Go.ChangeAt Go.Joins

set_option maxRecDepth 100000
section
variable {H0 : Type} {enc : TypeId × Value → H0} {w : World} {base : Nat} {spare : Nat → Bool} {held : Bool}
theorem ss_of {n : Nat} {v : Value} {x : DataW H0 × List MemPlace} (h : DataW.trod enc Try.prog w base spare held n 48 [v] = some x) :
    ∃ (a : Option Addr) (cap : Nat) (L : List ByteArray), v = .slice a L.length cap ∧ L.length ≤ 9223372036854775807 ∧ Seq enS 1 w a L := by
  obtain ⟨a, cap, L, rfl, hl, hs, _⟩ := seq_of (Q := fun _ => True) (en := enS) (sz := 1) Try.underlying48 (by kernel_rfl) (by decide) (fun n cs x hc hx => by
    obtain ⟨y, hy, _⟩ := DataW.trod_string Try.underlying9 hx
    exact ⟨y, hy, trivial⟩) h
  exact ⟨a, cap, L, rfl, hl, hs⟩
end
theorem params : Try.f9.params = #[48] := by kernel_rfl
theorem contract (H0 : Type) (enc : TypeId × Value → H0) (W : World) (base : Nat) (args : Array Value) (ds : List (DataW H0)) (p : List MemPlace)
    (hval : ∀ (j : Nat) t v, Try.f9.params[j]? = some t → args[j]? = some v → Value.okWide Try.prog W .any base t v)
    (hA : DataW.TrodAll enc Try.prog W 0 (fun _ => true) true Try.f9.params.toList args.toList ds p) :
    Calls Try.prog 9 args W fun e W' => e = .returned (.bool true) ∧ Below W.heap.size W W' := by
  rw [params] at hA hval
  obtain ⟨v0, vs0, d0, ds0, p0, q0, hargs, rfl, rfl, h0, r0⟩ := trodAll_cons hA
  obtain ⟨rfl, rfl, rfl⟩ := trodAll_nil r0
  obtain rfl : args = #[v0] := by cases args; simp_all
  obtain ⟨a0, len, cap0, rfl⟩ := okWide_slice Try.underlying48 (hval 0 48 v0 rfl rfl)
  obtain ⟨fuel, hf⟩ := h0
  obtain ⟨a, cap, L, e, hl, hs⟩ := ss_of hf
  rw [e]
  exact callsIn_wide.1 (law_in a _ cap L W rfl hl hs)
set_option maxRecDepth 100000 in
theorem proved : Rows.MpeAllSaid :=
  OpenClaim.holds_of_wide 9 Try.f9 rfl rfl rfl rfl rfl rfl rfl ⟨rfl, rfl, rfl, rfl, rfl⟩ rfl rfl rfl rfl rfl (by kernel_rfl) Try.func9 (by kernel_rfl)
    (of_decide_eq_true (by kernel_rfl)) (by unfold Func.isWrapper; first | (rw [if_pos (by decide +kernel)]; kernel_rfl) | (rw [if_neg (by decide +kernel)]; exact ⟨rfl, rfl⟩))
    (fun os started H enc _ => Law.lifted (f := 9) (fn := Try.f9) (s := Rows.mpeAllSpec) rfl (by kernel_rfl) Try.func9 rfl (B := 4) (by kernel_rfl) Try.underlying4
      (by rw [params]; intro t ht; simp at ht; rcases ht with rfl <;> exact ⟨by kernel_rfl, of_decide_eq_true (by kernel_rfl)⟩)
      (by rw [params]; intro H xs hx; match xs, hx with | [_], _ => rfl)
      (fun H enc W base args ds p hval hA _ => contract H enc W base args ds p hval hA) os started H enc
      (ChangeSpec.witness6 (enc := enc) (C := Try.checked) false ⟨#[], #[.slice none 0 0], []⟩ 8 (by kernel_rfl) (by kernel_rfl) (by kernel_rfl) (by kernel_rfl)))
#print axioms proved
end Go.Proofs.Ytfadhgbhdoddpaa.MaCC
