/- DescrSlices: joined. It holds of every Slice and every descriptor, without a condition. -/
import Derived.Test.YtbceakdifklocaaDsOpn
import Derived.Test.YtbceakdifklocaaDsO
namespace Go.Proofs.Ytbceakdifklocaa.DsSlicesC
open Go.RowKit Go.Proofs.Ytbceakdifklocaa.Mem Go.Proofs.Ytbceakdifklocaa.DsA Go.Proofs.Ytbceakdifklocaa.DsB Go.Proofs.Ytbceakdifklocaa.DsC Go.Proofs.Ytbceakdifklocaa.DsD Go.Proofs.Ytbceakdifklocaa.DsE Go.Proofs.Ytbceakdifklocaa.DsO Go.Proofs.Ytbceakdifklocaa.DsOpn Go.Proofs.Ytbceakdifklocaa.Opn
open Go.ChangeShapes Go.WideShapes Go.ChangeAt Go.Joins

set_option maxRecDepth 100000
theorem params : Try.f4.params = #[23, 30] := by kernel_rfl

theorem contract (H0 : Type) (enc : TypeId × Value → H0) (W : World) (base : Nat) (args : Array Value) (ds : List (DataW H0)) (p : List MemPlace)
    (hval : ∀ (j : Nat) t v, Try.f4.params[j]? = some t → args[j]? = some v → Value.okWide Try.prog W .any base t v)
    (hA : DataW.TrodAll enc Try.prog W 0 (fun _ => true) true Try.f4.params.toList args.toList ds p) :
    Calls Try.prog 4 args W fun e W' => e = .returned (.bool true) ∧ Below W.heap.size W W' := by
  rw [params] at hA hval
  obtain ⟨v0, vs0, d0, ds0, p0, q0, hargs, rfl, rfl, h0, r0⟩ := trodAll_cons hA
  obtain ⟨v1, vs1, d1, ds1, p1, q1, rfl, rfl, rfl, h1, r1⟩ := trodAll_cons r0
  obtain ⟨rfl, rfl, rfl⟩ := trodAll_nil r1
  obtain rfl : args = #[v0, v1] := by cases args; simp_all
  obtain ⟨cs, rfl, hsz⟩ := DsOpn.okWide_struct Try.underlying23 (hval 0 23 v0 rfl rfl)
  obtain ⟨ct, rfl, htz⟩ := DsOpn.okWide_struct Try.underlying30 (hval 1 30 v1 rfl rfl)
  obtain ⟨l⟩ := cs
  obtain ⟨m⟩ := ct
  obtain ⟨fuel, hf⟩ := h0
  obtain ⟨fuel', hf'⟩ := h1
  obtain ⟨x, ex⟩ := sl_of (hsz.trans (show Try.prog.cellsOf 23 = 7 by kernel_rfl)) hf
  obtain ⟨d, ed, _⟩ := dc_of (htz.trans (show Try.prog.cellsOf 30 = 2 by kernel_rfl)) hf'
  have e1 : (⟨l⟩ : Array Value) = x.vals := by have : l = x.vals.toList := ex; rw [this]
  have e2 : (⟨m⟩ : Array Value) = #[.int .i64 d.tag, .string d.body] := by have : m = _ := ed; rw [this]
  rw [e1, e2]
  exact slices_any x d W

set_option maxRecDepth 100000 in
theorem proved : Rows.DescrSlicesSaid :=
  OpenClaim.holds_of_wide 4 Try.f4 rfl rfl rfl rfl rfl rfl rfl ⟨rfl, rfl, rfl, rfl, rfl⟩ rfl rfl rfl rfl rfl (by kernel_rfl) Try.func4 (by kernel_rfl)
    (of_decide_eq_true (by kernel_rfl)) (by unfold Func.isWrapper; first | (rw [if_pos (by decide +kernel)]; kernel_rfl) | (rw [if_neg (by decide +kernel)]; exact ⟨rfl, rfl⟩))
    (fun os started H enc _ => Law.lifted (f := 4) (fn := Try.f4) (s := Rows.descrSlicesSpec) rfl (by kernel_rfl) Try.func4 rfl (B := 4) (by kernel_rfl) Try.underlying4
      (by rw [params]; intro t ht; simp at ht; rcases ht with rfl | rfl <;> exact ⟨by kernel_rfl, of_decide_eq_true (by kernel_rfl)⟩)
      (by rw [params]; intro H xs hx; match xs, hx with | [_, _], _ => rfl)
      (fun H enc W base args ds p hval hA _ => contract H enc W base args ds p hval hA) os started H enc
      (ChangeSpec.witness6 (enc := enc) (C := Try.checked) false ⟨#[], #[.agg #[.bool false, .bool false, .int .i64 0, .int .i64 0, .int .i64 0, .int .i64 0, .string ByteArray.empty], .agg #[.int .i64 0, .string ByteArray.empty]], []⟩ 8 (by kernel_rfl) (by kernel_rfl) (by kernel_rfl) (by kernel_rfl)))
#print axioms proved
end Go.Proofs.Ytbceakdifklocaa.DsSlicesC
