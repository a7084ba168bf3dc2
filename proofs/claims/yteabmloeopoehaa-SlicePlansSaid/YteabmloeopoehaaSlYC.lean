/- SlicePlans: joined. It holds of every number and every list of runs, without a condition. -/
import Derived.Test.YteabmloeopoehaaSlY
namespace Go.Proofs.Yteabmloeopoehaa.SlYC
open Go.RowKit Go.Proofs.Yteabmloeopoehaa.Mem Go.Proofs.Yteabmloeopoehaa.Ap Go.Proofs.Yteabmloeopoehaa.SlA Go.Proofs.Yteabmloeopoehaa.SlB Go.Proofs.Yteabmloeopoehaa.SlC Go.Proofs.Yteabmloeopoehaa.SlOpn Go.Proofs.Yteabmloeopoehaa.SlY Go.Proofs.Yteabmloeopoehaa.TiOpn Go.Proofs.Yteabmloeopoehaa.Opn
open Go.ChangeShapes Go.WideShapes Go.ChangeAt Go.Joins

set_option maxRecDepth 100000
theorem params : Try.f4.params = #[3, 26] := by kernel_rfl
theorem contract (H0 : Type) (enc : TypeId × Value → H0) (W : World) (base : Nat) (args : Array Value) (ds : List (DataW H0)) (p : List MemPlace)
    (hval : ∀ (j : Nat) t v, Try.f4.params[j]? = some t → args[j]? = some v → Value.okWide Try.prog W .any base t v)
    (hA : DataW.TrodAll enc Try.prog W 0 (fun _ => true) true Try.f4.params.toList args.toList ds p) :
    Calls Try.prog 4 args W fun e W' => e = .returned (.bool true) ∧ Below W.heap.size W W' := by
  rw [params] at hA hval
  obtain ⟨v0, vs0, d0, ds0, p0, q0, hargs, rfl, rfl, h0, r0⟩ := trodAll_cons hA
  obtain ⟨v1, vs1, d1, ds1, p1, q1, hargs1, rfl, rfl, h1, r1⟩ := trodAll_cons r0
  obtain ⟨rfl, rfl, rfl⟩ := trodAll_nil r1
  obtain rfl : args = #[v0, v1] := by cases args; simp_all
  obtain ⟨m, rfl⟩ := int_arg (hval 0 3 v0 rfl rfl)
  obtain ⟨a0, len, cap0, rfl⟩ := okWide_slice Try.underlying26 (hval 1 26 v1 rfl rfl)
  obtain ⟨fuel, hf⟩ := h1
  obtain ⟨a, cap, L, e, hl, hs, hq⟩ := rns_of hf
  rw [e]
  exact law_any m a _ cap L W rfl hl hs hq
set_option maxRecDepth 100000 in
theorem proved : Rows.SlicePlansSaid :=
  OpenClaim.holds_of_wide 4 Try.f4 rfl rfl rfl rfl rfl rfl rfl ⟨rfl, rfl, rfl, rfl, rfl⟩ rfl rfl rfl rfl rfl (by kernel_rfl) Try.func4 (by kernel_rfl)
    (of_decide_eq_true (by kernel_rfl)) (by unfold Func.isWrapper; first | (rw [if_pos (by decide +kernel)]; kernel_rfl) | (rw [if_neg (by decide +kernel)]; exact ⟨rfl, rfl⟩))
    (fun os started H enc _ => Law.lifted (f := 4) (fn := Try.f4) (s := Rows.slicePlansSpec) rfl (by kernel_rfl) Try.func4 rfl (B := 4) (by kernel_rfl) Try.underlying4
      (by rw [params]; intro t ht; simp at ht; rcases ht with rfl | rfl <;> exact ⟨by kernel_rfl, of_decide_eq_true (by kernel_rfl)⟩)
      (by rw [params]; intro H xs hx; match xs, hx with | [_, _], _ => rfl)
      (fun H enc W base args ds p hval hA _ => contract H enc W base args ds p hval hA) os started H enc
      (ChangeSpec.witness6 (enc := enc) (C := Try.checked) false ⟨#[], #[.int .i64 0, .slice none 0 0], []⟩ 8 (by kernel_rfl) (by kernel_rfl) (by kernel_rfl) (by kernel_rfl)))
#print axioms proved
end Go.Proofs.Yteabmloeopoehaa.SlYC
