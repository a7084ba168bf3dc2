/- DescrOne: joined. It holds of every descriptor, every string and every number, without a condition. -/
import Derived.Test.YtbceakdifklocaaDsOpn
import Derived.Test.YtbceakdifklocaaDvO
import Derived.Test.YtbceakdifklocaaDsX
namespace Go.Proofs.Ytbceakdifklocaa.DvOC
open Go.RowKit Go.Proofs.Ytbceakdifklocaa.Mem Go.Proofs.Ytbceakdifklocaa.DsD Go.Proofs.Ytbceakdifklocaa.DvO Go.Proofs.Ytbceakdifklocaa.DsOpn Go.Proofs.Ytbceakdifklocaa.Opn
open Go.ChangeMaps (open_string)
open Go.ChangeShapes Go.WideShapes Go.ChangeAt Go.Joins

set_option maxRecDepth 100000
theorem params : Try.f9.params = #[30, 9, 3] := by kernel_rfl
theorem contract (H0 : Type) (enc : TypeId × Value → H0) (W : World) (base : Nat) (args : Array Value) (ds : List (DataW H0)) (p : List MemPlace)
    (hval : ∀ (j : Nat) t v, Try.f9.params[j]? = some t → args[j]? = some v → Value.okWide Try.prog W .any base t v)
    (hA : DataW.TrodAll enc Try.prog W 0 (fun _ => true) true Try.f9.params.toList args.toList ds p) :
    Calls Try.prog 9 args W fun e W' => e = .returned (.bool true) ∧ Below W.heap.size W W' := by
  rw [params] at hA hval
  obtain ⟨v0, vs0, d0, ds0, p0, q0, hargs, rfl, rfl, h0, r0⟩ := trodAll_cons hA
  obtain ⟨v1, vs1, d1, ds1, p1, q1, hargs1, rfl, rfl, h1, r1⟩ := trodAll_cons r0
  obtain ⟨v2, vs2, d2, ds2, p2, q2, hargs2, rfl, rfl, h2, r2⟩ := trodAll_cons r1
  obtain ⟨rfl, rfl, rfl⟩ := trodAll_nil r2
  obtain rfl : args = #[v0, v1, v2] := by cases args; simp_all
  obtain ⟨cs, rfl, hsz⟩ := DsOpn.okWide_struct Try.underlying30 (hval 0 30 v0 rfl rfl)
  obtain ⟨l⟩ := cs
  obtain ⟨fuel, hf⟩ := h0
  obtain ⟨y, hy, _⟩ := dc_of (hsz.trans (show Try.prog.cellsOf 30 = 2 by kernel_rfl)) hf
  have e1 : (⟨l⟩ : Array Value) = #[.int .i64 y.tag, .string y.body] := by have : l = _ := hy; rw [this]
  rw [e1]
  obtain ⟨s, rfl, _⟩ := open_string Try.underlying9 (hval 1 9 v1 rfl rfl) h1
  obtain ⟨k, rfl, _⟩ := open_int Try.underlying3 (hval 2 3 v2 rfl rfl) h2
  exact one_any y s k W
set_option maxRecDepth 100000 in
theorem proved : Rows.DescrOneSaid :=
  OpenClaim.holds_of_wide 9 Try.f9 rfl rfl rfl rfl rfl rfl rfl ⟨rfl, rfl, rfl, rfl, rfl⟩ rfl rfl rfl rfl rfl (by kernel_rfl) Try.func9 (by kernel_rfl)
    (of_decide_eq_true (by kernel_rfl)) (by unfold Func.isWrapper; first | (rw [if_pos (by decide +kernel)]; kernel_rfl) | (rw [if_neg (by decide +kernel)]; exact ⟨rfl, rfl⟩))
    (fun os started H enc _ => Law.lifted (f := 9) (fn := Try.f9) (s := Rows.descrOneSpec) rfl (by kernel_rfl) Try.func9 rfl (B := 4) (by kernel_rfl) Try.underlying4
      (by rw [params]; intro t ht; simp at ht; rcases ht with rfl | rfl | rfl <;> exact ⟨by kernel_rfl, of_decide_eq_true (by kernel_rfl)⟩)
      (by rw [params]; intro H xs hx; match xs, hx with | [_, _, _], _ => rfl)
      (fun H enc W base args ds p hval hA _ => contract H enc W base args ds p hval hA) os started H enc
      (ChangeSpec.witness6 (enc := enc) (C := Try.checked) false ⟨#[], #[.agg #[.int .i64 0, .string ByteArray.empty], .string ByteArray.empty, .int .i64 0], []⟩ 8 (by kernel_rfl) (by kernel_rfl) (by kernel_rfl) (by kernel_rfl)))
#print axioms proved
end Go.Proofs.Ytbceakdifklocaa.DvOC
