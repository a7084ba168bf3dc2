/- LinkUndo: joined. It holds of every string, every slot and every two numbers, without a condition. -/
import Derived.Test.YtnoioklkpeoopaaLkUndo
import Derived.Test.YtnoioklkpeoopaaLaw
import Derived.Test.YtnoioklkpeoopaaOpn
import Derived.Lib.SmallJoins
import Derived.ChangeSlices
namespace Go.Proofs.Ytnoioklkpeoopaa.LkUndoC
open Go.RowKit Go.Proofs.Ytnoioklkpeoopaa.LkPass Go.Proofs.Ytnoioklkpeoopaa.LkUndo Go.Proofs.Ytnoioklkpeoopaa.Opn
open Go.ChangeShapes Go.WideShapes Go.ChangeAt Go.Joins
open Go.ChangeMaps (open_string)

theorem params : Try.f4.params = #[9, 3, 34] := by kernel_rfl

theorem okWide_array {P : Program} {w : World} {r : Reach} {base n : Nat} {t e : TypeId} {v : Value} (ht : P.underlying t = some (.array n e)) (h : Value.okWide P w r base t v) : ∃ cs, v = .agg cs ∧ cs.size = P.cellsOf t := by
  simp only [Value.okWide, ht] at h
  obtain ⟨cs, h1, h2, _⟩ := h
  exact ⟨cs, h1, h2⟩

theorem contract (H0 : Type) (enc : TypeId × Value → H0) (W : World) (base : Nat) (args : Array Value) (ds : List (DataW H0)) (p : List MemPlace)
    (hval : ∀ (j : Nat) t v, Try.f4.params[j]? = some t → args[j]? = some v → Value.okWide Try.prog W .any base t v)
    (hA : DataW.TrodAll enc Try.prog W 0 (fun _ => true) true Try.f4.params.toList args.toList ds p) :
    Calls Try.prog 4 args W fun e W' => e = .returned (.bool true) ∧ Below W.heap.size W W' := by
  rw [params] at hA hval
  obtain ⟨v0, vs0, d0, ds0, p0, q0, hargs, rfl, rfl, h0, r0⟩ := trodAll_cons hA
  obtain ⟨v1, vs1, d1, ds1, p1, q1, rfl, rfl, rfl, h1, r1⟩ := trodAll_cons r0
  obtain ⟨v2, vs2, d2, ds2, p2, q2, rfl, rfl, rfl, h2, r2⟩ := trodAll_cons r1
  obtain ⟨rfl, rfl, rfl⟩ := trodAll_nil r2
  obtain rfl : args = #[v0, v1, v2] := by cases args; simp_all
  obtain ⟨s, rfl, rfl, rfl, hs⟩ := open_string Try.underlying9 (hval 0 9 v0 rfl rfl) h0
  obtain ⟨z, rfl, rfl, rfl, wz⟩ := open_int Try.underlying3 (hval 1 3 v1 rfl rfl) h1
  obtain ⟨cs, rfl, hsz⟩ := okWide_array Try.underlying34 (hval 2 34 v2 rfl rfl)
  obtain ⟨l⟩ := cs
  match l, hsz.trans (show Try.prog.cellsOf 34 = 2 by kernel_rfl) with
  | [l0, l1], _ =>
    obtain ⟨fuel, hf⟩ := h2
    obtain ⟨xs, n, _, hx, _, hlen, hg⟩ := DataW.trod_array Try.underlying34 hf
    rw [show Try.prog.cellsOf _ = 1 by kernel_rfl] at hg
    have g0 := hg 0 (by omega)
    have g1 := hg 1 (by omega)
    match xs, hlen with
    | [t0, t1], _ =>
      obtain ⟨n0, i0, _, f0⟩ := DataW.trod_int Try.underlying3 g0
      obtain ⟨n1, i1, _, _⟩ := DataW.trod_int Try.underlying3 g1
      simp [Value.cells] at i0 i1
      subst i0 i1
      exact undo_any s z _ _ W (bounds_i64 wz) (bounds_i64 f0)

set_option maxRecDepth 100000 in
theorem proved : Rows.LinkUndoSaid :=
  OpenClaim.holds_of_wide 4 Try.f4 rfl rfl rfl rfl rfl rfl rfl ⟨rfl, rfl, rfl, rfl, rfl⟩ rfl rfl rfl rfl rfl (by kernel_rfl) Try.func4 (by kernel_rfl)
    (of_decide_eq_true (by kernel_rfl)) (by unfold Func.isWrapper; first | (rw [if_pos (by decide +kernel)]; kernel_rfl) | (rw [if_neg (by decide +kernel)]; exact ⟨rfl, rfl⟩))
    (fun os started H enc _ => Law.lifted (f := 4) (fn := Try.f4) (s := Rows.linkUndoSpec) rfl (by kernel_rfl) Try.func4 rfl (B := 4) (by kernel_rfl) Try.underlying4
      (by rw [params]; intro t ht; simp at ht; rcases ht with rfl | rfl | rfl <;> exact ⟨by kernel_rfl, of_decide_eq_true (by kernel_rfl)⟩)
      (by rw [params]; intro H xs hx; match xs, hx with | [_, _, _], _ => rfl)
      (fun H enc W base args ds p hval hA _ => contract H enc W base args ds p hval hA) os started H enc
      (ChangeSpec.witness6 (enc := enc) (C := Try.checked) false ⟨#[], #[.string ByteArray.empty, .int .i64 0, .agg #[.int .i64 0, .int .i64 0]], []⟩ 8 (by kernel_rfl) (by kernel_rfl) (by kernel_rfl) (by kernel_rfl)))
#print axioms proved
end Go.Proofs.Ytnoioklkpeoopaa.LkUndoC
