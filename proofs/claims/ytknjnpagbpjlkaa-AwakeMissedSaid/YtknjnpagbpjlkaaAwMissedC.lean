/- AwakeMissed: joined. -/
import Derived.Test.YtknjnpagbpjlkaaAwMissed
import Derived.Test.YtknjnpagbpjlkaaLaw
import Derived.Test.YtknjnpagbpjlkaaOpn
import Derived.Lib.SmallJoins
namespace Go.Proofs.Ytknjnpagbpjlkaa.AwMissedC
open Go.RowKit Go.Proofs.Ytknjnpagbpjlkaa.Q Go.Proofs.Ytknjnpagbpjlkaa.Mem Go.Proofs.Ytknjnpagbpjlkaa.AwA Go.Proofs.Ytknjnpagbpjlkaa.AwB Go.Proofs.Ytknjnpagbpjlkaa.AwC Go.Proofs.Ytknjnpagbpjlkaa.AwD Go.Proofs.Ytknjnpagbpjlkaa.AwE Go.Proofs.Ytknjnpagbpjlkaa.AwMissed Go.Proofs.Ytknjnpagbpjlkaa.Opn
open Go.ChangeShapes Go.WideShapes Go.ChangeAt Go.Joins

theorem missed_any (u g b p d n : Int) (w : World)
    (hu : -9223372036854775808 ≤ u ∧ u ≤ 9223372036854775807) (hg : -9223372036854775808 ≤ g ∧ g ≤ 9223372036854775807) (hb : -9223372036854775808 ≤ b ∧ b ≤ 9223372036854775807) (hp : -9223372036854775808 ≤ p ∧ p ≤ 9223372036854775807)
    :
        Calls Try.prog 6 #[.agg #[.int .i64 u, .int .i64 g, .int .i64 b, .int .i64 p], .int .i64 d, .int .i64 n] w fun e w' => e = .returned (.bool true) ∧ Below w.heap.size w w' := by
  by_cases h : Aw.cfg u g b p = true ∧ u ≤ 40 ∧ g ≤ 40 ∧ b ≤ 40 ∧ p ≤ 40 ∧ 1 ≤ d ∧ d ≤ 20 ∧ 0 ≤ n ∧ n ≤ 300
  · obtain ⟨hc, h1, h2, h3, h4, h5, h6, h7, h8⟩ := h
    obtain ⟨n', rfl⟩ : ∃ k : Nat, n = k := ⟨n.toNat, by omega⟩
    exact missed_yes u g b p d n' w hu hg hb hp hc h1 h2 h3 h4 h5 h6 (by omega)
  · exact missed_no u g b p d n w h

theorem params : Try.f6.params = #[23, 3, 3] := by kernel_rfl

theorem contract (H : Type) (enc : TypeId × Value → H) (W : World) (base : Nat) (args : Array Value) (ds : List (DataW H)) (p : List MemPlace)
    (hval : ∀ (j : Nat) t v, Try.f6.params[j]? = some t → args[j]? = some v → Value.okWide Try.prog W .any base t v)
    (hA : DataW.TrodAll enc Try.prog W 0 (fun _ => true) true Try.f6.params.toList args.toList ds p) :
    Calls Try.prog 6 args W fun e W' => e = .returned (.bool true) ∧ Below W.heap.size W W' := by
  rw [params] at hA hval
  obtain ⟨v0, vs0, d0, ds0, p0, q0, hargs, rfl, rfl, h0, r0⟩ := trodAll_cons hA
  obtain ⟨v1, vs1, d1, ds1, p1, q1, rfl, rfl, rfl, h1, r1⟩ := trodAll_cons r0
  obtain ⟨v2, vs2, d2, ds2, p2, q2, rfl, rfl, rfl, h2, r2⟩ := trodAll_cons r1
  obtain ⟨rfl, rfl, rfl⟩ := trodAll_nil r2
  obtain rfl : args = #[v0, v1, v2] := by cases args; simp_all
  obtain ⟨c0, c1, c2, c3, y0, y1, y2, y3, m, rfl, rfl, rfl, hy0, hy1, hy2, hy3⟩ := open_agg4 Try.underlying23 (by kernel_rfl) (by kernel_rfl) (hval 0 23 v0 rfl rfl) h0
  obtain ⟨x0, e0, rfl, f0⟩ := DataW.trod_int Try.underlying3 hy0
  obtain ⟨x1, e1, rfl, f1⟩ := DataW.trod_int Try.underlying3 hy1
  obtain ⟨x2, e2, rfl, f2⟩ := DataW.trod_int Try.underlying3 hy2
  obtain ⟨x3, e3, rfl, f3⟩ := DataW.trod_int Try.underlying3 hy3
  simp at e0 e1 e2 e3
  subst e0 e1 e2 e3
  have b0 := bounds_i64 f0
  have b1 := bounds_i64 f1
  have b2 := bounds_i64 f2
  have b3 := bounds_i64 f3
  obtain ⟨n1, rfl, rfl, rfl, _⟩ := open_int Try.underlying3 (hval 1 3 v1 rfl rfl) h1
  obtain ⟨n2, rfl, rfl, rfl, _⟩ := open_int Try.underlying3 (hval 2 3 v2 rfl rfl) h2
  exact missed_any _ _ _ _ _ _ W b0 b1 b2 b3

set_option maxRecDepth 100000 in
theorem proved : Rows.AwakeMissedSaid :=
  OpenClaim.holds_of_wide 6 Try.f6 rfl rfl rfl rfl rfl rfl rfl ⟨rfl, rfl, rfl, rfl, rfl⟩ rfl rfl rfl rfl rfl (by kernel_rfl) Try.func6 (by kernel_rfl)
    (of_decide_eq_true (by kernel_rfl)) (by unfold Func.isWrapper; first | (rw [if_pos (by decide +kernel)]; kernel_rfl) | (rw [if_neg (by decide +kernel)]; exact ⟨rfl, rfl⟩))
    (fun os started H enc _ => Law.lifted (f := 6) (fn := Try.f6) (s := Rows.awakeMissedSpec) rfl (by kernel_rfl) Try.func6 rfl (B := 4) (by kernel_rfl) Try.underlying4
      (by rw [params]; intro t ht; simp at ht; rcases ht with rfl | rfl | rfl <;> exact ⟨by kernel_rfl, of_decide_eq_true (by kernel_rfl)⟩)
      (by rw [params]; intro H xs hx; match xs, hx with | [_, _, _], _ => rfl)
      (fun H enc W base args ds p hval hA _ => contract H enc W base args ds p hval hA) os started H enc
      (ChangeSpec.witness6 (enc := enc) (C := Try.checked) false ⟨#[], #[.agg #[.int .i64 0, .int .i64 0, .int .i64 0, .int .i64 0], .int .i64 0, .int .i64 0], []⟩ 8 (by kernel_rfl) (by kernel_rfl) (by kernel_rfl) (by kernel_rfl)))
#print axioms proved
end Go.Proofs.Ytknjnpagbpjlkaa.AwMissedC
