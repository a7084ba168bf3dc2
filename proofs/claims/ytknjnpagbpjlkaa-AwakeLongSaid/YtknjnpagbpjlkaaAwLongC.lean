/- AwakeLong: joined. -/
import Derived.Test.YtknjnpagbpjlkaaAwLong
import Derived.Test.YtknjnpagbpjlkaaLaw
import Derived.Test.YtknjnpagbpjlkaaOpn
import Derived.Lib.SmallJoins
namespace Go.Proofs.Ytknjnpagbpjlkaa.AwLongC
open Go.RowKit Go.Proofs.Ytknjnpagbpjlkaa.Q Go.Proofs.Ytknjnpagbpjlkaa.Mem Go.Proofs.Ytknjnpagbpjlkaa.AwA Go.Proofs.Ytknjnpagbpjlkaa.AwB Go.Proofs.Ytknjnpagbpjlkaa.AwC Go.Proofs.Ytknjnpagbpjlkaa.AwD Go.Proofs.Ytknjnpagbpjlkaa.AwE Go.Proofs.Ytknjnpagbpjlkaa.AwLong Go.Proofs.Ytknjnpagbpjlkaa.Opn
open Go.ChangeShapes Go.WideShapes Go.ChangeAt Go.Joins

theorem long_any (u g b p d a n m : Int) (tb fr : Bool) (w : World)
    (hu : -9223372036854775808 ≤ u ∧ u ≤ 9223372036854775807) (hg : -9223372036854775808 ≤ g ∧ g ≤ 9223372036854775807) (hb : -9223372036854775808 ≤ b ∧ b ≤ 9223372036854775807) (hp : -9223372036854775808 ≤ p ∧ p ≤ 9223372036854775807)
    :
        Calls Try.prog 8 #[.agg #[.int .i64 u, .int .i64 g, .int .i64 b, .int .i64 p], .agg #[.int .i64 d, .bool tb, .bool fr, .int .i64 a], .agg #[.int .i64 n, .int .i64 m]] w fun e w' => e = .returned (.bool true) ∧ Below w.heap.size w w' := by
  by_cases hc : Aw.cfg u g b p = true
  · by_cases h1 : n < 0
    · exact long_no2 u g b p d a n m tb fr w hc (by simpa using h1)
    · by_cases h2 : 300 < n
      · exact long_no3 u g b p d a n m tb fr w hc (by simpa using h1) (by simpa using h2)
      · by_cases h3 : m < 0
        · exact long_no4 u g b p d a n m tb fr w hc (by simpa using h1) (by simpa using h2) (by simpa using h3)
        · by_cases h4 : 300 < m
          · exact long_no5 u g b p d a n m tb fr w hc (by simpa using h1) (by simpa using h2) (by simpa using h3) (by simpa using h4)
          · obtain ⟨n', rfl⟩ : ∃ k : Nat, n = k := ⟨n.toNat, by omega⟩
            obtain ⟨m', rfl⟩ : ∃ k : Nat, m = k := ⟨m.toNat, by omega⟩
            exact long_yes u g b p d a n' m' tb fr w hu hg hb hp hc (by omega) (by omega)
  · exact long_no1 u g b p d a n m tb fr w (by simpa using hc)

theorem params : Try.f8.params = #[23, 37, 55] := by kernel_rfl

theorem okWide_array {P : Program} {w : World} {r : Reach} {base n : Nat} {t e : TypeId} {v : Value} (ht : P.underlying t = some (.array n e)) (h : Value.okWide P w r base t v) : ∃ cs, v = .agg cs ∧ cs.size = P.cellsOf t := by
  simp only [Value.okWide, ht] at h
  obtain ⟨cs, h1, h2, _⟩ := h
  exact ⟨cs, h1, h2⟩

theorem contract (H : Type) (enc : TypeId × Value → H) (W : World) (base : Nat) (args : Array Value) (ds : List (DataW H)) (p : List MemPlace)
    (hval : ∀ (j : Nat) t v, Try.f8.params[j]? = some t → args[j]? = some v → Value.okWide Try.prog W .any base t v)
    (hA : DataW.TrodAll enc Try.prog W 0 (fun _ => true) true Try.f8.params.toList args.toList ds p) :
    Calls Try.prog 8 args W fun e W' => e = .returned (.bool true) ∧ Below W.heap.size W W' := by
  rw [params] at hA hval
  obtain ⟨v0, vs0, d0, ds0, p0, q0, hargs, rfl, rfl, h0, r0⟩ := trodAll_cons hA
  obtain ⟨v1, vs1, d1, ds1, p1, q1, rfl, rfl, rfl, h1, r1⟩ := trodAll_cons r0
  obtain ⟨v2, vs2, d2, ds2, p2, q2, rfl, rfl, rfl, h2, r2⟩ := trodAll_cons r1
  obtain ⟨rfl, rfl, rfl⟩ := trodAll_nil r2
  obtain rfl : args = #[v0, v1, v2] := by cases args; simp_all
  obtain ⟨c0, c1, c2, c3, y0, y1, y2, y3, m, rfl, rfl, rfl, hy0, hy1, hy2, hy3⟩ := open_agg4 Try.underlying23 (by kernel_rfl) (by kernel_rfl) (hval 0 23 v0 rfl rfl) h0
  obtain ⟨x0, e0, rfl, f0⟩ := DataW.trod_int Try.underlying3 hy0
  obtain ⟨x1, e1, rfl, f1⟩ := DataW.trod_int Try.underlying3 hy1
  obtain ⟨x2, e2, rfl, f2⟩ := DataW.trod_int Try.underlying3 hy2
  obtain ⟨x3, e3, rfl, f3⟩ := DataW.trod_int Try.underlying3 hy3
  simp at e0 e1 e2 e3
  subst e0 e1 e2 e3
  have b0 := bounds_i64 f0
  have b1 := bounds_i64 f1
  have b2 := bounds_i64 f2
  have b3 := bounds_i64 f3
  obtain ⟨k0, k1, k2, k3, z0, z1, z2, z3, m', rfl, rfl, rfl, hz0, hz1, hz2, hz3⟩ := open_agg4 Try.underlying37 (by kernel_rfl) (by kernel_rfl) (hval 1 37 v1 rfl rfl) h1
  obtain ⟨a0, e0, rfl, _⟩ := DataW.trod_int Try.underlying3 hz0
  obtain ⟨a1, e1, rfl⟩ := DataW.trod_bool Try.underlying4 hz1
  obtain ⟨a2, e2, rfl⟩ := DataW.trod_bool Try.underlying4 hz2
  obtain ⟨a3, e3, rfl, _⟩ := DataW.trod_int Try.underlying3 hz3
  simp at e0 e1 e2 e3
  subst e0 e1 e2 e3
  obtain ⟨cs, rfl, hsz⟩ := okWide_array Try.underlying55 (hval 2 55 v2 rfl rfl)
  obtain ⟨l⟩ := cs
  match l, hsz.trans (show Try.prog.cellsOf 55 = 2 by kernel_rfl) with
  | [l0, l1], _ =>
    obtain ⟨fuel, hf⟩ := h2
    obtain ⟨xs, n, _, hx, _, hlen, hg⟩ := DataW.trod_array Try.underlying55 hf
    rw [show Try.prog.cellsOf _ = 1 by kernel_rfl] at hg
    have g0 := hg 0 (by omega)
    have g1 := hg 1 (by omega)
    match xs, hlen with
    | [t0, t1], _ =>
      obtain ⟨n0, i0, _, _⟩ := DataW.trod_int Try.underlying3 g0
      obtain ⟨n1, i1, _, _⟩ := DataW.trod_int Try.underlying3 g1
      simp [Value.cells] at i0 i1
      subst i0 i1
      exact long_any _ _ _ _ _ _ _ _ _ _ W b0 b1 b2 b3

set_option maxRecDepth 100000 in
theorem proved : Rows.AwakeLongSaid :=
  OpenClaim.holds_of_wide 8 Try.f8 rfl rfl rfl rfl rfl rfl rfl ⟨rfl, rfl, rfl, rfl, rfl⟩ rfl rfl rfl rfl rfl (by kernel_rfl) Try.func8 (by kernel_rfl)
    (of_decide_eq_true (by kernel_rfl)) (by unfold Func.isWrapper; first | (rw [if_pos (by decide +kernel)]; kernel_rfl) | (rw [if_neg (by decide +kernel)]; exact ⟨rfl, rfl⟩))
    (fun os started H enc _ => Law.lifted (f := 8) (fn := Try.f8) (s := Rows.awakeLongSpec) rfl (by kernel_rfl) Try.func8 rfl (B := 4) (by kernel_rfl) Try.underlying4
      (by rw [params]; intro t ht; simp at ht; rcases ht with rfl | rfl | rfl <;> exact ⟨by kernel_rfl, of_decide_eq_true (by kernel_rfl)⟩)
      (by rw [params]; intro H xs hx; match xs, hx with | [_, _, _], _ => rfl)
      (fun H enc W base args ds p hval hA _ => contract H enc W base args ds p hval hA) os started H enc
      (ChangeSpec.witness6 (enc := enc) (C := Try.checked) false ⟨#[], #[.agg #[.int .i64 0, .int .i64 0, .int .i64 0, .int .i64 0], .agg #[.int .i64 0, .bool false, .bool false, .int .i64 0], .agg #[.int .i64 0, .int .i64 0]], []⟩ 8 (by kernel_rfl) (by kernel_rfl) (by kernel_rfl) (by kernel_rfl)))
#print axioms proved
end Go.Proofs.Ytknjnpagbpjlkaa.AwLongC
