/- AwakeSure: joined. -/
import Derived.Test.YtknjnpagbpjlkaaAwSure
import Derived.Test.YtknjnpagbpjlkaaLaw
import Derived.Test.YtknjnpagbpjlkaaOpn
import Derived.Lib.SmallJoins
import Derived.ChangeSlices
namespace Go.Proofs.Ytknjnpagbpjlkaa.AwSureC
open Go.RowKit Go.Proofs.Ytknjnpagbpjlkaa.Q Go.Proofs.Ytknjnpagbpjlkaa.Mem Go.Proofs.Ytknjnpagbpjlkaa.AwA Go.Proofs.Ytknjnpagbpjlkaa.AwB Go.Proofs.Ytknjnpagbpjlkaa.AwC Go.Proofs.Ytknjnpagbpjlkaa.AwD Go.Proofs.Ytknjnpagbpjlkaa.AwE Go.Proofs.Ytknjnpagbpjlkaa.AwSure Go.Proofs.Ytknjnpagbpjlkaa.Opn
open Go.Proofs.Ytknjnpagbpjlkaa.AwAt Go.ChangeShapes Go.WideShapes Go.ChangeAt Go.Joins

theorem sure_any (u g b p : Int) (ga la : Option Addr) (gc lc : Nat) (fa : Option Addr) (fc : Nat) (G L F : List Int) (w : World)
    (hu : -9223372036854775808 ≤ u ∧ u ≤ 9223372036854775807) (hg : -9223372036854775808 ≤ g ∧ g ≤ 9223372036854775807) (hb : -9223372036854775808 ≤ b ∧ b ≤ 9223372036854775807) (hp : -9223372036854775808 ≤ p ∧ p ≤ 9223372036854775807)
    (hG : Ints w ga G) (hL : Ints w la L) (hF : Ints w fa F) :
        Calls Try.prog 4 #[.agg #[.int .i64 u, .int .i64 g, .int .i64 b, .int .i64 p], .agg #[.slice ga G.length gc, .slice la L.length lc, .slice fa F.length fc]] w fun e w' => e = .returned (.bool true) ∧ Below w.heap.size w w' := by
  by_cases h : Aw.cfg u g b p = true ∧ u ≤ 40 ∧ g ≤ 40 ∧ b ≤ 40 ∧ G.length ≤ 12
  · obtain ⟨hc, h1, h2, h3, h4⟩ := h
    exact sure_yes u g b p ga la gc lc fa fc G L F w hu hg hb hp hG hL hF hc h1 h2 h3 h4
  · exact sure_no u g b p ga la gc lc fa fc G L F w h

section
variable {H : Type} {enc : TypeId × Value → H} {w : World} {base : Nat} {spare : Nat → Bool} {held : Bool}
theorem ints_of {n : Nat} {v : Value} {x : DataW H × List MemPlace} (h : DataW.trod enc Try.prog w base spare held n 45 [v] = some x) : ∃ a cap zs, v = .slice a (List.length zs) cap ∧ Ints w a zs := by
  rcases open_ints Try.underlying45 Try.underlying3 (by kernel_rfl) h with ⟨h0, _⟩ | ⟨a, len, cap, zs, hcs, _, hlc, _, hzl, _, hcell, _⟩
  · simp only [List.cons.injEq, and_true] at h0
    exact ⟨none, 0, [], h0, fun i x hi => by simp at hi⟩
  · simp only [List.cons.injEq, and_true] at hcs
    have hle : len ≤ zs.length := by split at hzl <;> omega
    refine ⟨some a, cap, zs.take len, by rw [hcs, List.length_take, Nat.min_eq_left hle], fun i x hi => ?_⟩
    have hil : i < (zs.take len).length := (List.getElem?_eq_some_iff.1 hi).1
    rw [List.length_take] at hil
    rw [List.getElem?_take_of_lt (by omega)] at hi
    have h0 := hcell 0 (by omega)
    have h1 := hcell i (by omega)
    obtain ⟨b, o, spot⟩ := a
    have hspot : spot = none := by simpa [Addr.add] using World.cell?_spot h0
    subst hspot
    rw [add_at, List.getD_eq_getElem?_getD, hi] at h1
    exact ⟨b, o, rfl, World.block_lt_of_cell? w _ h1, h1⟩
end

theorem params : Try.f4.params = #[23, 47] := by kernel_rfl

theorem contract (H : Type) (enc : TypeId × Value → H) (W : World) (base : Nat) (args : Array Value) (ds : List (DataW H)) (p : List MemPlace)
    (hval : ∀ (j : Nat) t v, Try.f4.params[j]? = some t → args[j]? = some v → Value.okWide Try.prog W .any base t v)
    (hA : DataW.TrodAll enc Try.prog W 0 (fun _ => true) true Try.f4.params.toList args.toList ds p) :
    Calls Try.prog 4 args W fun e W' => e = .returned (.bool true) ∧ Below W.heap.size W W' := by
  rw [params] at hA hval
  obtain ⟨v0, vs0, d0, ds0, p0, q0, hargs, rfl, rfl, h0, r0⟩ := trodAll_cons hA
  obtain ⟨v1, vs1, d1, ds1, p1, q1, rfl, rfl, rfl, h1, r1⟩ := trodAll_cons r0
  obtain ⟨rfl, rfl, rfl⟩ := trodAll_nil r1
  obtain rfl : args = #[v0, v1] := by cases args; simp_all
  obtain ⟨c0, c1, c2, c3, y0, y1, y2, y3, m, rfl, rfl, rfl, hy0, hy1, hy2, hy3⟩ := open_agg4 Try.underlying23 (by kernel_rfl) (by kernel_rfl) (hval 0 23 v0 rfl rfl) h0
  obtain ⟨x0, e0, rfl, f0⟩ := DataW.trod_int Try.underlying3 hy0
  obtain ⟨x1, e1, rfl, f1⟩ := DataW.trod_int Try.underlying3 hy1
  obtain ⟨x2, e2, rfl, f2⟩ := DataW.trod_int Try.underlying3 hy2
  obtain ⟨x3, e3, rfl, f3⟩ := DataW.trod_int Try.underlying3 hy3
  simp at e0 e1 e2 e3
  subst e0 e1 e2 e3
  have b0 := bounds_i64 f0
  have b1 := bounds_i64 f1
  have b2 := bounds_i64 f2
  have b3 := bounds_i64 f3
  obtain ⟨k0, k1, k2, z0, z1, z2, m', rfl, rfl, rfl, hz0, hz1, hz2⟩ := open_agg3 Try.underlying47 (by kernel_rfl) (by kernel_rfl) (hval 1 47 v1 rfl rfl) h1
  obtain ⟨ga, gc, G, rfl, hG⟩ := ints_of hz0
  obtain ⟨la, lc, L, rfl, hL⟩ := ints_of hz1
  obtain ⟨fa, fc, F, rfl, hF⟩ := ints_of hz2
  exact sure_any _ _ _ _ ga la gc lc fa fc G L F W b0 b1 b2 b3 hG hL hF

set_option maxRecDepth 100000 in
theorem proved : Rows.AwakeSureSaid :=
  OpenClaim.holds_of_wide 4 Try.f4 rfl rfl rfl rfl rfl rfl rfl ⟨rfl, rfl, rfl, rfl, rfl⟩ rfl rfl rfl rfl rfl (by kernel_rfl) Try.func4 (by kernel_rfl)
    (of_decide_eq_true (by kernel_rfl)) (by unfold Func.isWrapper; first | (rw [if_pos (by decide +kernel)]; kernel_rfl) | (rw [if_neg (by decide +kernel)]; exact ⟨rfl, rfl⟩))
    (fun os started H enc _ => Law.lifted (f := 4) (fn := Try.f4) (s := Rows.awakeSureSpec) rfl (by kernel_rfl) Try.func4 rfl (B := 4) (by kernel_rfl) Try.underlying4
      (by rw [params]; intro t ht; simp at ht; rcases ht with rfl | rfl <;> exact ⟨by kernel_rfl, of_decide_eq_true (by kernel_rfl)⟩)
      (by rw [params]; intro H xs hx; match xs, hx with | [_, _], _ => rfl)
      (fun H enc W base args ds p hval hA _ => contract H enc W base args ds p hval hA) os started H enc
      (ChangeSpec.witness6 (enc := enc) (C := Try.checked) false ⟨#[], #[.agg #[.int .i64 0, .int .i64 0, .int .i64 0, .int .i64 0], .agg #[.slice none 0 0, .slice none 0 0, .slice none 0 0]], []⟩ 8 (by kernel_rfl) (by kernel_rfl) (by kernel_rfl) (by kernel_rfl)))
#print axioms proved
end Go.Proofs.Ytknjnpagbpjlkaa.AwSureC
