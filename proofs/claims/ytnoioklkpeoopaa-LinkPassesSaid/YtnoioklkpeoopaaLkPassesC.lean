/- LinkPasses: joined. It holds of every string and every harms, without a condition. -/
import Derived.Test.YtnoioklkpeoopaaLkLaw
import Derived.Test.YtnoioklkpeoopaaLaw
import Derived.Test.YtnoioklkpeoopaaOpn
import Derived.Lib.SmallJoins
import Derived.ChangeSlices
namespace Go.Proofs.Ytnoioklkpeoopaa.LkPassesC
open Go.RowKit Go.Proofs.Ytnoioklkpeoopaa.LkPass Go.Proofs.Ytnoioklkpeoopaa.LkLaw Go.Proofs.Ytnoioklkpeoopaa.Opn
open Go.ChangeShapes Go.WideShapes Go.ChangeAt Go.Joins
open Go.ChangeMaps (open_string)

section
variable {H0 : Type} {enc : TypeId × Value → H0} {w : World} {base : Nat} {spare : Nat → Bool} {held : Bool}
theorem harm_of {n : Nat} {cs : List Value} (hl : cs.length = 4) {x : DataW H0 × List MemPlace} (h : DataW.trod enc Try.prog w base spare held n 36 cs = some x) :
    ∃ y : H, cs = [.int .i64 y.d, .int .i64 y.s, .int .i64 y.a, .int .u8 y.b] ∧ (-9223372036854775808 ≤ y.d ∧ y.d ≤ 9223372036854775807) ∧ (-9223372036854775808 ≤ y.s ∧ y.s ≤ 9223372036854775807) ∧ (-9223372036854775808 ≤ y.a ∧ y.a ≤ 9223372036854775807) ∧ (0 ≤ y.b ∧ y.b < 256) := by
  obtain ⟨ys, n', hn', hy, hlen, hyl, hf⟩ := DataW.trod_struct Try.underlying36 h
  match cs, hl, ys, hyl with
  | [c0, c1, c2, c3], _, [y0, y1, y2, y3], _ =>
    have h0 := hf 0 _ rfl
    have h1 := hf 1 _ rfl
    have h2 := hf 2 _ rfl
    have h3 := hf 3 _ rfl
    rw [show Try.prog.cellsOf _ = 1 by kernel_rfl] at h0 h1 h2 h3
    obtain ⟨a0, e0, _, f0⟩ := DataW.trod_int Try.underlying3 h0
    obtain ⟨a1, e1, _, f1⟩ := DataW.trod_int Try.underlying3 h1
    obtain ⟨a2, e2, _, f2⟩ := DataW.trod_int Try.underlying3 h2
    obtain ⟨a3, e3, _, f3⟩ := DataW.trod_int Try.underlying5 h3
    simp at e0 e1 e2 e3
    have b3 := bounds_u8 f3
    exact ⟨⟨a0, a1, a2, a3⟩, by simp [*], bounds_i64 f0, bounds_i64 f1, bounds_i64 f2, show 0 ≤ a3 ∧ a3 < 256 by omega⟩

theorem harms_of {b o len cap : Nat} {d : DataW H0} {p : List MemPlace} {t : TypeId} (hb : b < w.heap.size) (ht : Try.prog.underlying t = some (.slice 36)) (h : DataW.Trod enc Try.prog w base spare held t (.slice (some ⟨b, o, none⟩) len cap) d p) :
    ∃ l : List H, l.length = len ∧ Harms w (some ⟨b, o, none⟩) l := by
  have hC : Try.prog.cellsOf 36 = 4 := by kernel_rfl
  have he := elems ht h
  rw [hC] at he
  have hall : ∀ i : Fin len, ∃ y : H, (w.cell? ⟨b, o + i * 4, none⟩ = some (.int .i64 y.d) ∧ w.cell? ⟨b, o + i * 4 + 1, none⟩ = some (.int .i64 y.s) ∧ w.cell? ⟨b, o + i * 4 + 2, none⟩ = some (.int .i64 y.a) ∧ w.cell? ⟨b, o + i * 4 + 3, none⟩ = some (.int .u8 y.b)) ∧
      (-9223372036854775808 ≤ y.d ∧ y.d ≤ 9223372036854775807) ∧ (-9223372036854775808 ≤ y.s ∧ y.s ≤ 9223372036854775807) ∧ (-9223372036854775808 ≤ y.a ∧ y.a ≤ 9223372036854775807) ∧ (0 ≤ y.b ∧ y.b < 256) := by
    intro i
    obtain ⟨cs, n, x, hcl, hcell, htr⟩ := he i i.isLt
    obtain ⟨y, rfl, hbd⟩ := harm_of hcl htr
    exact ⟨y, ⟨hcell 0 _ rfl, hcell 1 _ rfl, hcell 2 _ rfl, hcell 3 _ rfl⟩, hbd⟩
  obtain ⟨f, hf⟩ := Classical.axiomOfChoice hall
  refine ⟨List.ofFn f, List.length_ofFn, fun i x hi => ?_⟩
  rw [List.getElem?_ofFn] at hi
  split at hi
  · injection hi with hi
    subst hi
    obtain ⟨⟨q0, q1, q2, q3⟩, hbd⟩ := hf ⟨i, by assumption⟩
    exact ⟨b, o, rfl, hb, q0, q1, q2, q3, hbd⟩
  · cases hi
end

theorem params : Try.f3.params = #[9, 22] := by kernel_rfl

theorem contract (H0 : Type) (enc : TypeId × Value → H0) (W : World) (base : Nat) (args : Array Value) (ds : List (DataW H0)) (p : List MemPlace)
    (hval : ∀ (j : Nat) t v, Try.f3.params[j]? = some t → args[j]? = some v → Value.okWide Try.prog W .any base t v)
    (hA : DataW.TrodAll enc Try.prog W 0 (fun _ => true) true Try.f3.params.toList args.toList ds p) :
    Calls Try.prog 3 args W fun e W' => e = .returned (.bool true) ∧ Below W.heap.size W W' := by
  rw [params] at hA hval
  obtain ⟨v0, vs0, d0, ds0, p0, q0, hargs, rfl, rfl, h0, r0⟩ := trodAll_cons hA
  obtain ⟨v1, vs1, d1, ds1, p1, q1, rfl, rfl, rfl, h1, r1⟩ := trodAll_cons r0
  obtain ⟨rfl, rfl, rfl⟩ := trodAll_nil r1
  obtain rfl : args = #[v0, v1] := by cases args; simp_all
  obtain ⟨s, rfl, rfl, rfl, hs⟩ := open_string Try.underlying9 (hval 0 9 v0 rfl rfl) h0
  rcases slice_ok Try.underlying22 (hval 1 22 v1 rfl rfl) with rfl | ⟨b, o, len, cap, rfl, hb, hlc, hcap⟩
  · exact law_any s none 0 [] W (fun i x hi => by simp at hi)
  · obtain ⟨l, rfl, hl⟩ := harms_of hb Try.underlying22 h1
    exact law_any s _ cap l W hl

set_option maxRecDepth 100000 in
theorem proved : Rows.LinkPassesSaid :=
  OpenClaim.holds_of_wide 3 Try.f3 rfl rfl rfl rfl rfl rfl rfl ⟨rfl, rfl, rfl, rfl, rfl⟩ rfl rfl rfl rfl rfl (by kernel_rfl) Try.func3 (by kernel_rfl)
    (of_decide_eq_true (by kernel_rfl)) (by unfold Func.isWrapper; first | (rw [if_pos (by decide +kernel)]; kernel_rfl) | (rw [if_neg (by decide +kernel)]; exact ⟨rfl, rfl⟩))
    (fun os started H enc _ => Law.lifted (f := 3) (fn := Try.f3) (s := Rows.linkPassesSpec) rfl (by kernel_rfl) Try.func3 rfl (B := 4) (by kernel_rfl) Try.underlying4
      (by rw [params]; intro t ht; simp at ht; rcases ht with rfl | rfl <;> exact ⟨by kernel_rfl, of_decide_eq_true (by kernel_rfl)⟩)
      (by rw [params]; intro H xs hx; match xs, hx with | [_, _], _ => rfl)
      (fun H enc W base args ds p hval hA _ => contract H enc W base args ds p hval hA) os started H enc
      (ChangeSpec.witness6 (enc := enc) (C := Try.checked) false ⟨#[], #[.string ByteArray.empty, .slice none 0 0], []⟩ 8 (by kernel_rfl) (by kernel_rfl) (by kernel_rfl) (by kernel_rfl)))
#print axioms proved
end Go.Proofs.Ytnoioklkpeoopaa.LkPassesC
