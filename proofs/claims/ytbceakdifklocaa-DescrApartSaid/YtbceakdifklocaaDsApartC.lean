/- DescrApart: joined. It holds of every two Slices and every two Places, without a condition. -/
import Derived.Test.YtbceakdifklocaaDsOpn
import Derived.Test.YtbceakdifklocaaDsApW
namespace Go.Proofs.Ytbceakdifklocaa.DsApartC
open Go.RowKit Go.Proofs.Ytbceakdifklocaa.Mem Go.Proofs.Ytbceakdifklocaa.DsA Go.Proofs.Ytbceakdifklocaa.DsB Go.Proofs.Ytbceakdifklocaa.DsC Go.Proofs.Ytbceakdifklocaa.DsD Go.Proofs.Ytbceakdifklocaa.DsE Go.Proofs.Ytbceakdifklocaa.DsApW Go.Proofs.Ytbceakdifklocaa.DsOpn Go.Proofs.Ytbceakdifklocaa.Opn
open Go.ChangeShapes Go.WideShapes Go.ChangeAt Go.Joins

set_option maxRecDepth 100000
theorem params : Try.f3.params = #[24, 27] := by kernel_rfl

theorem apart_any (x y : Sl) (p q : Pl) (w : World) : Calls Try.prog 3 #[.agg (cS x y), .agg (cP p q)] w fun e w' => e = .returned (.bool true) ∧ Below w.heap.size w w' := by
  by_cases h : x.more.size ≤ 300 ∧ y.more.size ≤ 300
  · exact apart_short x y p q w h.1 h.2
  · exact apart_long x y p q w (by omega)

theorem contract (H0 : Type) (enc : TypeId × Value → H0) (W : World) (base : Nat) (args : Array Value) (ds : List (DataW H0)) (p : List MemPlace)
    (hval : ∀ (j : Nat) t v, Try.f3.params[j]? = some t → args[j]? = some v → Value.okWide Try.prog W .any base t v)
    (hA : DataW.TrodAll enc Try.prog W 0 (fun _ => true) true Try.f3.params.toList args.toList ds p) :
    Calls Try.prog 3 args W fun e W' => e = .returned (.bool true) ∧ Below W.heap.size W W' := by
  rw [params] at hA hval
  obtain ⟨v0, vs0, d0, ds0, p0, q0, hargs, rfl, rfl, h0, r0⟩ := trodAll_cons hA
  obtain ⟨v1, vs1, d1, ds1, p1, q1, rfl, rfl, rfl, h1, r1⟩ := trodAll_cons r0
  obtain ⟨rfl, rfl, rfl⟩ := trodAll_nil r1
  obtain rfl : args = #[v0, v1] := by cases args; simp_all
  obtain ⟨cs, rfl, hsz⟩ := okWide_array Try.underlying24 (hval 0 24 v0 rfl rfl)
  obtain ⟨ct, rfl, htz⟩ := okWide_array Try.underlying27 (hval 1 27 v1 rfl rfl)
  obtain ⟨l⟩ := cs
  obtain ⟨m⟩ := ct
  match l, hsz.trans (show Try.prog.cellsOf 24 = 14 by kernel_rfl), m, htz.trans (show Try.prog.cellsOf 27 = 10 by kernel_rfl) with
  | [a0, a1, a2, a3, a4, a5, a6, b0, b1, b2, b3, b4, b5, b6], _, [c0, c1, c2, c3, c4, e0, e1, e2, e3, e4], _ =>
    obtain ⟨fuel, hf⟩ := h0
    obtain ⟨xs, n, _, hx, _, hlen, hg⟩ := DataW.trod_array Try.underlying24 hf
    rw [show Try.prog.cellsOf _ = 7 by kernel_rfl] at hg
    obtain ⟨fuel', hf'⟩ := h1
    obtain ⟨xs', n', _, hx', _, hlen', hg'⟩ := DataW.trod_array Try.underlying27 hf'
    rw [show Try.prog.cellsOf _ = 5 by kernel_rfl] at hg'
    have g0 := hg 0 (by omega)
    have g1 := hg 1 (by omega)
    have k0 := hg' 0 (by omega)
    have k1 := hg' 1 (by omega)
    match xs, hlen, xs', hlen' with
    | [t0, t1], _, [s0, s1], _ =>
      obtain ⟨x, ex⟩ := sl_of rfl g0
      obtain ⟨y, ey⟩ := sl_of rfl g1
      obtain ⟨z, ez⟩ := pl_of rfl k0
      obtain ⟨u, eu⟩ := pl_of rfl k1
      simp [Value.cells, Sl.vals, Pl.vals] at ex ey ez eu
      obtain ⟨rfl, rfl, rfl, rfl, rfl, rfl, rfl⟩ := ex
      obtain ⟨rfl, rfl, rfl, rfl, rfl, rfl, rfl⟩ := ey
      obtain ⟨rfl, rfl, rfl, rfl, rfl⟩ := ez
      obtain ⟨rfl, rfl, rfl, rfl, rfl⟩ := eu
      exact apart_any x y z u W

set_option maxRecDepth 100000 in
theorem proved : Rows.DescrApartSaid :=
  OpenClaim.holds_of_wide 3 Try.f3 rfl rfl rfl rfl rfl rfl rfl ⟨rfl, rfl, rfl, rfl, rfl⟩ rfl rfl rfl rfl rfl (by kernel_rfl) Try.func3 (by kernel_rfl)
    (of_decide_eq_true (by kernel_rfl)) (by unfold Func.isWrapper; first | (rw [if_pos (by decide +kernel)]; kernel_rfl) | (rw [if_neg (by decide +kernel)]; exact ⟨rfl, rfl⟩))
    (fun os started H enc _ => Law.lifted (f := 3) (fn := Try.f3) (s := Rows.descrApartSpec) rfl (by kernel_rfl) Try.func3 rfl (B := 4) (by kernel_rfl) Try.underlying4
      (by rw [params]; intro t ht; simp at ht; rcases ht with rfl | rfl <;> exact ⟨by kernel_rfl, of_decide_eq_true (by kernel_rfl)⟩)
      (by rw [params]; intro H xs hx; match xs, hx with | [_, _], _ => rfl)
      (fun H enc W base args ds p hval hA _ => contract H enc W base args ds p hval hA) os started H enc
      (ChangeSpec.witness6 (enc := enc) (C := Try.checked) false ⟨#[], #[.agg #[.bool false, .bool false, .int .i64 0, .int .i64 0, .int .i64 0, .int .i64 0, .string ByteArray.empty, .bool false, .bool false, .int .i64 0, .int .i64 0, .int .i64 0, .int .i64 0, .string ByteArray.empty], .agg #[.int .i64 0, .int .i64 0, .int .i64 0, .int .i64 0, .int .i64 0, .int .i64 0, .int .i64 0, .int .i64 0, .int .i64 0, .int .i64 0]], []⟩ 8 (by kernel_rfl) (by kernel_rfl) (by kernel_rfl) (by kernel_rfl)))
#print axioms proved
end Go.Proofs.Ytbceakdifklocaa.DsApartC
