/- DescrPlaces: joined. It holds of every Place, all Targets, every descriptor, without a condition. -/
import Derived.Test.YtbceakdifklocaaDsOpn
import Derived.Test.YtbceakdifklocaaDtF
namespace Go.Proofs.Ytbceakdifklocaa.DtPlacesC
open Go.RowKit Go.Proofs.Ytbceakdifklocaa.Mem Go.Proofs.Ytbceakdifklocaa.DsD Go.Proofs.Ytbceakdifklocaa.DsA Go.Proofs.Ytbceakdifklocaa.DsB Go.Proofs.Ytbceakdifklocaa.DsC Go.Proofs.Ytbceakdifklocaa.DtB Go.Proofs.Ytbceakdifklocaa.DtF Go.Proofs.Ytbceakdifklocaa.Ap Go.Proofs.Ytbceakdifklocaa.DsOpn Go.Proofs.Ytbceakdifklocaa.Opn
open Go.ChangeShapes Go.WideShapes Go.ChangeAt Go.Joins

set_option maxRecDepth 100000
theorem params : Try.f7.params = #[26, 60, 30] := by kernel_rfl
section
variable {H0 : Type} {enc : TypeId × Value → H0} {w : World} {base : Nat} {spare : Nat → Bool} {held : Bool}
theorem tg_of {n : Nat} {cs : List Value} (hl : cs.length = 5) {x : DataW H0 × List MemPlace} (h : DataW.trod enc Try.prog w base spare held n 71 cs = some x) : ∃ y : Tg, cs = enT y := by
  obtain ⟨ys, n', hn', hy, hlen, hyl, hf⟩ := DataW.trod_struct Try.underlying71 h
  match cs, hl, ys, hyl with
  | [c0, c1, c2, c3, c4], _, [y0, y1], _ =>
    have h0 := hf 0 _ rfl
    have h1 := hf 1 _ rfl
    rw [show Try.prog.cellsOf _ = 4 by kernel_rfl] at h0
    rw [show Try.prog.cellsOf _ = 1 by kernel_rfl] at h1
    obtain ⟨zs, n2, _, hz, _, hzl, hg⟩ := DataW.trod_array Try.underlying69 h0
    rw [show Try.prog.cellsOf _ = 1 by kernel_rfl] at hg
    match zs, hzl with
    | [z0, z1, z2, z3], _ =>
      have g0 := hg 0 (by omega)
      have g1 := hg 1 (by omega)
      have g2 := hg 2 (by omega)
      have g3 := hg 3 (by omega)
      obtain ⟨a0, e0, _, _⟩ := DataW.trod_int Try.underlying5 g0
      obtain ⟨a1, e1, _, _⟩ := DataW.trod_int Try.underlying5 g1
      obtain ⟨a2, e2, _, _⟩ := DataW.trod_int Try.underlying5 g2
      obtain ⟨a3, e3, _, _⟩ := DataW.trod_int Try.underlying5 g3
      obtain ⟨a4, e4, _, _⟩ := DataW.trod_int Try.underlying3 h1
      simp at e0 e1 e2 e3 e4
      exact ⟨⟨a0, a1, a2, a3, a4⟩, by simp [enT, *]⟩
theorem tgs_of {b o len cap : Nat} {d : DataW H0} {p : List MemPlace} {t : TypeId} (hb : b < w.heap.size) (ht : Try.prog.underlying t = some (.slice 71)) (h : DataW.Trod enc Try.prog w base spare held t (.slice (some ⟨b, o, none⟩) len cap) d p) :
    ∃ l : List Tg, l.length = len ∧ Seq enT 5 w (some ⟨b, o, none⟩) l := by
  have hC : Try.prog.cellsOf 71 = 5 := by kernel_rfl
  have he := elems ht h
  rw [hC] at he
  have hall : ∀ i : Fin len, ∃ y : Tg, ∀ j u, (enT y)[j]? = some u → w.cell? ⟨b, o + i * 5 + j, none⟩ = some u := by
    intro i
    obtain ⟨cs, n, x, hcl, hcell, htr⟩ := he i i.isLt
    obtain ⟨y, rfl⟩ := tg_of hcl htr
    exact ⟨y, hcell⟩
  obtain ⟨f, hf⟩ := Classical.axiomOfChoice hall
  refine ⟨List.ofFn f, List.length_ofFn, fun i x hi => ?_⟩
  rw [List.getElem?_ofFn] at hi
  split at hi
  · injection hi with hi
    subst hi
    refine ⟨b, o, rfl, hb, fun j u hj => ?_⟩
    rw [off_eq]
    exact hf ⟨i, by assumption⟩ j u hj
  · cases hi
end
theorem contract (H0 : Type) (enc : TypeId × Value → H0) (W : World) (base : Nat) (args : Array Value) (ds : List (DataW H0)) (p : List MemPlace)
    (hval : ∀ (j : Nat) t v, Try.f7.params[j]? = some t → args[j]? = some v → Value.okWide Try.prog W .any base t v)
    (hA : DataW.TrodAll enc Try.prog W 0 (fun _ => true) true Try.f7.params.toList args.toList ds p) :
    Calls Try.prog 7 args W fun e W' => e = .returned (.bool true) ∧ Below W.heap.size W W' := by
  rw [params] at hA hval
  obtain ⟨v0, vs0, d0, ds0, p0, q0, hargs, rfl, rfl, h0, r0⟩ := trodAll_cons hA
  obtain ⟨v1, vs1, d1, ds1, p1, q1, rfl, rfl, rfl, h1, r1⟩ := trodAll_cons r0
  obtain ⟨v2, vs2, d2, ds2, p2, q2, rfl, rfl, rfl, h2, r2⟩ := trodAll_cons r1
  obtain ⟨rfl, rfl, rfl⟩ := trodAll_nil r2
  obtain rfl : args = #[v0, v1, v2] := by cases args; simp_all
  obtain ⟨cs, rfl, hsz⟩ := DsOpn.okWide_struct Try.underlying26 (hval 0 26 v0 rfl rfl)
  obtain ⟨ct, rfl, htz⟩ := DsOpn.okWide_struct Try.underlying30 (hval 2 30 v2 rfl rfl)
  obtain ⟨l⟩ := cs
  obtain ⟨m⟩ := ct
  obtain ⟨fuel, hf⟩ := h0
  obtain ⟨fuel', hf'⟩ := h2
  obtain ⟨x, ex⟩ := pl_of (hsz.trans (show Try.prog.cellsOf 26 = 5 by kernel_rfl)) hf
  obtain ⟨d, ed, _⟩ := dc_of (htz.trans (show Try.prog.cellsOf 30 = 2 by kernel_rfl)) hf'
  have e1 : (⟨l⟩ : Array Value) = x.vals := by have : l = x.vals.toList := ex; rw [this]
  have e2 : (⟨m⟩ : Array Value) = #[.int .i64 d.tag, .string d.body] := by have : m = _ := ed; rw [this]
  rw [e1, e2]
  rcases slice_ok Try.underlying60 (hval 1 60 v1 rfl rfl) with rfl | ⟨b, o, len, cap, rfl, hb, hlc, hc⟩
  · exact places_any x none 0 0 d [] W rfl Seq.nil
  · obtain ⟨L, hl, hds⟩ := tgs_of hb Try.underlying60 h1
    exact places_any x _ len cap d L W hl hds

set_option maxRecDepth 100000 in
theorem proved : Rows.DescrPlacesSaid :=
  OpenClaim.holds_of_wide 7 Try.f7 rfl rfl rfl rfl rfl rfl rfl ⟨rfl, rfl, rfl, rfl, rfl⟩ rfl rfl rfl rfl rfl (by kernel_rfl) Try.func7 (by kernel_rfl)
    (of_decide_eq_true (by kernel_rfl)) (by unfold Func.isWrapper; first | (rw [if_pos (by decide +kernel)]; kernel_rfl) | (rw [if_neg (by decide +kernel)]; exact ⟨rfl, rfl⟩))
    (fun os started H enc _ => Law.lifted (f := 7) (fn := Try.f7) (s := Rows.descrPlacesSpec) rfl (by kernel_rfl) Try.func7 rfl (B := 4) (by kernel_rfl) Try.underlying4
      (by rw [params]; intro t ht; simp at ht; rcases ht with rfl | rfl | rfl <;> exact ⟨by kernel_rfl, of_decide_eq_true (by kernel_rfl)⟩)
      (by rw [params]; intro H xs hx; match xs, hx with | [_, _, _], _ => rfl)
      (fun H enc W base args ds p hval hA _ => contract H enc W base args ds p hval hA) os started H enc
      (ChangeSpec.witness6 (enc := enc) (C := Try.checked) false ⟨#[], #[.agg #[.int .i64 0, .int .i64 0, .int .i64 0, .int .i64 0, .int .i64 0], .slice none 0 0, .agg #[.int .i64 0, .string ByteArray.empty]], []⟩ 8 (by kernel_rfl) (by kernel_rfl) (by kernel_rfl) (by kernel_rfl)))
#print axioms proved
end Go.Proofs.Ytbceakdifklocaa.DtPlacesC
