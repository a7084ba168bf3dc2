/- DescrBack: joined. It holds of every Slice, every Place and every Int, without a condition. -/
import Derived.Test.YtbceakdifklocaaDsOpn
import Derived.Test.YtbceakdifklocaaOpS
import Derived.Test.YtbceakdifklocaaDwE
namespace Go.Proofs.Ytbceakdifklocaa.DwEC
open Go.RowKit Go.Proofs.Ytbceakdifklocaa.Mem Go.Proofs.Ytbceakdifklocaa.Ap Go.Proofs.Ytbceakdifklocaa.DsB Go.Proofs.Ytbceakdifklocaa.DsC Go.Proofs.Ytbceakdifklocaa.DsD Go.Proofs.Ytbceakdifklocaa.DsP Go.Proofs.Ytbceakdifklocaa.DuB Go.Proofs.Ytbceakdifklocaa.DuC Go.Proofs.Ytbceakdifklocaa.DwE Go.Proofs.Ytbceakdifklocaa.DsOpn Go.Proofs.Ytbceakdifklocaa.Opn Go.Proofs.Ytbceakdifklocaa.OpS
open Go.ChangeShapes Go.WideShapes Go.ChangeAt Go.Joins

set_option maxRecDepth 100000
section
variable {H0 : Type} {enc : TypeId × Value → H0} {w : World} {base : Nat} {spare : Nat → Bool} {held : Bool}
/-- a slice of descriptors -/
def DV (w : World) (v : Value) : Prop := ∃ L : List Dc, IsD w v L ∧ L.length ≤ 9223372036854775807
theorem ds_of {n : Nat} {v : Value} {x : DataW H0 × List MemPlace} (h : DataW.trod enc Try.prog w base spare held n 45 [v] = some x) : DV w v := by
  obtain ⟨a, cap, L, rfl, hl, hs, _⟩ := seq_of (Q := fun _ => True) (en := enD) (sz := 2) Try.underlying45 (by kernel_rfl) (by decide) (fun n cs x hc hx => by
    obtain ⟨y, hy, _⟩ := dc_of hc hx
    exact ⟨y, hy, trivial⟩) h
  exact ⟨L, ⟨a, _, cap, rfl, rfl, seq_ds hs⟩, hl⟩
theorem es_of {n : Nat} {v : Value} {x : DataW H0 × List MemPlace} (h : DataW.trod enc Try.prog w base spare held n 80 [v] = some x) :
    ∃ (a : Option Addr) (cap : Nat) (PS : List (Value × Value)), v = .slice a PS.length cap ∧ PS.length ≤ 9223372036854775807 ∧ Seq en2 2 w a PS ∧ ∀ q ∈ PS, DV w q.1 ∧ DV w q.2 := by
  obtain ⟨a, cap, L, rfl, hl, hs, hq, _⟩ := seq_of (Q := fun q => DV w q.1 ∧ DV w q.2) (en := en2) (sz := 2) Try.underlying80 (by kernel_rfl) (by decide) (fun n cs x hc hx => by
    obtain ⟨ys, n', hn', hy, hlen, hyl, hf⟩ := DataW.trod_struct Try.underlying116 hx
    match cs, hc, ys, hyl with
    | [c0, c1], _, [y0, y1], _ =>
      have h0 := hf 0 _ rfl
      have h1 := hf 1 _ rfl
      rw [show Try.prog.cellsOf _ = 1 by kernel_rfl] at h0 h1
      exact ⟨(c0, c1), rfl, ds_of h0, ds_of h1⟩) h
  exact ⟨a, cap, L, rfl, hl, hs, hq⟩
theorem lps_of {iv : Value} (hi : DV w iv) : ∀ (PS : List (Value × Value)), (∀ q ∈ PS, DV w q.1 ∧ DV w q.2) → ∃ LL, Lps w (lvs iv PS) LL ∧ ∀ L ∈ LL, L.length ≤ 9223372036854775807 := by
  intro PS h
  have hall : ∀ v ∈ lvs iv PS, DV w v := fun v hv => by
    unfold lvs at hv
    rcases List.mem_cons.1 hv with rfl | hv
    · exact hi
    · rw [List.mem_flatMap] at hv
      obtain ⟨q, hq, hv⟩ := hv
      obtain ⟨h1, h2⟩ := h q hq
      simp only [en2, List.mem_cons, List.not_mem_nil, or_false] at hv
      rcases hv with rfl | rfl
      · exact h1
      · exact h2
  generalize lvs iv PS = VS at hall
  induction VS with
  | nil => exact ⟨[], ⟨rfl, fun i v L h => by simp at h⟩, fun L h => by cases h⟩
  | cons v t ih =>
    obtain ⟨LL, h1, h2⟩ := ih (fun x hx => hall x (List.mem_cons_of_mem _ hx))
    obtain ⟨L, h3, h4⟩ := hall v (List.mem_cons_self ..)
    refine ⟨L :: LL, ⟨by simp [h1.1], fun i x M hx hM => ?_⟩, fun M hM => ?_⟩
    · cases i with
      | zero => simp at hx hM; subst hx hM; exact h3
      | succ i => simp at hx hM; exact h1.2 i x M hx hM
    · rcases List.mem_cons.1 hM with rfl | hM
      · exact h4
      · exact h2 M hM
theorem in_of {n : Nat} {cs : List Value} (hl : cs.length = 5) {x : DataW H0 × List MemPlace} (h : DataW.trod enc Try.prog w base spare held n 82 cs = some x) :
    ∃ (a p o : Int) (iv : Value) (ea : Option Addr) (ec : Nat) (PS : List (Value × Value)), cs = [.int .i64 a, .int .i64 p, .int .i64 o, iv, .slice ea PS.length ec] ∧ DV w iv ∧ PS.length ≤ 9223372036854775807 ∧ Seq en2 2 w ea PS ∧ ∀ q ∈ PS, DV w q.1 ∧ DV w q.2 := by
  obtain ⟨ys, n', hn', hy, hlen, hyl, hg⟩ := DataW.trod_struct Try.underlying82 h
  match cs, hl, ys, hyl with
  | [c0, c1, c2, c3, c4], _, [y0, y1, y2, y3, y4], _ =>
    have g0 := hg 0 _ rfl
    have g1 := hg 1 _ rfl
    have g2 := hg 2 _ rfl
    have g3 := hg 3 _ rfl
    have g4 := hg 4 _ rfl
    rw [show Try.prog.cellsOf _ = 1 by kernel_rfl] at g0 g1 g2 g3 g4
    obtain ⟨a0, e0, _, _⟩ := DataW.trod_int Try.underlying3 g0
    obtain ⟨a1, e1, _, _⟩ := DataW.trod_int Try.underlying3 g1
    obtain ⟨a2, e2, _, _⟩ := DataW.trod_int Try.underlying3 g2
    simp at e0 e1 e2
    subst e0 e1 e2
    obtain ⟨ea, ec, PS, rfl, hl, hs, hq⟩ := es_of (v := c4) g4
    exact ⟨a0, a1, a2, c3, ea, ec, PS, rfl, ds_of g3, hl, hs, hq⟩
end
theorem params : Try.f8.params = #[23, 26, 82] := by kernel_rfl
theorem contract (H0 : Type) (enc : TypeId × Value → H0) (W : World) (base : Nat) (args : Array Value) (ds : List (DataW H0)) (p : List MemPlace)
    (hval : ∀ (j : Nat) t v, Try.f8.params[j]? = some t → args[j]? = some v → Value.okWide Try.prog W .any base t v)
    (hA : DataW.TrodAll enc Try.prog W 0 (fun _ => true) true Try.f8.params.toList args.toList ds p) :
    Calls Try.prog 8 args W fun e W' => e = .returned (.bool true) ∧ Below W.heap.size W W' := by
  rw [params] at hA hval
  obtain ⟨v0, vs0, d0, ds0, p0, q0, hargs, rfl, rfl, h0, r0⟩ := trodAll_cons hA
  obtain ⟨v1, vs1, d1, ds1, p1, q1, hargs1, rfl, rfl, h1, r1⟩ := trodAll_cons r0
  obtain ⟨v2, vs2, d2, ds2, p2, q2, hargs2, rfl, rfl, h2, r2⟩ := trodAll_cons r1
  obtain ⟨rfl, rfl, rfl⟩ := trodAll_nil r2
  obtain rfl : args = #[v0, v1, v2] := by cases args; simp_all
  obtain ⟨cs, rfl, hsz⟩ := DsOpn.okWide_struct Try.underlying23 (hval 0 23 v0 rfl rfl)
  obtain ⟨ct, rfl, htz⟩ := DsOpn.okWide_struct Try.underlying26 (hval 1 26 v1 rfl rfl)
  obtain ⟨cu, rfl, huz⟩ := DsOpn.okWide_struct Try.underlying82 (hval 2 82 v2 rfl rfl)
  obtain ⟨l⟩ := cs
  obtain ⟨m⟩ := ct
  obtain ⟨k⟩ := cu
  obtain ⟨fuel, hf⟩ := h0
  obtain ⟨fuel', hf'⟩ := h1
  obtain ⟨fuel'', hf''⟩ := h2
  obtain ⟨x, ex⟩ := sl_of (hsz.trans (show Try.prog.cellsOf 23 = 7 by kernel_rfl)) hf
  obtain ⟨y, ey⟩ := pl_of (htz.trans (show Try.prog.cellsOf 26 = 5 by kernel_rfl)) hf'
  have e1 : (⟨l⟩ : Array Value) = x.vals := by have : l = x.vals.toList := ex; rw [this]
  have e2 : (⟨m⟩ : Array Value) = y.vals := by have : m = y.vals.toList := ey; rw [this]
  rw [e1, e2]
  obtain ⟨a0, a1, a2, c3, ea, ec, PS, ez, hi, hl, hs, hq⟩ := in_of (huz.trans (show Try.prog.cellsOf 82 = 5 by kernel_rfl)) hf''
  have e3 : (⟨k⟩ : Array Value) = #[.int .i64 a0, .int .i64 a1, .int .i64 a2, c3, .slice ea PS.length ec] := by have : k = _ := ez; rw [this]
  rw [e3]
  obtain ⟨LL, hps, hsm⟩ := lps_of hi PS hq
  by_cases h300 : 300 < x.more.size
  · exact back_long x y a0 a1 a2 c3 ea _ ec W h300
  · exact back_go x y a0 a1 a2 c3 ea _ ec PS LL W h300 rfl hl hps hsm hs
set_option maxRecDepth 100000 in
theorem proved : Rows.DescrBackSaid :=
  OpenClaim.holds_of_wide 8 Try.f8 rfl rfl rfl rfl rfl rfl rfl ⟨rfl, rfl, rfl, rfl, rfl⟩ rfl rfl rfl rfl rfl (by kernel_rfl) Try.func8 (by kernel_rfl)
    (of_decide_eq_true (by kernel_rfl)) (by unfold Func.isWrapper; first | (rw [if_pos (by decide +kernel)]; kernel_rfl) | (rw [if_neg (by decide +kernel)]; exact ⟨rfl, rfl⟩))
    (fun os started H enc _ => Law.lifted (f := 8) (fn := Try.f8) (s := Rows.descrBackSpec) rfl (by kernel_rfl) Try.func8 rfl (B := 4) (by kernel_rfl) Try.underlying4
      (by rw [params]; intro t ht; simp at ht; rcases ht with rfl | rfl | rfl <;> exact ⟨by kernel_rfl, of_decide_eq_true (by kernel_rfl)⟩)
      (by rw [params]; intro H xs hx; match xs, hx with | [_, _, _], _ => rfl)
      (fun H enc W base args ds p hval hA _ => contract H enc W base args ds p hval hA) os started H enc
      (ChangeSpec.witness6 (enc := enc) (C := Try.checked) false ⟨#[], #[.agg #[.bool false, .bool false, .int .i64 0, .int .i64 0, .int .i64 0, .int .i64 0, .string ByteArray.empty], .agg #[.int .i64 0, .int .i64 0, .int .i64 0, .int .i64 0, .int .i64 0], .agg #[.int .i64 0, .int .i64 0, .int .i64 0, .slice none 0 0, .slice none 0 0]], []⟩ 8 (by kernel_rfl) (by kernel_rfl) (by kernel_rfl) (by kernel_rfl)))
#print axioms proved
end Go.Proofs.Ytbceakdifklocaa.DwEC
