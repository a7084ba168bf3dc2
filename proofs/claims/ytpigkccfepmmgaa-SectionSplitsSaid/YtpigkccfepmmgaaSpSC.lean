/- SectionSplits: joined. -/
import Derived.Test.YtpigkccfepmmgaaSpOpm
import Derived.Test.YtpigkccfepmmgaaSpS
namespace Go.Proofs.Ytpigkccfepmmgaa.SpSC
open Go.RowKit Go.Proofs.Ytpigkccfepmmgaa.Mem Go.Proofs.Ytpigkccfepmmgaa.SeA Go.Proofs.Ytpigkccfepmmgaa.Ap Go.Proofs.Ytpigkccfepmmgaa.SpA Go.Proofs.Ytpigkccfepmmgaa.SpS Go.Proofs.Ytpigkccfepmmgaa.SeOpn Go.Proofs.Ytpigkccfepmmgaa.SpOpm Go.Proofs.Ytpigkccfepmmgaa.Opn
open Go.ChangeShapes Go.WideShapes Go.ChangeAt Go.Joins

set_option maxRecDepth 100000
theorem params : Try.f4.params = #[35, 9, 36] := by kernel_rfl
section
variable {H0 : Type} {enc : TypeId × Value → H0} {w : World} {base : Nat} {spare : Nat → Bool} {held : Bool}
theorem scs_of {b o len cap : Nat} {d : DataW H0} {p : List MemPlace} (hb : b < w.heap.size) (h : DataW.Trod enc Try.prog w base spare held 36 (.slice (some ⟨b, o, none⟩) len cap) d p) :
    ∃ l : List Sc, l.length = len ∧ Seq enSc 8 w (some ⟨b, o, none⟩) l := by
  have hC : Try.prog.cellsOf 23 = 8 := by kernel_rfl
  have he := elems Try.underlying36 h
  rw [hC] at he
  have hall : ∀ i : Fin len, ∃ y : Sc, ∀ j v, (enSc y)[j]? = some v → w.cell? ⟨b, o + i * 8 + j, none⟩ = some v := by
    intro i
    obtain ⟨cs, n, x, hcl, hcell, htr⟩ := he i i.isLt
    obtain ⟨y, rfl⟩ := sc_of hcl htr
    exact ⟨y, hcell⟩
  obtain ⟨f, hf⟩ := Classical.axiomOfChoice hall
  refine ⟨List.ofFn f, List.length_ofFn, fun i x hi => ?_⟩
  rw [List.getElem?_ofFn] at hi
  split at hi
  · injection hi with hi
    subst hi
    exact ⟨b, o, rfl, hb, fun j u hj => by rw [off_eq]; exact hf ⟨i, by assumption⟩ j u hj⟩
  · cases hi
theorem scs_arg {v : Value} {d : DataW H0} {p : List MemPlace} {b0 : Nat} {r : Reach} (hok : Value.okWide Try.prog w r b0 36 v) (h : DataW.Trod enc Try.prog w base spare held 36 v d p) :
    ∃ a n c L, v = .slice a n c ∧ L.length = n ∧ Seq enSc 8 w a L := by
  rcases slice_ok Try.underlying36 hok with rfl | ⟨b, o, len, cap, rfl, hb, hlc, hc⟩
  · exact ⟨none, 0, 0, [], rfl, rfl, Seq.nil⟩
  · obtain ⟨l, hl, hds⟩ := scs_of hb h
    exact ⟨_, len, cap, l, rfl, hl, hds⟩
end
theorem contract (H0 : Type) (enc : TypeId × Value → H0) (W : World) (base : Nat) (args : Array Value) (ds : List (DataW H0)) (p : List MemPlace)
    (hval : ∀ (j : Nat) t v, Try.f4.params[j]? = some t → args[j]? = some v → Value.okWide Try.prog W .any base t v)
    (hA : DataW.TrodAll enc Try.prog W 0 (fun _ => true) true Try.f4.params.toList args.toList ds p) :
    Calls Try.prog 4 args W fun e W' => e = .returned (.bool true) ∧ Below W.heap.size W W' := by
  rw [params] at hA hval
  obtain ⟨v0, vs0, d0, ds0, p0, q0, hargs, rfl, rfl, h0, r0⟩ := trodAll_cons hA
  obtain ⟨v1, vs1, d1, ds1, p1, q1, hargs1, rfl, rfl, h1, r1⟩ := trodAll_cons r0
  obtain ⟨v2, vs2, d2, ds2, p2, q2, hargs2, rfl, rfl, h2, r2⟩ := trodAll_cons r1
  obtain ⟨rfl, rfl, rfl⟩ := trodAll_nil r2
  obtain rfl : args = #[v0, v1, v2] := by cases args; simp_all
  obtain ⟨x, y, z, rfl⟩ := three_arg (hval 0 35 v0 rfl rfl) h0
  obtain ⟨s, rfl⟩ := str_arg (hval 1 9 v1 rfl rfl)
  obtain ⟨a, n, c, L, rfl, hn, hL⟩ := scs_arg (hval 2 36 v2 rfl rfl) h2
  exact splits_any x y z s a n c L W hn hL
set_option maxRecDepth 100000 in
theorem proved : Rows.SectionSplitsSaid :=
  OpenClaim.holds_of_wide 4 Try.f4 rfl rfl rfl rfl rfl rfl rfl ⟨rfl, rfl, rfl, rfl, rfl⟩ rfl rfl rfl rfl rfl (by kernel_rfl) Try.func4 (by kernel_rfl)
    (of_decide_eq_true (by kernel_rfl)) (by unfold Func.isWrapper; first | (rw [if_pos (by decide +kernel)]; kernel_rfl) | (rw [if_neg (by decide +kernel)]; exact ⟨rfl, rfl⟩))
    (fun os started H enc _ => Law.lifted (f := 4) (fn := Try.f4) (s := Rows.sectionSplitsSpec) rfl (by kernel_rfl) Try.func4 rfl (B := 4) (by kernel_rfl) Try.underlying4
      (by rw [params]; intro t ht; simp at ht; rcases ht with rfl | rfl | rfl <;> exact ⟨by kernel_rfl, of_decide_eq_true (by kernel_rfl)⟩)
      (by rw [params]; intro H xs hx; match xs, hx with | [_, _, _], _ => rfl)
      (fun H enc W base args ds p hval hA _ => contract H enc W base args ds p hval hA) os started H enc
      (ChangeSpec.witness6 (enc := enc) (C := Try.checked) false ⟨#[], #[.agg #[.int .i64 0, .int .i64 0, .int .i64 0], .string ByteArray.empty, .slice none 0 0], []⟩ 8 (by kernel_rfl) (by kernel_rfl) (by kernel_rfl) (by kernel_rfl)))
#print axioms proved
end Go.Proofs.Ytpigkccfepmmgaa.SpSC
