/- DescrJoins: joined. It holds of every two lists of descriptors, without a condition. -/
import Derived.Test.YtbceakdifklocaaDsOpn
import Derived.Test.YtbceakdifklocaaDsW
namespace Go.Proofs.Ytbceakdifklocaa.DsJoinsC
open Go.RowKit Go.Proofs.Ytbceakdifklocaa.Mem Go.Proofs.Ytbceakdifklocaa.DsD Go.Proofs.Ytbceakdifklocaa.DsW Go.Proofs.Ytbceakdifklocaa.DsOpn Go.Proofs.Ytbceakdifklocaa.Opn
open Go.ChangeShapes Go.WideShapes Go.ChangeAt Go.Joins

set_option maxRecDepth 100000
theorem params : Try.f5.params = #[45, 45] := by kernel_rfl
theorem sld_of {H0 : Type} {enc : TypeId × Value → H0} {w : World} {base : Nat} {spare : Nat → Bool} {held : Bool} {v : Value} {d : DataW H0} {p : List MemPlace} {b0 : Nat} {r : Reach} (hok : Value.okWide Try.prog w r b0 45 v) (h : DataW.Trod enc Try.prog w base spare held 45 v d p) :
    ∃ a n c L, v = .slice a n c ∧ SlD w a n c L ∧ n ≤ 9223372036854775807 := by
  rcases slice_ok Try.underlying45 hok with rfl | ⟨b, o, len, cap, rfl, hb, hlc, hc⟩
  · exact ⟨none, 0, 0, [], rfl, ⟨rfl, fun _ => ⟨rfl, rfl⟩, fun a' h => (by cases h), fun i x hi => by simp at hi⟩, by omega⟩
  · obtain ⟨l, hl, hds⟩ := dcs_of hb Try.underlying45 h
    exact ⟨_, len, cap, l, rfl, ⟨hl, fun h => (by cases h), fun a' h => ⟨b, o, by injection h with h; exact h.symm⟩, hds⟩, by omega⟩

theorem contract (H0 : Type) (enc : TypeId × Value → H0) (W : World) (base : Nat) (args : Array Value) (ds : List (DataW H0)) (p : List MemPlace)
    (hval : ∀ (j : Nat) t v, Try.f5.params[j]? = some t → args[j]? = some v → Value.okWide Try.prog W .any base t v)
    (hA : DataW.TrodAll enc Try.prog W 0 (fun _ => true) true Try.f5.params.toList args.toList ds p) :
    Calls Try.prog 5 args W fun e W' => e = .returned (.bool true) ∧ Below W.heap.size W W' := by
  rw [params] at hA hval
  obtain ⟨v0, vs0, d0, ds0, p0, q0, hargs, rfl, rfl, h0, r0⟩ := trodAll_cons hA
  obtain ⟨v1, vs1, d1, ds1, p1, q1, rfl, rfl, rfl, h1, r1⟩ := trodAll_cons r0
  obtain ⟨rfl, rfl, rfl⟩ := trodAll_nil r1
  obtain rfl : args = #[v0, v1] := by cases args; simp_all
  obtain ⟨a, n, c, L, rfl, hL, hn⟩ := sld_of (hval 0 45 v0 rfl rfl) h0
  obtain ⟨b, m, d, M, rfl, hM, hm⟩ := sld_of (hval 1 45 v1 rfl rfl) h1
  exact joins_any a b n m c d L M W hL hM hn hm

set_option maxRecDepth 100000 in
theorem proved : Rows.DescrJoinsSaid :=
  OpenClaim.holds_of_wide 5 Try.f5 rfl rfl rfl rfl rfl rfl rfl ⟨rfl, rfl, rfl, rfl, rfl⟩ rfl rfl rfl rfl rfl (by kernel_rfl) Try.func5 (by kernel_rfl)
    (of_decide_eq_true (by kernel_rfl)) (by unfold Func.isWrapper; first | (rw [if_pos (by decide +kernel)]; kernel_rfl) | (rw [if_neg (by decide +kernel)]; exact ⟨rfl, rfl⟩))
    (fun os started H enc _ => Law.lifted (f := 5) (fn := Try.f5) (s := Rows.descrJoinsSpec) rfl (by kernel_rfl) Try.func5 rfl (B := 4) (by kernel_rfl) Try.underlying4
      (by rw [params]; intro t ht; simp at ht; obtain rfl := ht; exact ⟨by kernel_rfl, of_decide_eq_true (by kernel_rfl)⟩)
      (by rw [params]; intro H xs hx; match xs, hx with | [_, _], _ => rfl)
      (fun H enc W base args ds p hval hA _ => contract H enc W base args ds p hval hA) os started H enc
      (ChangeSpec.witness6 (enc := enc) (C := Try.checked) false ⟨#[], #[.slice none 0 0, .slice none 0 0], []⟩ 8 (by kernel_rfl) (by kernel_rfl) (by kernel_rfl) (by kernel_rfl)))
#print axioms proved
end Go.Proofs.Ytbceakdifklocaa.DsJoinsC
