/- TablePlays: joined. It holds of every number of rows, every list of calls and every two, without a condition; the table of sizes reads as the program's text lays it (tied). -/
import Derived.Test.YtnjbacdgecoedaaDoorPkT
import Derived.Test.YtnjbacdgecoedaaDoorOpS
import Derived.Test.YtnjbacdgecoedaaDoorLawT
import Derived.Test.YtnjbacdgecoedaaDoorLaF
namespace Go.Proofs.YtnjbacdgecoedaaDoor.LaFC
open Go Go.RowKit Go.Proofs.YtnjbacdgecoedaaDoor.Q Go.Proofs.YtnjbacdgecoedaaDoor.Mem Go.Proofs.YtnjbacdgecoedaaDoor.Ap Go.Proofs.YtnjbacdgecoedaaDoor.OpS Go.Proofs.YtnjbacdgecoedaaDoor.LaB Go.Proofs.YtnjbacdgecoedaaDoor.LaF Go.Proofs.YtnjbacdgecoedaaDoor.TiOpn Go.Proofs.YtnjbacdgecoedaaDoor.Opn Go.Proofs.YtnjbacdgecoedaaDoor.LawT
open Go.ChangeShapes Go.WideShapes Go.ChangeAt Go.Joins

set_option maxRecDepth 100000
section
variable {H0 : Type} {enc : TypeId × Value → H0} {w : World} {base : Nat} {spare : Nat → Bool} {held : Bool}
theorem u8_of {n : Int} (h : (Lit.int .u8 n).wf = true) : 0 ≤ n ∧ n < 256 := by
  simp only [Lit.wf, Bool.and_eq_true, decide_eq_true_eq] at h
  have h1 : (0 : Int) ≤ n := h.1
  have h2 : n ≤ 255 := h.2
  omega
theorem op_of {n : Nat} {cs : List Value} (hl : cs.length = 5) {x : DataW H0 × List MemPlace} (h : DataW.trod enc Tryd.prog w base spare held n 35 cs = some x) : ∃ y : LaB.Opn, cs = enOp y ∧ y.b < 256 := by
  obtain ⟨ys, n', hn', hy, hlen, hyl, hf⟩ := DataW.trod_struct Tryd.underlying35 h
  match cs, hl, ys, hyl with
  | [c0, c1, c2, c3, c4], _, [y0, y1, y2, y3, y4], _ =>
    have h0 := hf 0 _ rfl
    have h1 := hf 1 _ rfl
    have h2 := hf 2 _ rfl
    have h3 := hf 3 _ rfl
    have h4 := hf 4 _ rfl
    rw [show Tryd.prog.cellsOf _ = 1 by kernel_rfl] at h0 h1 h2 h3 h4
    obtain ⟨a0, e0, _, _⟩ := DataW.trod_int Tryd.underlying3 h0
    obtain ⟨a1, e1, _, _⟩ := DataW.trod_int Tryd.underlying3 h1
    obtain ⟨a2, e2, _, _⟩ := DataW.trod_int Tryd.underlying3 h2
    obtain ⟨a3, e3, _, w3⟩ := DataW.trod_int Tryd.underlying5 h3
    obtain ⟨a4, e4, _, _⟩ := DataW.trod_string Tryd.underlying9 h4
    simp at e0 e1 e2 e3 e4
    have u3 := u8_of w3
    obtain ⟨m3, rfl⟩ := Int.eq_ofNat_of_zero_le u3.1
    exact ⟨⟨a0, a1, a2, m3, a4⟩, by simp [enOp, *], by dsimp only; omega⟩
theorem ops_of {n : Nat} {v : Value} {x : DataW H0 × List MemPlace} (h : DataW.trod enc Tryd.prog w base spare held n 22 [v] = some x) :
    ∃ (a : Option Addr) (cap : Nat) (L : List LaB.Opn), v = .slice a L.length cap ∧ L.length ≤ 9223372036854775807 ∧ Seq enOp 5 w a L ∧ ∀ p ∈ L, p.b < 256 := by
  obtain ⟨a, cap, L, rfl, hl, hs, hq, _⟩ := seq_of (Q := fun o : LaB.Opn => o.b < 256) (en := enOp) (sz := 5) Tryd.underlying22 (by kernel_rfl) (by decide) (fun n cs x hc hx => op_of hc hx) h
  exact ⟨a, cap, L, rfl, hl, hs, hq⟩
theorem two_of {n : Nat} {cs : List Value} {x : DataW H0 × List MemPlace} (h : DataW.trod enc Tryd.prog w base spare held n 23 cs = some x) (hl : cs.length = 2) : ∃ a b : Int, cs = [.int .i64 a, .int .i64 b] := by
  obtain ⟨xs, m, _, _, _, hlx, hel⟩ := DataW.trod_array Tryd.underlying23 h
  match cs, hl, xs, hlx with
  | [c0, c1], _, [y0, y1], _ =>
    have h0 := hel 0 (by omega)
    have h1 := hel 1 (by omega)
    rw [show Tryd.prog.cellsOf _ = 1 by kernel_rfl] at h0 h1
    obtain ⟨a0, e0, _, _⟩ := DataW.trod_int Tryd.underlying3 h0
    obtain ⟨a1, e1, _, _⟩ := DataW.trod_int Tryd.underlying3 h1
    simp at e0 e1
    exact ⟨a0, a1, by simp [*]⟩
theorem okWide_array {P : Program} {w : World} {r : Reach} {base n : Nat} {t e : TypeId} {v : Value} (ht : P.underlying t = some (.array n e)) (h : Value.okWide P w r base t v) : ∃ cs, v = .agg cs ∧ cs.size = P.cellsOf t := by
  simp only [Value.okWide, ht] at h
  obtain ⟨cs, h1, h2, _⟩ := h
  exact ⟨cs, h1, h2⟩
theorem two_arg {v : Value} {d : DataW H0} {p : List MemPlace} {r : Reach} {b0 : Nat} (hv : Value.okWide Tryd.prog w r b0 23 v) (h : DataW.Trod enc Tryd.prog w base spare held 23 v d p) : ∃ a b : Int, v = .agg #[.int .i64 a, .int .i64 b] := by
  obtain ⟨cs, rfl, hsz⟩ := okWide_array Tryd.underlying23 hv
  obtain ⟨l⟩ := cs
  obtain ⟨fuel, hf⟩ := h
  obtain ⟨a, b, e⟩ := two_of hf (hsz.trans (show Tryd.prog.cellsOf 23 = 2 by kernel_rfl))
  have e : l = _ := e
  exact ⟨a, b, by rw [e]⟩
end
theorem params : Tryd.f3.params = #[3, 22, 23] := by kernel_rfl
theorem contract (H0 : Type) (enc : TypeId × Value → H0) (W : World) (base : Nat) (args : Array Value) (ds : List (DataW H0)) (p : List MemPlace)
    (hval : ∀ (j : Nat) t v, Tryd.f3.params[j]? = some t → args[j]? = some v → Value.okWide Tryd.prog W .any base t v)
    (hA : DataW.TrodAll enc Tryd.prog W 0 (fun _ => true) true Tryd.f3.params.toList args.toList ds p) (hL : laidMetH Tryd.prog [("clarion/table.sizes", Rows.laid_clarion_table_sizes)] W) :
    Calls Tryd.prog 3 args W fun e W' => e = .returned (.bool true) ∧ Below W.heap.size W W' := by
  rw [params] at hA hval
  obtain ⟨v0, vs0, d0, ds0, p0, q0, hargs, rfl, rfl, h0, r0⟩ := trodAll_cons hA
  obtain ⟨v1, vs1, d1, ds1, p1, q1, hargs1, rfl, rfl, h1, r1⟩ := trodAll_cons r0
  obtain ⟨v2, vs2, d2, ds2, p2, q2, hargs2, rfl, rfl, h2, r2⟩ := trodAll_cons r1
  obtain ⟨rfl, rfl, rfl⟩ := trodAll_nil r2
  obtain rfl : args = #[v0, v1, v2] := by cases args; simp_all
  obtain ⟨n, rfl⟩ := int_arg (hval 0 3 v0 rfl rfl)
  obtain ⟨a0, len, cap0, rfl⟩ := okWide_slice Tryd.underlying22 (hval 1 22 v1 rfl rfl)
  obtain ⟨x, y, rfl⟩ := two_arg (hval 2 23 v2 rfl rfl) h2
  obtain ⟨fuel, hf⟩ := h1
  obtain ⟨a, cap, L, e, hl, hs, hq⟩ := ops_of hf
  rw [e]
  exact law_any n a _ cap L x y W (tab_of hL rfl (List.mem_cons_self ..) (by kernel_rfl) (by kernel_rfl) Tryd.underlying49) rfl hl hs hq
set_option maxRecDepth 100000 in
theorem door_met (os : Os) (args : Array Value) : laidMetH Tryd.prog [("clarion/table.sizes", Rows.laid_clarion_table_sizes)] ((World.doorLaid Tryd.prog 14 os).forCall (fun _ _ => 0) ⟨#[], args, []⟩).memory :=
  laidMetH_of_parts3 (fuel := 8) (laidMet_of_run' 8 (by kernel_rfl) (by kernel_rfl)) (by kernel_rfl) (by kernel_rfl)
set_option maxRecDepth 100000 in
theorem row_holds : Rows.TablePlaysSaid :=
  OpenClaim.holds_of_wide 3 Tryd.f3 rfl rfl rfl rfl rfl rfl rfl ⟨rfl, rfl, rfl, rfl, rfl⟩ rfl rfl rfl rfl rfl (by kernel_rfl) Tryd.func3 (by kernel_rfl)
    (of_decide_eq_true (by kernel_rfl)) (by unfold Func.isWrapper; first | (rw [if_pos (by decide +kernel)]; kernel_rfl) | (rw [if_neg (by decide +kernel)]; exact ⟨rfl, rfl⟩))
    (fun os started H enc _ => LawT.lifted (f := 3) (fn := Tryd.f3) (s := Rows.tablePlaysSpec) (laid := [("clarion/table.sizes", Rows.laid_clarion_table_sizes)]) (by kernel_rfl) Tryd.func3 rfl (B := 4) (by kernel_rfl) Tryd.underlying4
      (by rw [params]; intro t ht; simp at ht; rcases ht with rfl | rfl | rfl <;> exact ⟨by kernel_rfl, of_decide_eq_true (by kernel_rfl)⟩)
      (by rw [params]; intro H xs hx; match xs, hx with | [_, _, _], _ => rfl)
      (fun H enc W base args ds p hval hA _ hL => contract H enc W base args ds p hval hA hL) os started H enc
      (ChangeSpec.witness_shaped (enc := enc) (C := Tryd.checked) (os := os) (X := fun w _ => laidMetH Tryd.prog [("clarion/table.sizes", Rows.laid_clarion_table_sizes)] w) false (World.doorLaid Tryd.prog 14 os) #[.int .i64 0, .slice none 0 0, .agg #[.int .i64 0, .int .i64 0]] 8 rfl (World.shaped_of_RefB (by kernel_rfl) (by kernel_rfl)) (by kernel_rfl) (by kernel_rfl) (by kernel_rfl) (door_met os _)))
set_option maxRecDepth 100000 in
theorem proved : Rows.TablePlaysCardSaid :=
  Claim7.holds_tied_plain_at .later [] [.widerDeep] true Rows.tablePlaysCard.stood.harness false
    row_holds (fun _ h => by cases h) (by kernel_rfl) (fun _ h => by cases h) tablePlays_row_tie rfl ⟨rfl, rfl⟩ (by kernel_rfl) rfl
    (fun f fn hf hfn => by
      obtain rfl : f = 3 := Option.some.inj ((show Tryd.prog.funcNamed Rows.tablePlaysCard.stood.row.func = some 3 by kernel_rfl).symm.trans hf) |>.symm
      obtain rfl : fn = Tryd.f3 := (Option.some.inj (Tryd.func3.symm.trans hfn)).symm
      exact ⟨by kernel_rfl, fun j t ht => by
        rw [params] at ht
        have hm := Array.mem_of_getElem? ht
        simp only [List.mem_toArray, List.mem_cons, List.not_mem_nil, or_false] at hm
        rcases hm with rfl | rfl | rfl <;> exact (show Tryd.prog.wantsStandIn _ = false by kernel_rfl)⟩)
    (by kernel_rfl)
#print axioms proved
end Go.Proofs.YtnjbacdgecoedaaDoor.LaFC
