/- TableNil: joined. It holds of every call and every number, without a condition; the listed variables read as the program's text lays them (tied). -/
import Derived.Test.YtlocgilgdnhnlaaDoorPkT
import Derived.Test.YtlocgilgdnhnlaaDoorOpS
import Derived.Test.YtlocgilgdnhnlaaDoorLawT
import Derived.Test.YtlocgilgdnhnlaaDoorLaE
import Derived.Test.YtlocgilgdnhnlaaDoorTnB
import Derived.Lay
namespace Go.Proofs.YtlocgilgdnhnlaaDoor.TnC
open Go Go.RowKit Go.Proofs.YtlocgilgdnhnlaaDoor.Q Go.Proofs.YtlocgilgdnhnlaaDoor.Mem Go.Proofs.YtlocgilgdnhnlaaDoor.Ap Go.Proofs.YtlocgilgdnhnlaaDoor.OpS Go.Proofs.YtlocgilgdnhnlaaDoor.Tab Go.Proofs.YtlocgilgdnhnlaaDoor.LaA Go.Proofs.YtlocgilgdnhnlaaDoor.LaB Go.Proofs.YtlocgilgdnhnlaaDoor.LaE Go.Proofs.YtlocgilgdnhnlaaDoor.TnB Go.Proofs.YtlocgilgdnhnlaaDoor.TiOpn Go.Proofs.YtlocgilgdnhnlaaDoor.Opn Go.Proofs.YtlocgilgdnhnlaaDoor.LawT
open Go.ChangeShapes Go.WideShapes Go.ChangeAt Go.Joins

set_option maxRecDepth 100000
theorem seq_one (w : World) (o : LaB.Opn) : Seq enOp 5 (w.alloc (.cells (enOp o).toArray 42)) (some ⟨w.heap.size, 0, none⟩) [o] := by
  have hB := Blk.new w 42 (enOp o).toArray
  intro k x hx
  match k, hx with
  | 0, hx =>
    simp only [List.getElem?_cons_zero, Option.some.injEq] at hx
    subst hx
    refine ⟨w.heap.size, 0, rfl, hB.lt, fun j u hu => ?_⟩
    rw [off_eq]
    simp only [Nat.zero_mul, Nat.add_zero, Nat.zero_add]
    exact Blk.cell hB j (by simpa using hu)
theorem law_any (o : LaB.Opn) (n : Int) (w : World) (hT : Tab 1 w) (hb : o.b < 256) :
    Calls Tryd.prog 4 #[.agg (enOp o).toArray, .int .i64 n] w fun e w' => e = .returned (.bool true) ∧ Below w.heap.size w w' :=
  law_core o.ask o.at_ o.n o.b o.text (bytesO o) (colS o.n o.b) (fewB [o]) n w
    (fun V hV => awake_any V (hT.be hV))
    (fun V => few_any _ 1 1 [o] _ rfl (by decide) (seq_one V o))
    (fun _ V => bytes_any o V hb)
    (fun hF V => column_any o.n o.b V hb (by
      have h : fewO o := by unfold fewB at hF; simpa using hF
      have := h.2.1
      omega))
section
variable {H0 : Type} {enc : TypeId × Value → H0} {w : World} {base : Nat} {spare : Nat → Bool} {held : Bool}
theorem u8_of {n : Int} (h : (Lit.int .u8 n).wf = true) : 0 ≤ n ∧ n < 256 := by
  simp only [Lit.wf, Bool.and_eq_true, decide_eq_true_eq] at h
  have h1 : (0 : Int) ≤ n := h.1
  have h2 : n ≤ 255 := h.2
  omega
theorem op_of {n : Nat} {cs : List Value} (hl : cs.length = 5) {x : DataW H0 × List MemPlace} (h : DataW.trod enc Tryd.prog w base spare held n 42 cs = some x) : ∃ y : LaB.Opn, cs = enOp y ∧ y.b < 256 := by
  obtain ⟨ys, n', hn', hy, hlen, hyl, hf⟩ := DataW.trod_struct Tryd.underlying42 h
  match cs, hl, ys, hyl with
  | [c0, c1, c2, c3, c4], _, [y0, y1, y2, y3, y4], _ =>
    have h0 := hf 0 _ rfl
    have h1 := hf 1 _ rfl
    have h2 := hf 2 _ rfl
    have h3 := hf 3 _ rfl
    have h4 := hf 4 _ rfl
    rw [show Tryd.prog.cellsOf _ = 1 by kernel_rfl] at h0 h1 h2 h3 h4
    obtain ⟨a0, e0, _, _⟩ := DataW.trod_int Tryd.underlying3 h0
    obtain ⟨a1, e1, _, _⟩ := DataW.trod_int Tryd.underlying3 h1
    obtain ⟨a2, e2, _, _⟩ := DataW.trod_int Tryd.underlying3 h2
    obtain ⟨a3, e3, _, w3⟩ := DataW.trod_int Tryd.underlying5 h3
    obtain ⟨a4, e4, _, _⟩ := DataW.trod_string Tryd.underlying9 h4
    simp at e0 e1 e2 e3 e4
    have u3 := u8_of w3
    obtain ⟨m3, rfl⟩ := Int.eq_ofNat_of_zero_le u3.1
    exact ⟨⟨a0, a1, a2, m3, a4⟩, by simp [enOp, *], by dsimp only; omega⟩
theorem op_arg {v : Value} {d : DataW H0} {p : List MemPlace} {r : Reach} {b0 : Nat} (hv : Value.okWide Tryd.prog w r b0 42 v) (h : DataW.Trod enc Tryd.prog w base spare held 42 v d p) : ∃ s : LaB.Opn, v = .agg (enOp s).toArray ∧ s.b < 256 := by
  obtain ⟨cs, rfl, hsz⟩ := TiOpn.okWide_struct Tryd.underlying42 hv
  obtain ⟨l⟩ := cs
  obtain ⟨fuel, hf⟩ := h
  obtain ⟨x, ex, hx⟩ := op_of (hsz.trans (show Tryd.prog.cellsOf 42 = 5 by kernel_rfl)) hf
  have : l = enOp x := ex
  exact ⟨x, by rw [this], hx⟩
end
theorem params : Tryd.f4.params = #[42, 3] := by kernel_rfl
theorem contract (H0 : Type) (enc : TypeId × Value → H0) (W : World) (base : Nat) (args : Array Value) (ds : List (DataW H0)) (p : List MemPlace)
    (hval : ∀ (j : Nat) t v, Tryd.f4.params[j]? = some t → args[j]? = some v → Value.okWide Tryd.prog W .any base t v)
    (hA : DataW.TrodAll enc Tryd.prog W 0 (fun _ => true) true Tryd.f4.params.toList args.toList ds p) (hL : laidMetH Tryd.prog [("unicode/utf8.acceptRanges", Rows.laid_unicode_utf8_acceptRanges), ("clarion/table.sizes", Rows.laid_clarion_table_sizes), ("unicode/utf8.first", Rows.laid_unicode_utf8_first)] W) :
    Calls Tryd.prog 4 args W fun e W' => e = .returned (.bool true) ∧ Below W.heap.size W W' := by
  rw [params] at hA hval
  obtain ⟨v0, vs0, d0, ds0, p0, q0, hargs, rfl, rfl, h0, r0⟩ := trodAll_cons hA
  obtain ⟨v1, vs1, d1, ds1, p1, q1, hargs1, rfl, rfl, h1, r1⟩ := trodAll_cons r0
  obtain ⟨rfl, rfl, rfl⟩ := trodAll_nil r1
  obtain rfl : args = #[v0, v1] := by cases args; simp_all
  obtain ⟨o, rfl, ho⟩ := op_arg (hval 0 42 v0 rfl rfl) h0
  obtain ⟨n, rfl⟩ := int_arg (hval 1 3 v1 rfl rfl)
  exact law_any o n W (tab_of hL rfl (List.mem_cons_of_mem _ (List.mem_cons_self ..)) (by kernel_rfl) (by kernel_rfl) Tryd.underlying90) ho
set_option maxRecDepth 100000 in
theorem row_holds : Rows.TableNilSaid :=
  OpenClaim.holds_of_wide 4 Tryd.f4 rfl rfl rfl rfl rfl rfl rfl ⟨rfl, rfl, rfl, rfl, rfl⟩ rfl rfl rfl rfl rfl (by kernel_rfl) Tryd.func4 (by kernel_rfl)
    (of_decide_eq_true (by kernel_rfl)) (by unfold Func.isWrapper; first | (rw [if_pos (by decide +kernel)]; kernel_rfl) | (rw [if_neg (by decide +kernel)]; exact ⟨rfl, rfl⟩))
    (fun os started H enc _ => LawT.lifted (f := 4) (fn := Tryd.f4) (s := Rows.tableNilSpec) (laid := [("unicode/utf8.acceptRanges", Rows.laid_unicode_utf8_acceptRanges), ("clarion/table.sizes", Rows.laid_clarion_table_sizes), ("unicode/utf8.first", Rows.laid_unicode_utf8_first)]) (by kernel_rfl) Tryd.func4 rfl (B := 4) (by kernel_rfl) Tryd.underlying4
      (by rw [params]; intro t ht; simp at ht; rcases ht with rfl | rfl <;> exact ⟨by kernel_rfl, of_decide_eq_true (by kernel_rfl)⟩)
      (by rw [params]; intro H xs hx; match xs, hx with | [_, _], _ => rfl)
      (fun H enc W base args ds p hval hA _ hL => contract H enc W base args ds p hval hA hL) os started H enc
      (ChangeSpec.witness_shaped (enc := enc) (C := Tryd.checked) (os := os) (X := fun w _ => laidMetH Tryd.prog [("unicode/utf8.acceptRanges", Rows.laid_unicode_utf8_acceptRanges), ("clarion/table.sizes", Rows.laid_clarion_table_sizes), ("unicode/utf8.first", Rows.laid_unicode_utf8_first)] w) false (World.laidAll Tryd.prog os [("unicode/utf8.acceptRanges", Rows.laid_unicode_utf8_acceptRanges), ("clarion/table.sizes", Rows.laid_clarion_table_sizes), ("unicode/utf8.first", Rows.laid_unicode_utf8_first)]) #[.agg #[.int .i64 0, .int .i64 0, .int .i64 0, .int .u8 0, .string ByteArray.empty], .int .i64 0] 8 (World.laidAll_os _ _ _) (World.shaped_of_ZipB (by kernel_rfl) (by kernel_rfl)) (by kernel_rfl) (by kernel_rfl) (by kernel_rfl) (by rw [MakeChecks.laidMetH_plain _ _ _ (by kernel_rfl)]; exact laidMet_laidAll _ (by kernel_rfl) (by kernel_rfl))))
set_option maxRecDepth 100000 in
theorem proved : Rows.TableNilCardSaid :=
  Claim7.holds_tied_plain_at .later [] [.data, .widerDeep, .pinned] true Rows.tableNilCard.stood.harness false
    row_holds (fun _ h => by cases h) (by kernel_rfl) (fun _ h => by cases h) tableNil_row_tie rfl ⟨rfl, rfl⟩ (by kernel_rfl) rfl
    (fun f fn hf hfn => by
      obtain rfl : f = 4 := Option.some.inj ((show Tryd.prog.funcNamed Rows.tableNilCard.stood.row.func = some 4 by kernel_rfl).symm.trans hf) |>.symm
      obtain rfl : fn = Tryd.f4 := (Option.some.inj (Tryd.func4.symm.trans hfn)).symm
      exact ⟨by kernel_rfl, fun j t ht => by
        rw [params] at ht
        have hm := Array.mem_of_getElem? ht
        simp only [List.mem_toArray, List.mem_cons, List.not_mem_nil, or_false] at hm
        rcases hm with rfl | rfl <;> exact (show Tryd.prog.wantsStandIn _ = false by kernel_rfl)⟩)
    (by kernel_rfl)
#print axioms proved
end Go.Proofs.YtlocgilgdnhnlaaDoor.TnC
