/- AwakePlays: joined. -/
import Derived.Test.YtknjnpagbpjlkaaAwPlays
import Derived.Test.YtknjnpagbpjlkaaLaw
import Derived.Test.YtknjnpagbpjlkaaOpn
import Derived.Lib.SmallJoins
namespace Go.Proofs.Ytknjnpagbpjlkaa.AwPlaysC
open Go.RowKit Go.Proofs.Ytknjnpagbpjlkaa.Q Go.Proofs.Ytknjnpagbpjlkaa.Mem Go.Proofs.Ytknjnpagbpjlkaa.AwA Go.Proofs.Ytknjnpagbpjlkaa.AwB Go.Proofs.Ytknjnpagbpjlkaa.AwC Go.Proofs.Ytknjnpagbpjlkaa.AwD Go.Proofs.Ytknjnpagbpjlkaa.AwE Go.Proofs.Ytknjnpagbpjlkaa.AwF Go.Proofs.Ytknjnpagbpjlkaa.AwR Go.Proofs.Ytknjnpagbpjlkaa.AwS Go.Proofs.Ytknjnpagbpjlkaa.AwT Go.Proofs.Ytknjnpagbpjlkaa.AwU Go.Proofs.Ytknjnpagbpjlkaa.AwV Go.Proofs.Ytknjnpagbpjlkaa.AwPlays Go.Proofs.Ytknjnpagbpjlkaa.Opn
open Go.ChangeShapes Go.WideShapes Go.ChangeAt Go.Joins


theorem few_nil (w : World) : Calls Try.prog 9 #[.slice none 0 0] w fun e w' => e = .returned (.bool true) ∧ w = w' := by
  go_enter Try.func9, Try.ntmps9
  go_wp2
  go_loop [3] (fun i => i = .int .i64 0) (fun _ => 0)
  case atStart => exact rfl
  case round =>
    obtain rfl := hrel
    go_wp2
    go_ret
    exact ⟨rfl, rfl⟩

set_option maxHeartbeats 1000000 in
theorem plays_no0 (u g b p : Int)
    (hu : -9223372036854775808 ≤ u ∧ u ≤ 9223372036854775807) (hg : -9223372036854775808 ≤ g ∧ g ≤ 9223372036854775807) (hb : -9223372036854775808 ≤ b ∧ b ≤ 9223372036854775807) (hp : -9223372036854775808 ≤ p ∧ p ≤ 9223372036854775807)
    (w : World) (hc : Aw.cfg u g b p = false) :
        Calls Try.prog 3 #[.agg #[.int .i64 u, .int .i64 g, .int .i64 b, .int .i64 p], .slice none 0 0] w fun e w' => e = .returned (.bool true) ∧ Below w.heap.size w w' := by
  have k0 := fun o => few_nil (w.alloc o)
  have k1 := lmay_any u g b p
  rw [hc] at k1
  have k2 := check_any u g b p
  rw [show cfgE u g b p = 23 by unfold cfgE; rw [hc]; rfl] at k2
  have k3 := fun w => new_no u g b p w hu hg hb hp hc
  clear hc
  go_enter Try.func3, Try.ntmps3
  go_wp2_with fail
  (with_reducible refine (k0 _).mono ?_); rintro e w1 ⟨rfl, rfl⟩
  clear k0
  go_wp2_with fail
  (with_reducible refine (k3 _).mono ?_); rintro e w1 ⟨rfl, b1⟩
  have hbx : w.heap.size < w1.heap.size := by have := b1.size; simp at this; omega
  have q1 : Blk w1 w.heap.size 23 #[.int .i64 u, .int .i64 g, .int .i64 b, .int .i64 p] := Blk.below (Blk.new w _ _) b1 (by simp)
  have hb1 : Below w.heap.size w w1 := (alloc_below (Below.refl _ _) _).trans (b1.mono (by simp))
  have d0 := Blk.cell q1 0 (v := .int .i64 u) rfl
  have d1 := Blk.cell q1 1 (v := .int .i64 g) rfl
  have d2 := Blk.cell q1 2 (v := .int .i64 b) rfl
  have d3 := Blk.cell q1 3 (v := .int .i64 p) rfl
  clear b1 q1
  go_wp2_with fail
  (with_reducible refine (k1 _).mono ?_); rintro e w2 ⟨rfl, rfl⟩
  go_wp2_with fail
  (with_reducible refine (k2 _ hu hg hb hp).mono ?_); rintro e w2 ⟨rfl, rfl⟩
  go_wp2_with fail
  (with_reducible refine (example_any _).mono ?_); rintro e w3 ⟨rfl, b3⟩
  go_wp2
  go_ret
  exact ⟨rfl, (alloc_below (alloc_below hb1 _) _).trans (b3.mono (by have := hb1.size; simp; omega))⟩

set_option maxRecDepth 100000 in
set_option maxHeartbeats 2000000 in
theorem plays_yes0 (u g b p : Int)
    (hu : -9223372036854775808 ≤ u ∧ u ≤ 9223372036854775807) (hg : -9223372036854775808 ≤ g ∧ g ≤ 9223372036854775807) (hb : -9223372036854775808 ≤ b ∧ b ≤ 9223372036854775807) (hp : -9223372036854775808 ≤ p ∧ p ≤ 9223372036854775807)
    (w : World) (hc : Aw.cfg u g b p = true) :
        Calls Try.prog 3 #[.agg #[.int .i64 u, .int .i64 g, .int .i64 b, .int .i64 p], .slice none 0 0] w fun e w' => e = .returned (.bool true) ∧ Below w.heap.size w w' := by
  have k0 := fun o => few_nil (w.alloc o)
  have k1 := lmay_any u g b p
  rw [hc] at k1
  have k2 := check_any u g b p
  rw [show cfgE u g b p = 0 by unfold cfgE; rw [hc]; rfl] at k2
  have k3 := fun w => new_ok u g b p w hu hg hb hp hc
  have hi := Aw.inv_start hc
  clear hc
  go_enter Try.func3, Try.ntmps3
  go_wp2_with fail
  (with_reducible refine (k0 _).mono ?_); rintro e w1 ⟨rfl, rfl⟩
  clear k0
  go_wp2_with fail
  (with_reducible refine (k3 _).mono ?_); rintro e w1 ⟨n, hn, rfl, hm, b1⟩
  have hn0 : w.heap.size < n := by simp at hn; omega
  have hbx : w.heap.size < w1.heap.size := by have := b1.size; simp at this; omega
  have q1 : Blk w1 w.heap.size 23 #[.int .i64 u, .int .i64 g, .int .i64 b, .int .i64 p] := Blk.below (Blk.new w _ _) b1 (by simp)
  have hb1 : Below w.heap.size w w1 := (alloc_below (Below.refl _ _) _).trans (b1.mono (by simp))
  have d0 := Blk.cell q1 0 (v := .int .i64 u) rfl
  have d1 := Blk.cell q1 1 (v := .int .i64 g) rfl
  have d2 := Blk.cell q1 2 (v := .int .i64 b) rfl
  have d3 := Blk.cell q1 3 (v := .int .i64 p) rfl
  clear b1 k3 hn
  go_wp2_with fail
  (with_reducible refine (k1 _).mono ?_); rintro e w2 ⟨rfl, rfl⟩
  clear k1
  go_wp2_with fail
  (with_reducible refine (of_any _ _ _ _ _).mono ?_); rintro e w3 ⟨r, hr, rfl, hd, b3⟩
  clear d0 d1 d2 d3
  have q3 := Blk.below (Blk.alloc q1 _) b3 (by simp; omega)
  have hm3 : At w3 n (Aw.start u g b p) := Blk.below (Blk.alloc hm _) b3 (by have := Blk.lt hm; simp; omega)
  have hn1 : n < w1.heap.size := Blk.lt hm
  have hnr : n ≠ r := by simp at hr; omega
  have hB3 : Both w w3 n r (Aw.start u g b p) := ⟨hm3, hd, hi, hnr, by omega, by have := hb1.size; simp at hr; omega, (alloc_below hb1 _).trans (b3.mono (by have := hb1.size; simp; omega))⟩
  clear b3 hm hm3 hd hb1 q1 hi
  have d0 := Blk.cell q3 0 (v := .int .i64 u) rfl
  have d1 := Blk.cell q3 1 (v := .int .i64 g) rfl
  have d2 := Blk.cell q3 2 (v := .int .i64 b) rfl
  have d3 := Blk.cell q3 3 (v := .int .i64 p) rfl
  go_wp2_with fail
  (with_reducible refine (k2 _ hu hg hb hp).mono ?_); rintro e w4 ⟨rfl, rfl⟩
  clear d0 d1 d2 d3 k2 hr hnr hn1 q3
  go_wp2_with fail
  have hB4 := fun o => hB3.alloc o
  (with_reducible refine (same_any (Aw.start u g b p) n r _ (hB4 _).a (hB4 _).d).mono ?_); rintro e w5 ⟨rfl, b5⟩
  have hB5 := (hB4 _).below b5
  clear hB4 hB3 b5
  go_wp2_with fail
  go_loop [8] (fun i => i = .int .i64 0) (fun _ => 0)
  case atStart => exact rfl
  case round =>
    obtain rfl := hrel
    go_wp2_with fail
    (with_reducible refine (example_any _).mono ?_); rintro e w6 ⟨rfl, b6⟩
    go_wp2
    go_ret
    exact ⟨rfl, hB5.b.trans (b6.mono hB5.b.size)⟩

theorem plays_any (u g b p : Int)
    (hu : -9223372036854775808 ≤ u ∧ u ≤ 9223372036854775807) (hg : -9223372036854775808 ≤ g ∧ g ≤ 9223372036854775807) (hb : -9223372036854775808 ≤ b ∧ b ≤ 9223372036854775807) (hp : -9223372036854775808 ≤ p ∧ p ≤ 9223372036854775807)
    (lb lo cap : Nat) (l : List OpD) (w : World) (hl : l.length ≤ 9223372036854775807) (hlt : lb < w.heap.size) (hx : Ops w lb lo l) :
        Calls Try.prog 3 #[.agg #[.int .i64 u, .int .i64 g, .int .i64 b, .int .i64 p], .slice (some ⟨lb, lo, none⟩) l.length cap] w fun e w' => e = .returned (.bool true) ∧ Below w.heap.size w w' := by
  by_cases hf : fewB l = true
  · by_cases hc : Aw.cfg u g b p = true
    · exact plays_yes u g b p hu hg hb hp lb lo cap l w hl hlt hx hf hc
    · exact plays_no u g b p hu hg hb hp lb lo cap l w hl hlt hx hf (by simpa using hc)
  · exact plays_few u g b p lb lo cap l w hl hlt hx (by simpa using hf)
theorem plays_nil (u g b p : Int)
    (hu : -9223372036854775808 ≤ u ∧ u ≤ 9223372036854775807) (hg : -9223372036854775808 ≤ g ∧ g ≤ 9223372036854775807) (hb : -9223372036854775808 ≤ b ∧ b ≤ 9223372036854775807) (hp : -9223372036854775808 ≤ p ∧ p ≤ 9223372036854775807)
    (w : World) :
        Calls Try.prog 3 #[.agg #[.int .i64 u, .int .i64 g, .int .i64 b, .int .i64 p], .slice none 0 0] w fun e w' => e = .returned (.bool true) ∧ Below w.heap.size w w' := by
  by_cases hc : Aw.cfg u g b p = true
  · exact plays_yes0 u g b p hu hg hb hp w hc
  · exact plays_no0 u g b p hu hg hb hp w (by simpa using hc)

section
variable {H : Type} {enc : TypeId × Value → H} {w : World} {base : Nat} {spare : Nat → Bool} {held : Bool}
theorem op_of {n : Nat} {cs : List Value} (hl : cs.length = 6) {x : DataW H × List MemPlace} (h : DataW.trod enc Try.prog w base spare held n 39 cs = some x) : ∃ o : OpD, cs = o.cells := by
  obtain ⟨ys, n', hn', hy, hlen, hyl, hf⟩ := DataW.trod_struct Try.underlying39 h
  match cs, hl, ys, hyl with
  | [c0, c1, c2, c3, c4, c5], _, [y0, y1, y2], _ =>
    have h0 := hf 0 _ rfl
    have h1 := hf 1 _ rfl
    have h2 := hf 2 _ rfl
    rw [show Try.prog.cellsOf _ = 1 by kernel_rfl] at h0 h1
    rw [show Try.prog.cellsOf _ = 4 by kernel_rfl] at h2
    obtain ⟨xs, k', _, _, _, hxl, hg⟩ := DataW.trod_struct Try.underlying37 h2
    match xs, hxl with
    | [z0, z1, z2, z3], _ =>
      have g0 := hg 0 _ rfl
      have g1 := hg 1 _ rfl
      have g2 := hg 2 _ rfl
      have g3 := hg 3 _ rfl
      rw [show Try.prog.cellsOf _ = 1 by kernel_rfl] at g0 g1 g2 g3
      obtain ⟨a0, e0, _, _⟩ := DataW.trod_int Try.underlying3 h0
      obtain ⟨a1, e1, _, _⟩ := DataW.trod_int Try.underlying3 h1
      obtain ⟨a2, e2, _, _⟩ := DataW.trod_int Try.underlying3 g0
      obtain ⟨a3, e3, _⟩ := DataW.trod_bool Try.underlying4 g1
      obtain ⟨a4, e4, _⟩ := DataW.trod_bool Try.underlying4 g2
      obtain ⟨a5, e5, _, _⟩ := DataW.trod_int Try.underlying3 g3
      simp at e0 e1 e2 e3 e4 e5
      exact ⟨⟨a0, a1, a2, a3, a4, a5⟩, by simp [OpD.cells, *]⟩

theorem ops_of {b o len cap : Nat} {d : DataW H} {p : List MemPlace} {t : TypeId} (ht : Try.prog.underlying t = some (.slice 39)) (h : DataW.Trod enc Try.prog w base spare held t (.slice (some ⟨b, o, none⟩) len cap) d p) :
    ∃ l : List OpD, l.length = len ∧ Ops w b o l := by
  have hC : Try.prog.cellsOf 39 = 6 := by kernel_rfl
  have he := elems ht h
  rw [hC] at he
  have hall : ∀ i : Fin len, ∃ x : OpD, ∀ j v, x.cells[j]? = some v → w.cell? ⟨b, o + i * 6 + j, none⟩ = some v := by
    intro i
    obtain ⟨cs, n, x, hcl, hcell, htr⟩ := he i i.isLt
    obtain ⟨y, rfl⟩ := op_of hcl htr
    exact ⟨y, hcell⟩
  obtain ⟨f, hf⟩ := Classical.axiomOfChoice hall
  refine ⟨List.ofFn f, List.length_ofFn, fun i x hi j v hv => ?_⟩
  rw [List.getElem?_ofFn] at hi
  split at hi
  · injection hi with hi
    subst hi
    exact hf ⟨i, by assumption⟩ j v hv
  · cases hi
end

theorem params : Try.f3.params = #[23, 24] := by kernel_rfl

theorem contract (H : Type) (enc : TypeId × Value → H) (W : World) (base : Nat) (args : Array Value) (ds : List (DataW H)) (p : List MemPlace)
    (hval : ∀ (j : Nat) t v, Try.f3.params[j]? = some t → args[j]? = some v → Value.okWide Try.prog W .any base t v)
    (hA : DataW.TrodAll enc Try.prog W 0 (fun _ => true) true Try.f3.params.toList args.toList ds p) :
    Calls Try.prog 3 args W fun e W' => e = .returned (.bool true) ∧ Below W.heap.size W W' := by
  rw [params] at hA hval
  obtain ⟨v0, vs0, d0, ds0, p0, q0, hargs, rfl, rfl, h0, r0⟩ := trodAll_cons hA
  obtain ⟨v1, vs1, d1, ds1, p1, q1, rfl, rfl, rfl, h1, r1⟩ := trodAll_cons r0
  obtain ⟨rfl, rfl, rfl⟩ := trodAll_nil r1
  obtain rfl : args = #[v0, v1] := by cases args; simp_all
  obtain ⟨c0, c1, c2, c3, y0, y1, y2, y3, m, rfl, rfl, rfl, hy0, hy1, hy2, hy3⟩ := open_agg4 Try.underlying23 (by kernel_rfl) (by kernel_rfl) (hval 0 23 v0 rfl rfl) h0
  obtain ⟨x0, e0, rfl, f0⟩ := DataW.trod_int Try.underlying3 hy0
  obtain ⟨x1, e1, rfl, f1⟩ := DataW.trod_int Try.underlying3 hy1
  obtain ⟨x2, e2, rfl, f2⟩ := DataW.trod_int Try.underlying3 hy2
  obtain ⟨x3, e3, rfl, f3⟩ := DataW.trod_int Try.underlying3 hy3
  simp at e0 e1 e2 e3
  subst e0 e1 e2 e3
  have b0 := bounds_i64 f0
  have b1 := bounds_i64 f1
  have b2 := bounds_i64 f2
  have b3 := bounds_i64 f3
  rcases slice_ok Try.underlying24 (hval 1 24 v1 rfl rfl) with rfl | ⟨b, o, len, cap, rfl, hb, hlc, hcap⟩
  · exact plays_nil _ _ _ _ b0 b1 b2 b3 W
  · obtain ⟨l, rfl, hops⟩ := ops_of Try.underlying24 h1
    exact plays_any _ _ _ _ b0 b1 b2 b3 b o cap l W (by omega) hb hops

set_option maxRecDepth 100000 in
theorem proved : Rows.AwakePlaysSaid :=
  OpenClaim.holds_of_wide 3 Try.f3 rfl rfl rfl rfl rfl rfl rfl ⟨rfl, rfl, rfl, rfl, rfl⟩ rfl rfl rfl rfl rfl (by kernel_rfl) Try.func3 (by kernel_rfl)
    (of_decide_eq_true (by kernel_rfl)) (by unfold Func.isWrapper; first | (rw [if_pos (by decide +kernel)]; kernel_rfl) | (rw [if_neg (by decide +kernel)]; exact ⟨rfl, rfl⟩))
    (fun os started H enc _ => Law.lifted (f := 3) (fn := Try.f3) (s := Rows.awakePlaysSpec) rfl (by kernel_rfl) Try.func3 rfl (B := 4) (by kernel_rfl) Try.underlying4
      (by rw [params]; intro t ht; simp at ht; rcases ht with rfl | rfl <;> exact ⟨by kernel_rfl, of_decide_eq_true (by kernel_rfl)⟩)
      (by rw [params]; intro H xs hx; match xs, hx with | [_, _], _ => rfl)
      (fun H enc W base args ds p hval hA _ => contract H enc W base args ds p hval hA) os started H enc
      (ChangeSpec.witness6 (enc := enc) (C := Try.checked) false ⟨#[], #[.agg #[.int .i64 0, .int .i64 0, .int .i64 0, .int .i64 0], .slice none 0 0], []⟩ 8 (by kernel_rfl) (by kernel_rfl) (by kernel_rfl) (by kernel_rfl)))
#print axioms proved
end Go.Proofs.Ytknjnpagbpjlkaa.AwPlaysC
