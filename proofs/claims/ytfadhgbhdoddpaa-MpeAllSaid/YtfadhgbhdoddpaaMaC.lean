/- MpeAll: the walk. -/
import Derived.Test.YtfadhgbhdoddpaaMaB
import Derived.Test.YtfadhgbhdoddpaaMpV
import Derived.Test.YtfadhgbhdoddpaaRfB
import Derived.Stop.RegionWithIn
import Derived.Sort.AtCallIn
namespace Go.Proofs.Ytfadhgbhdoddpaa.MaC
open Go Go.RowKit Go.Shelf Go.Proofs.Ytfadhgbhdoddpaa.Q Go.Proofs.Ytfadhgbhdoddpaa.Mem Go.Proofs.Ytfadhgbhdoddpaa.Rg Go.Proofs.Ytfadhgbhdoddpaa.Ap Go.Proofs.Ytfadhgbhdoddpaa.St Go.Proofs.Ytfadhgbhdoddpaa.Rf Go.Proofs.Ytfadhgbhdoddpaa.RfB Go.Proofs.Ytfadhgbhdoddpaa.CrB Go.Proofs.Ytfadhgbhdoddpaa.MpA Go.Proofs.Ytfadhgbhdoddpaa.MpC Go.Proofs.Ytfadhgbhdoddpaa.MpR Go.Proofs.Ytfadhgbhdoddpaa.MpT Go.Proofs.Ytfadhgbhdoddpaa.MpV Go.Proofs.Ytfadhgbhdoddpaa.MpW Go.Proofs.Ytfadhgbhdoddpaa.MaA Go.Proofs.Ytfadhgbhdoddpaa.MaB
attribute [local go_sem] Oper.semAt_some

theorem wpIn_gen {F : Fence} {n : Nat} {P : Program} {c : Code} {Q : Exit → Act → World → Prop} {a : Act} {w : World} (G : World → Prop) (h0 : G w) (h : ∀ W, G W → c.wpIn F n P Q a W) : c.wpIn F n P Q a w := h w h0
theorem run_equalIn_func_nil {P : Program} (w : World) (d : Nat) (t : TypeId) {ps rs : Array TypeId} {vr : Bool} (f : Fn) (ts cap : Array Value) (h : P.underlying t = some (.func ps rs vr)) : (Op.equalIn (d + 1) t (.func f ts cap) .nilFunc).run P w = .ok false w := by
  simp [Op.equalIn, run_underlying h]
theorem run_func_nil {P : Program} (w : World) (t : TypeId) {ps rs : Array TypeId} {vr : Bool} (f : Fn) (ts cap : Array Value) (h : P.underlying t = some (.func ps rs vr)) : (binOp .eql t (.func f ts cap) .nilFunc).run P w = .ok (.bool false) w := by
  have h1 : (Op.equal t (.func f ts cap) .nilFunc).run P w = .ok false w := run_equalIn_func_nil w 9999 t f ts cap h
  simp only [binOp]
  simp [h1]
/-- the boxes of the law, j being what the place's box holds -/
structure Bx (w W : World) (a : Option Addr) (n c j : Nat) : Prop where
  be : Below w.heap.size w W
  b0 : Boxed W w.heap.size 48 (.slice a n c)
  b1 : Boxed W (w.heap.size + 1) 4 (.bool false)
  b3 : Boxed W (w.heap.size + 1 + 1 + 1) 3 (.int .i64 (j : Int))
theorem Bx.grow {w W W' : World} {a : Option Addr} {n c j : Nat} (h : Bx w W a n c j) {row : Option Nat} (hg : W.grownBy W' row) (hr : ∀ r, row = some r → r = w.heap.size + 2 ∨ w.heap.size + 4 ≤ r) : Bx w W' a n c j :=
  ⟨h.be.trans (below_of_only hg h.be.size (fun k hk => by have := hr k hk; omega)), h.b0.kept hg (fun e => by have := hr _ e.symm; omega), h.b1.kept hg (fun e => by have := hr _ e.symm; omega), h.b3.kept hg (fun e => by have := hr _ e.symm; omega)⟩
theorem Bx.below {w W W' : World} {a : Option Addr} {n c j : Nat} (h : Bx w W a n c j) (hb : Below W.heap.size W W') : Bx w W' a n c j := h.grow (only_of_below hb none) (fun _ e => by cases e)
theorem Bx.put {w W : World} {a : Option Addr} {n c j : Nat} (h : Bx w W a n c j) (j' : Nat) : Bx w (W.setCell ⟨w.heap.size + 1 + 1 + 1, 0, none⟩ (.int .i64 (j' : Int))) a n c j' :=
  ⟨h.be.setCell (p := ⟨w.heap.size + 1 + 1 + 1, 0, none⟩) (by show w.heap.size ≤ w.heap.size + 1 + 1 + 1; omega) _, h.b0.kept (grownBy_setCell' W (w.heap.size + 1 + 1 + 1) _) (by simp; omega), h.b1.kept (grownBy_setCell' W (w.heap.size + 1 + 1 + 1) _) (by simp), h.b3.set _⟩
/-- what holds ahead of a round -/
def It (w : World) (a : Option Addr) (n c : Nat) (L : List ByteArray) (k : Nat) (W : World) : Prop := ∃ j, j ≤ n ∧ cnt L j = k ∧ Bx w W a n c j
/-- what holds where a round's body begins -/
def Asg (w : World) (a : Option Addr) (n c : Nat) (L : List ByteArray) (k : Nat) (a' : Act) (W : World) : Prop := ∃ gx : Nat, a' = { tmps := #[.slice a n c, .pointer (some ⟨w.heap.size, 0, none⟩), .pointer (some ⟨w.heap.size + 1, 0, none⟩), .func (.func 34) #[] #[.pointer (some ⟨w.heap.size + 1 + 1, 0, none⟩)], .pointer (some ⟨w.heap.size + 1 + 1 + 1, 0, none⟩), .int .i64 (idx L k : Int), .pointer (some ⟨gx, 0, none⟩), undef, undef, undef, undef, undef, undef, .slice a n c, .bool true, .bool false, undef, .slice a n c, .func (.func 34) #[] #[.pointer (some ⟨w.heap.size + 1 + 1, 0, none⟩)], .func (.func 34) #[] #[.pointer (some ⟨w.heap.size + 1 + 1, 0, none⟩)], .bool false, .func (.func 34) #[] #[.pointer (some ⟨w.heap.size + 1 + 1, 0, none⟩)], .int .i64 (idx L k : Int), .agg (mdP (el L (idx L k))).vals, undef, undef, undef, undef, undef, undef, undef, undef, undef, undef, undef, undef, undef, undef, undef, undef, undef, undef, undef, undef, undef, undef, undef, undef, undef, undef, undef, undef, undef, undef, undef, undef, undef, undef, undef, undef, undef, undef, undef, undef, undef, undef, undef, undef, undef, undef, undef, undef, undef, undef, undef, undef, undef, undef, undef, undef], defers := [] } ∧ It w a n c L k W ∧ Blk W gx 25 (mdP (el L (idx L k))).vals ∧ w.heap.size + 6 ≤ gx
set_option maxRecDepth 100000 in
set_option maxHeartbeats 2000000 in
theorem law_in (a : Option Addr) (n c : Nat) (L : List ByteArray) (w : World) (hn : L.length = n) (hl : n ≤ 9223372036854775807) (hL : Seq enS 1 w a L) :
    CallsIn Fence.wide 9 Try.prog 9 #[.slice a n c] w fun e w' => e = .returned (.bool true) ∧ Below w.heap.size w w' := by
  have HL := Lib.hid hL
  have hnf := fun V cap => run_func_nil (P := Try.prog) V 51 (.func 34) #[] cap Try.underlying51
  have kf := fun V (h : Seq enS 1 V a L) => few_any a n c L V hn hl h
  have kaw := fun V => awake_any V
  have HB := Lib.hid (bk2 w 48 4 #[.slice a n c] #[.bool false])
  have hL2 := hL.below (Nat.le_refl _) HB.out.be
  clear hL
  refine callsIn_of_wp_marks Try.func9 rfl trivial ?_ rfl
  simp only [Try.ntmps9, List.size_toArray, List.length_cons, List.length_nil, Nat.reduceAdd, Nat.reduceSub, Array.replicate_succ, Array.replicate_zero, List.push_toArray, List.append_toArray, List.nil_append, List.cons_append]
  gi_wp2
  refine ⟨trivial, ?_⟩
  refine (callsIn_wide.2 (kf _ hL2)).mono ?_
  rintro e w' ⟨rfl, rfl⟩
  by_cases hf : fewL L = true
  · rw [hf]
    clear kf
    gi_wp2
    refine ⟨trivial, ?_⟩
    refine (callsIn_wide.2 (alls_any _ _ _ _)).mono ?_
    rintro e w' ⟨rfl, rfl⟩
    gi_wp2
    have hn20 : n ≤ 20 := by
      unfold fewL at hf
      rw [Bool.and_eq_true, decide_eq_true_eq] at hf
      omega
    have hs5 : ∀ s ∈ L, s.size ≤ 5000 := fun s hs => by
      unfold fewL at hf
      rw [Bool.and_eq_true, List.all_eq_true] at hf
      simpa using hf.1 s hs
    refine wpIn_gen (fun W => Bx w W a n c 0 ∧ Boxed W (w.heap.size + 1 + 1) 48 (.slice a n c) ∧ W.heap.size = w.heap.size + 4) ⟨?_, ?_, ?_⟩ ?_
    · have H4 := ((HB.out.newAt (w.heap.size + 1 + 1) 48 #[.slice a n c] (by simp)).newAt (w.heap.size + 1 + 1 + 1) 3 #[.int .i64 0] (by simp))
      exact ⟨H4.be, H4.nth 3 rfl, H4.nth 2 rfl, H4.nth 0 rfl⟩
    · have H4 := ((HB.out.newAt (w.heap.size + 1 + 1) 48 #[.slice a n c] (by simp)).newAt (w.heap.size + 1 + 1 + 1) 3 #[.int .i64 0] (by simp))
      exact H4.nth 1 rfl
    · simp
    rintro W0 ⟨hX, hX2, hsz⟩
    have HX := Lib.hid hX
    have HLW := Lib.hid (HL.out.below (Nat.le_refl _) hX.be)
    have hlim : 0 < n → ∀ b o, a = some ⟨b, o, none⟩ → b < w.heap.size := fun h0 b o e => by
      obtain ⟨s, hs⟩ : ∃ s, L[0]? = some s := ⟨_, List.getElem?_eq_getElem (by omega)⟩
      obtain ⟨b', o', e', hb', _⟩ := HL.out 0 s hs
      rw [e] at e'
      injection e' with e'
      injection e' with e1
      omega
    clear hX hL2 HB
    refine range_box_new rfl (by omega) (gf := 34) (lb := #[.pointer (some ⟨w.heap.size + 1 + 1, 0, none⟩)]) rfl trivial (enters_of Try.func34 (by kernel_rfl) rfl)
      (encs := fun k => #[.int .i64 (idx L k : Int), .agg (mdP (el L (idx L k))).vals]) (Kp := fun A B => Below w.heap.size A B) (N := cnt L n) (X := w.heap.size + 1 + 1) (by omega)
      ?seq (fun h k => h.trans k) (fun W o => ?keepput) (fun _ => rfl) (It w a n c L) ?calm ?put ⟨0, by omega, rfl, HX.out⟩ (Asg w a n c L) ?asgput (fun A W' h hg => below_of_only hg (by omega) (fun _ e => by cases e)) ?assign ?body ?done
    case seq =>
      intro l J W hW hJ hY h0
      exact all_in 8 (by omega) l (w.heap.size + 1 + 1) n c w.heap.size a L hn hn20 hs5 J (fun k A B hj hb => hJ k A B none hj (only_of_below hb none) (fun _ e => by cases e)) hY W
        ((hW.block _ (by omega)).trans hX2) (HLW.out.below (Nat.le_refl _) hW) hlim (by have := hW.size; omega) h0
    case keepput =>
      have g := grownBy_putObj' W (W0.heap.size + 1) o
      exact ⟨g.os, g.tape, g.output, g.size, fun k hk => World.putObj_heap_other (by omega)⟩
    case calm =>
      rintro k A B row ⟨j, h1, h2, hb⟩ hg hr
      exact ⟨j, h1, h2, hb.grow hg (fun r e => Or.inl (hr r e))⟩
    case put =>
      rintro k A o ⟨j, h1, h2, hb⟩
      exact ⟨j, h1, h2, hb.grow (grownBy_putObj' A _ o) (fun r e => by injection e with e; omega)⟩
    case asgput =>
      rintro k a' A o ⟨gx, e, ⟨j, h1, h2, hb⟩, hbl, hgx⟩
      exact ⟨gx, e, ⟨j, h1, h2, hb.grow (grownBy_putObj' A _ o) (fun r e => by injection e with e; omega)⟩, Blk.grown hbl (grownBy_putObj' A _ o) (by simp; omega), hgx⟩
    case assign =>
      rintro l k W K ⟨j, h1, h2, hb⟩ hk hW2 hK
      have hK2 := hK
      unfold Asg Mp.vals at hK
      unfold Mp.vals
      have HK := Lib.hid hK
      clear hK hK2
      gi_wp2
      exact HK.out _ _ (World.grownBy_alloc W _ none) ⟨W.heap.size, rfl, ⟨j, h1, h2, hb.grow (World.grownBy_alloc W _ none) (fun _ e => by cases e)⟩, Blk.new _ _ _, by omega⟩
    case body =>
      rintro l k a' W ⟨gx, rfl, ⟨j, hj, hcj, hbx⟩, hbl, hgx⟩ hk ⟨o0, ho0, hc0⟩ ⟨o1, ho1, hc1⟩
      obtain ⟨hi1, hi2, hi3⟩ := idx_spec (L := L) (k := k) (by rw [hn]; exact hk)
      obtain ⟨i, hi⟩ : ∃ i, idx L k = i := ⟨_, rfl⟩
      rw [hi] at hi1 hi2 hi3 hbl ⊢
      have hji : j ≤ i := by
        rcases Nat.lt_or_ge i j with h | h
        · have := cnt_lt L h hi2; omega
        · exact h
      obtain ⟨s, hsi⟩ : ∃ s, L[i]? = some s := ⟨_, List.getElem?_eq_getElem hi1⟩
      have hels := el_of hsi
      rw [hels] at hbl ⊢
      have hEs : mdE s = 0 := by
        have := good_at hsi
        rw [hi2] at this
        exact of_decide_eq_true this.symm
      rw [hn] at hi1
      have hin : (i : Int) < (n : Int) := by omega
      have hn20' : (n : Int) ≤ 20 := by omega
      have tin : decide ((n : Int) ≤ (i : Int)) = false := by simp; omega
      have kdd := fun (s : ByteArray) (hs : s.size ≤ 5000) V => rmdec_any s V (by omega)
      obtain ⟨D, hD⟩ : ∃ D, W0.heap.size = D := ⟨_, rfl⟩
      rw [hD] at ho0 ho1 hsz ⊢
      have hs0 := (Array.getElem?_eq_some_iff.1 ho0).1
      have hs1 := (Array.getElem?_eq_some_iff.1 ho1).1
      unfold Mp.vals
      unfold Mp.vals at hbl
      have HLS := Lib.hid (And.intro hsi hEs)
      have HS5 := Lib.hid hs5
      have HX9 := Lib.hid hbx.be
      clear HX hels hi hi2 hi1 hs5 hsi hEs HLW hlim hX2
      gi_wp2
      gi_loopg [] (i - j) (fun g wr => ∃ q, q + g = i ∧ cnt L q = k ∧ Bx w wr a n c q ∧ wr.heap[D]? = W.heap[D]? ∧ wr.heap[D + 1]? = W.heap[D + 1]? ∧ Blk wr gx 25 #[.int .i64 (mdP s).mac, .int .i64 (mdP s).times.delta, .bool (mdP s).times.table, .bool (mdP s).times.frame, .int .i64 (mdP s).times.at_, .string (mdP s).text] ∧ W.heap.size ≤ wr.heap.size)
      case atStart => exact ⟨j, by omega, hcj, hbx, rfl, rfl, hbl, Nat.le_refl _⟩
      case round =>
        obtain ⟨q, hq, hcq, hbq, hz0, hz1, hbl2, hsw⟩ := hrel
        have hqn : q < n := by omega
        have t0 : decide ((q : Int) < (n : Int)) = true := by simp; omega
        obtain ⟨u, hu⟩ : ∃ u, L[q]? = some u := ⟨_, List.getElem?_eq_getElem (by omega)⟩
        obtain ⟨b0, o0', rfl, hlt, hc⟩ := (HL.out.below (Nat.le_refl _) hbq.be) q u hu
        have c0 : wr.cell? ⟨b0, o0' + q, none⟩ = some (.string u) := hc 0 _ rfl
        have k0 : (0 : Int) ≤ (q : Int) := Int.natCast_nonneg _
        have k1 : (q : Int) < (n : Int) := by omega
        have kd := fun V => kdd u (HS5.out u (List.mem_of_getElem? hu)) V
        have d0 := hbq.b0.cell
        have d3 := hbq.b3.cell
        have f3 := hbq.b3.frozen
        have hgu := good_at hu
        have hcs : cnt L (q + 1) = cnt L q + if good L q then 1 else 0 := rfl
        obtain ⟨E, hE⟩ : ∃ E, mdE u = E := ⟨_, rfl⟩
        rw [hE] at kd hgu
        obtain ⟨Q, hQ⟩ : ∃ Q, mdP u = Q := ⟨_, rfl⟩
        rw [hQ] at kd
        have HG := Lib.hid (And.intro hgu hcs)
        have HEQ := Lib.hid (And.intro hE hQ)
        clear hc hgu hcs hE hQ
        gi_wp2
        refine ⟨trivial, ?_⟩
        refine ((callsIn_wide.2 (kd _)).inRound _).mono ?_
        rintro e W2 ⟨rfl, hb2⟩
        have hV := hb2.alloc hb2.size (.cells Q.vals 32)
        obtain ⟨V, hVe⟩ : ∃ V, W2.alloc (.cells Q.vals 32) = V := ⟨_, rfl⟩
        rw [hVe] at hV
        have hbv := hbq.below hV
        have hDw : D + 1 < wr.heap.size := (Array.getElem?_eq_some_iff.1 (hz1.trans ho1)).1
        have hv0 := (hV.block D (by omega)).trans hz0
        have hv1 := (hV.block (D + 1) hDw).trans hz1
        have hbl3 := Blk.below hbl2 hV hbl2.lt
        have e0 := hbv.b0.cell
        have e3 := hbv.b3.cell
        have g3 := hbv.b3.frozen
        have HV := Lib.hid (And.intro hbv (And.intro hv0 (And.intro hv1 hbl3)))
        have hsV := hbv.be.size
        have hsV2 := Nat.le_trans hsw hV.size
        unfold Mp.vals at *
        clear hbv hv0 hv1 hbl3 hV hb2 hbq hz0 hz1 hbl2 hsw d0 d3 f3 c0 hDw hlt
        rcases Nat.eq_zero_or_pos gk with h0 | h0
        · subst h0
          obtain rfl : q = i := by omega
          obtain ⟨hsi, hEs⟩ := HLS.out
          obtain rfl : u = s := by rw [hu] at hsi; injection hsi
          obtain ⟨h1, h2⟩ := HEQ.out
          obtain rfl : 0 = E := by rw [← h1, hEs]
          rw [h2] at HV ⊢
          have hcs := HG.out.2
          rw [HG.out.1, decide_eq_true rfl, if_pos rfl] at hcs
          have HCS := Lib.hid hcs
          obtain ⟨b1', o1', hab, hlt', hc'⟩ := (HL.out.below (Nat.le_refl _) HV.out.1.be) q u hu
          injection hab with hab
          injection hab with hb01 ho01 _
          subst hb01 ho01
          have c0 : V.cell? ⟨b0, o0' + q, none⟩ = some (.string u) := hc' 0 _ rfl
          clear h1 hEs hsi hcs hc' hlt' HEQ HLS
          gi_wp2
          refine ⟨trivial, ?_⟩
          refine ((callsIn_wide.2 (kd _)).inRound _).mono ?_
          rintro e W4 ⟨rfl, hb4⟩
          have hV5 := hb4.alloc hb4.size (.cells #[.int .i64 Q.mac, .int .i64 Q.times.delta, .bool Q.times.table, .bool Q.times.frame, .int .i64 Q.times.at_, .string Q.text] 32)
          obtain ⟨V5, hV5e⟩ : ∃ V5, W4.alloc (.cells #[.int .i64 Q.mac, .int .i64 Q.times.delta, .bool Q.times.table, .bool Q.times.frame, .int .i64 Q.times.at_, .string Q.text] 32) = V5 := ⟨_, rfl⟩
          have hTR : Blk V5 W4.heap.size 32 #[.int .i64 Q.mac, .int .i64 Q.times.delta, .bool Q.times.table, .bool Q.times.frame, .int .i64 Q.times.at_, .string Q.text] := by rw [← hV5e]; exact Blk.new _ _ _
          rw [hV5e] at hV5
          have hsV3 := Nat.le_trans hsV2 hV5.size
          obtain ⟨hbv, hv0, hv1, hbl3⟩ := HV.out
          have hDw : D + 1 < V.heap.size := (Array.getElem?_eq_some_iff.1 (hv1.trans ho1)).1
          have HV5 := Lib.hid (And.intro (hbv.below hV5) (And.intro ((hV5.block D (by omega)).trans hv0) (And.intro ((hV5.block (D + 1) hDw).trans hv1) (And.intro (Blk.below hbl3 hV5 hbl3.lt) hTR))))
          have kp := fun V => mplain_any Q V
          have heq := fun V => eqTRP Q Q V
          rw [decide_eq_true rfl] at heq
          unfold Mp.vals at kp heq
          clear hbv hv0 hv1 hbl3 hDw hTR HV hb4 hV5 e0 e3 g3 c0 kd hu
          have HD := Blk.drew HV5.out.2.2.2.1
          have HT := Blk.drew HV5.out.2.2.2.2
          have c0 := Blk.cell (HD) 0 (v := .int .i64 Q.mac) rfl
          have c1 := Blk.cell (HD) 1 (v := .int .i64 Q.times.delta) rfl
          have c2 := Blk.cell (HD) 2 (v := .bool Q.times.table) rfl
          have c3 := Blk.cell (HD) 3 (v := .bool Q.times.frame) rfl
          have c4 := Blk.cell (HD) 4 (v := .int .i64 Q.times.at_) rfl
          have c5 := Blk.cell (HD) 5 (v := .string Q.text) rfl
          have y0 := Blk.cell (HT) 0 (v := .int .i64 Q.mac) rfl
          have y1 := Blk.cell (HT) 1 (v := .int .i64 Q.times.delta) rfl
          have y2 := Blk.cell (HT) 2 (v := .bool Q.times.table) rfl
          have y3 := Blk.cell (HT) 3 (v := .bool Q.times.frame) rfl
          have y4 := Blk.cell (HT) 4 (v := .int .i64 Q.times.at_) rfl
          have y5 := Blk.cell (HT) 5 (v := .string Q.text) rfl
          gi_wp2
          gi_region_with (refine ⟨trivial, ?_⟩; refine ((callsIn_wide.2 (kp _)).inRound _).mono ?_; rintro e w' ⟨rfl, hb9⟩; have HT9 := Blk.below HT hb9 (Blk.lt HT); have z0 := Blk.cell HT9 0 (v := .int .i64 Q.mac) rfl; have z1 := Blk.cell HT9 1 (v := .int .i64 Q.times.delta) rfl; have z2 := Blk.cell HT9 2 (v := .bool Q.times.table) rfl; have z3 := Blk.cell HT9 3 (v := .bool Q.times.frame) rfl; have z4 := Blk.cell HT9 4 (v := .int .i64 Q.times.at_) rfl; have z5 := Blk.cell HT9 5 (v := .string Q.text) rfl)
          all_goals
            have hbE := (below_drewN (Below.refl V5.heap.size V5) 1).trans hb9
            obtain ⟨hbv, hv0, hv1, hbl3, hTR⟩ := HV5.out
            have hDw : D + 1 < V5.heap.size := (Array.getElem?_eq_some_iff.1 (hv1.trans ho1)).1
            have HW := Lib.hid (And.intro (hbv.below hbE) (And.intro ((hbE.block D (by omega)).trans hv0) ((hbE.block (D + 1) hDw).trans hv1)))
            have hbx9 := hbv.below hbE
            have hsV4 := Nat.le_trans hsV3 hbE.size
            have e0 := hbx9.b0.cell
            have e3 := hbx9.b3.cell
            have g3 := hbx9.b3.frozen
            clear hbv hv0 hv1 hbl3 hTR hDw hbx9 hbE hb9 HV5 HT HD
            gi_wp2
            have HP := HW.out.1.put (q + 1)
            rw [show ((q + 1 : Nat) : Int) = (q : Int) + 1 by omega] at HP
            have hbe := HX9.out
            refine ⟨⟨HP.be.os.trans hbe.os.symm, HP.be.tape.trans hbe.tape.symm, HP.be.output.trans hbe.output.symm, ?_, fun x hx => (HP.be.block x hx).trans (hbe.block x hx).symm⟩, ?_, ?_, q + 1, by omega, HCS.out.trans (by rw [hcq]), HP⟩
            · simpa using hsV4
            · exact (Below.heap_setCell w' ⟨w.heap.size + 1 + 1 + 1, 0, none⟩ (.int .i64 ((q : Int) + 1)) D (by show D ≠ w.heap.size + 1 + 1 + 1; omega)).trans HW.out.2.1
            · exact (Below.heap_setCell w' ⟨w.heap.size + 1 + 1 + 1, 0, none⟩ (.int .i64 ((q : Int) + 1)) (D + 1) (by show D + 1 ≠ w.heap.size + 1 + 1 + 1; omega)).trans HW.out.2.2
        · obtain ⟨m, rfl⟩ : ∃ m, gk = m + 1 := ⟨gk - 1, by omega⟩
          have hng : good L q = false := by
            cases h : good L q with
            | false => rfl
            | true =>
              exfalso
              have := cnt_lt L (show q < i by omega) h
              omega
          have hE0 : E ≠ 0 := fun h => by
            have := HG.out.1
            rw [hng, decide_eq_true h] at this
            cases this
          have t1 : (E == 0) = false := by simpa using hE0
          have HCS := Lib.hid (show cnt L (q + 1) = k by rw [HG.out.2, hng]; simpa using hcq)
          obtain ⟨hbv, hv0, hv1, hbl3⟩ := HV.out
          have HP := Lib.hid (hbv.put (q + 1))
          have HZ := Lib.hid (And.intro ((Below.heap_setCell V ⟨w.heap.size + 1 + 1 + 1, 0, none⟩ (.int .i64 ((q + 1 : Nat) : Int)) D (by show D ≠ w.heap.size + 1 + 1 + 1; omega)).trans hv0)
            (And.intro ((Below.heap_setCell V ⟨w.heap.size + 1 + 1 + 1, 0, none⟩ (.int .i64 ((q + 1 : Nat) : Int)) (D + 1) (by show D + 1 ≠ w.heap.size + 1 + 1 + 1; omega)).trans hv1)
              (Blk.far hbl3 (p := ⟨w.heap.size + 1 + 1 + 1, 0, none⟩) (by show gx ≠ w.heap.size + 1 + 1 + 1; omega) (.int .i64 ((q + 1 : Nat) : Int)))))
          rw [show ((q + 1 : Nat) : Int) = (q : Int) + 1 by omega] at HP HZ
          clear hbv hv0 hv1 hbl3 hng hE0 HG HV HEQ kd hu
          gi_wp2
          gi_roundg m
          case measure => omega
          case rel => exact ⟨q + 1, by omega, HCS.out, HP.out, HZ.out.1, HZ.out.2.1, HZ.out.2.2, Nat.le_trans hsV2 (by simp)⟩
    case done =>
      rintro W ⟨j, hj, hcj, hbx⟩ hD
      have HS5 := Lib.hid hs5
      have kdd := fun (s : ByteArray) (hs : s.size ≤ 5000) V => rmdec_any s V (by omega)
      rw [hsz] at hD ⊢
      clear hsz HX HLW hlim hX2 hs5
      gi_wp2
      gi_loopg [] (n - j) (fun g wr => ∃ q, q + g = n ∧ cnt L q = cnt L n ∧ Bx w wr a n c q ∧ wr.heap[w.heap.size + 4]? = W.heap[w.heap.size + 4]?)
      case atStart => exact ⟨j, by omega, hcj, hbx, rfl⟩
      case round =>
        obtain ⟨q, hq, hcq, hbq, hz0⟩ := hrel
        have d0 := hbq.b0.cell
        have d3 := hbq.b3.cell
        have f3 := hbq.b3.frozen
        rcases Nat.eq_zero_or_pos gk with h0 | h0
        · subst h0
          obtain rfl : q = n := by omega
          have t0 : decide ((q : Int) < (q : Int)) = false := by simp
          gi_wp2
          refine ⟨trivial, ?_⟩
          refine (callsIn_wide.2 (kaw _)).mono ?_
          rintro e w' ⟨rfl, hb⟩
          have hB1 := hbq.below hb
          have d1 := hB1.b1.cell
          have f1 := hB1.b1.frozen
          have hE := hB1.be.setCell (p := ⟨w.heap.size + 1, 0, none⟩) (Nat.le_succ _) (.bool true)
          have HB2 := Lib.hid (hB1.b1.set (.bool true))
          have hDq : w.heap.size + 4 < wr.heap.size := by
            have := hz0.trans hD
            exact (Array.getElem?_eq_some_iff.1 this).1
          have hD' := (Below.heap_setCell w' ⟨w.heap.size + 1, 0, none⟩ (.bool true) (w.heap.size + 4) (by show w.heap.size + 4 ≠ w.heap.size + 1; omega)).trans ((hb.block _ hDq).trans (hz0.trans hD))
          clear hb hB1 hbq hz0 hD
          gi_wp2
          refine ⟨by simp, .inl ⟨_, _, rfl, run_takeDeferred hD', ?_⟩⟩
          have hg := grownBy_putObj' (w'.setCell ⟨w.heap.size + 1, 0, none⟩ (.bool true)) (w.heap.size + 4) (.deferred none)
          have d2 := (HB2.out.kept hg (by simp)).cell
          refine ⟨_, by simp [results, Try.results9, go_sem, d2], rfl, hE.trans (below_of_only hg hE.size (fun k hk => by injection hk with hk; omega))⟩
        · obtain ⟨m, rfl⟩ : ∃ m, gk = m + 1 := ⟨gk - 1, by omega⟩
          have hqn : q < n := by omega
          have t0 : decide ((q : Int) < (n : Int)) = true := by simp; omega
          obtain ⟨u, hu⟩ : ∃ u, L[q]? = some u := ⟨_, List.getElem?_eq_getElem (by omega)⟩
          obtain ⟨b0, o0', rfl, hlt, hc⟩ := (HL.out.below (Nat.le_refl _) hbq.be) q u hu
          have c0 : wr.cell? ⟨b0, o0' + q, none⟩ = some (.string u) := hc 0 _ rfl
          have k0 : (0 : Int) ≤ (q : Int) := Int.natCast_nonneg _
          have k1 : (q : Int) < (n : Int) := by omega
          have kd := fun V => kdd u (HS5.out u (List.mem_of_getElem? hu)) V
          have hgu := good_at hu
          have hcs : cnt L (q + 1) = cnt L q + if good L q then 1 else 0 := rfl
          have hng : good L q = false := by
            cases h : good L q with
            | false => rfl
            | true =>
              exfalso
              have := cnt_lt L hqn h
              omega
          obtain ⟨E, hE⟩ : ∃ E, mdE u = E := ⟨_, rfl⟩
          rw [hE] at kd hgu
          obtain ⟨Q, hQ⟩ : ∃ Q, mdP u = Q := ⟨_, rfl⟩
          rw [hQ] at kd
          have hE0 : E ≠ 0 := fun h => by
            rw [hng, decide_eq_true h] at hgu
            cases hgu
          have t1 : (E == 0) = false := by simpa using hE0
          have HCS := Lib.hid (show cnt L (q + 1) = cnt L n by rw [hcs, hng]; simpa using hcq)
          clear hc hcs hgu hE hQ hng hE0
          gi_wp2
          refine ⟨trivial, ?_⟩
          refine (callsIn_wide.2 (kd _)).mono ?_
          rintro e W2 ⟨rfl, hb2⟩
          have hV := hb2.alloc hb2.size (.cells Q.vals 32)
          obtain ⟨V, hVe⟩ : ∃ V, W2.alloc (.cells Q.vals 32) = V := ⟨_, rfl⟩
          rw [hVe] at hV
          have hbv := hbq.below hV
          have hDq : w.heap.size + 4 < wr.heap.size := by
            have := hz0.trans hD
            exact (Array.getElem?_eq_some_iff.1 this).1
          have hv0 := (hV.block _ hDq).trans hz0
          have e0 := hbv.b0.cell
          have e3 := hbv.b3.cell
          have g3 := hbv.b3.frozen
          have HP := Lib.hid (hbv.put (q + 1))
          have HZ := Lib.hid ((Below.heap_setCell V ⟨w.heap.size + 1 + 1 + 1, 0, none⟩ (.int .i64 ((q + 1 : Nat) : Int)) (w.heap.size + 4) (by show w.heap.size + 4 ≠ w.heap.size + 1 + 1 + 1; omega)).trans hv0)
          rw [show ((q + 1 : Nat) : Int) = (q : Int) + 1 by omega] at HP HZ
          unfold Mp.vals at *
          clear hbv hv0 hV hb2 hbq hz0 d0 d3 f3 c0 hDq hlt kd hu
          gi_wp2
          gi_roundg m
          case measure => omega
          case rel => exact ⟨q + 1, by omega, HCS.out, HP.out, HZ.out⟩
  · have hf : fewL L = false := by simpa using hf
    rw [hf]
    clear kf
    gi_wp2
    refine ⟨trivial, ?_⟩
    refine (callsIn_wide.2 (kaw _)).mono ?_
    rintro e w' ⟨rfl, hb⟩
    have HB1 := HB.out.below hb
    have d0 := Blk.cell (HB1.nth 0 rfl) 0 (v := .bool false) rfl
    have f0 := Blk.frozen (HB1.nth 0 rfl) 0
    have hE := HB1.be.setCell (p := ⟨w.heap.size + 1, 0, none⟩) (Nat.le_succ _) (.bool true)
    have d1 : (w'.setCell ⟨w.heap.size + 1, 0, none⟩ (.bool true)).cell? ⟨w.heap.size + 1, 0, none⟩ = some (.bool true) := World.cell?_setCell_same _ _ _ d0
    clear hb HB1 HB
    gi_wp2
    refine ⟨_, by simp [results, Try.results9, go_sem, d1], rfl, hE⟩
end Go.Proofs.Ytfadhgbhdoddpaa.MaC
