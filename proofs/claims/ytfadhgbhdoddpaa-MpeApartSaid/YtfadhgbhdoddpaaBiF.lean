/- bits, walked: falling; Put. -/
import Derived.Test.YtfadhgbhdoddpaaBiW
import Derived.Test.YtfadhgbhdoddpaaRf
import Derived.RangeFuncCalls
namespace Go.Proofs.Ytfadhgbhdoddpaa.BiF
open Go Go.RowKit Go.Shelf Go.Proofs.Ytfadhgbhdoddpaa.Q Go.Proofs.Ytfadhgbhdoddpaa.Mem Go.Proofs.Ytfadhgbhdoddpaa.Rg Go.Proofs.Ytfadhgbhdoddpaa.Ap Go.Proofs.Ytfadhgbhdoddpaa.St Go.Proofs.Ytfadhgbhdoddpaa.BiP Go.Proofs.Ytfadhgbhdoddpaa.BiW Go.Proofs.Ytfadhgbhdoddpaa.Rf
attribute [local go_sem] Oper.semAt_some

/-- the two boxes lie as they lay -/
structure TwoB (x n : Nat) (W W' : World) : Prop where
  x : W'.heap[x]? = W.heap[x]?
  n : W'.heap[n]? = W.heap[n]?
  size : W.heap.size ≤ W'.heap.size
theorem TwoB.trans {x n : Nat} {A B C : World} (h : TwoB x n A B) (k : TwoB x n B C) : TwoB x n A C := ⟨k.x.trans h.x, k.n.trans h.n, Nat.le_trans h.size k.size⟩
theorem bit_u64 (x m : Nat) (hx : x < 2 ^ 64) : bits .and .u64 ((x : Int) / 2 ^ m) 1 = (nb (x.testBit m) : Int) := by
  have hq : (x : Int) / 2 ^ m = ((x / 2 ^ m : Nat) : Int) := by simp
  have hd : x / 2 ^ m ≤ x := Nat.div_le_self _ _
  rw [hq]
  have := (bits_nat .u64 64 (by decide) (fun n h1 h2 => by simp [IntKind.wrap, IntKind.bits, IntKind.signed]; omega) (x / 2 ^ m) 1 (by omega) (by decide)).1
  rw [show ((1 : Nat) : Int) = 1 from rfl] at this
  rw [this, show (1 : Nat) = 2 ^ 1 - 1 by decide, Nat.and_two_pow_sub_one_eq_mod]
  unfold nb
  rw [Nat.testBit_eq_decide_div_mod_eq]
  by_cases h : x / 2 ^ m % 2 = 1
  · simp [h]
  · simp [h]; omega
theorem falling_any (x n : Nat) (w : World) :
    Calls Try.prog 59 #[.int .u64 (x : Int), .int .i64 (n : Int)] w fun e w' => e = .returned (.func (.func 70) #[] #[.pointer (some ⟨w.heap.size + 1, 0, none⟩), .pointer (some ⟨w.heap.size, 0, none⟩)]) ∧
      w' = (w.alloc (.cells #[.int .u64 (x : Int)] 75)).alloc (.cells #[.int .i64 (n : Int)] 3) := by
  go_enter Try.func59, Try.ntmps59
  go_wp2
  go_ret
  exact ⟨rfl, rfl⟩
set_option maxRecDepth 100000 in
set_option maxHeartbeats 2000000 in
theorem fall_in (n : Nat) (hn : 1 ≤ n) (l Bx Bn x N : Nat) (hN : N ≤ 64) (hx : x < 2 ^ 64) (hne : Bx ≠ Bn) (J : Nat → World → Prop) (hJ : CalmB Bn J)
    (hY : ∀ k A, k < N → J k A → YieldAt Fence.wide (n - 1) Try.prog l #[.int .u8 (nb (x.testBit (N - 1 - k)) : Int)] A fun e B => e = .returned (.bool true) ∧ J (k + 1) B ∧ TwoB Bx Bn A B)
    (W : World) (c1 : Boxed W Bx 75 (.int .u64 (x : Int))) (c2 : Boxed W Bn 3 (.int .i64 (N : Int))) (h0 : J 0 W) :
    CallsIn Fence.wide n Try.prog 70 #[.func (.yield l) #[] #[], .pointer (some ⟨Bn, 0, none⟩), .pointer (some ⟨Bx, 0, none⟩)] W fun e W' => (∃ v, e = .returned v) ∧ J N W' := by
  refine callsIn_of_wp Try.func70 rfl trivial ?_ rfl
  simp only [Try.ntmps70, List.size_toArray, List.length_cons, List.length_nil, Nat.reduceAdd, Nat.reduceSub, Array.replicate_succ, Array.replicate_zero, List.push_toArray, List.append_toArray, List.nil_append, List.cons_append]
  gi_wp2
  gi_loopg [] N (fun m wr => ∃ k, k + m = N ∧ J k wr ∧ Boxed wr Bx 75 (.int .u64 (x : Int)) ∧ Boxed wr Bn 3 (.int .i64 (m : Int)))
  case atStart => exact ⟨0, by omega, h0, c1, c2⟩
  case round =>
    obtain ⟨k, hkm, hj, b1, b2⟩ := hrel
    have d1 := b1.cell
    have d2 := b2.cell
    have f2 := b2.frozen
    rcases Nat.eq_zero_or_pos gk with h0 | h0
    · subst h0
      have HJ := Lib.hid hj
      obtain rfl : k = N := by omega
      clear hkm hj
      gi_wp2
      go_end0
      exact ⟨⟨_, rfl⟩, HJ.out⟩
    · obtain ⟨m, rfl⟩ : ∃ m, gk = m + 1 := ⟨gk - 1, by omega⟩
      rw [show ((m + 1 : Nat) : Int) = (m : Int) + 1 by omega] at d2 b2
      have t0 : decide ((0 : Int) < (m : Int) + 1) = true := by rw [decide_eq_true_eq]; omega
      have z0 : (0 : Int) ≤ (m : Int) := by omega
      have z1 : (m : Int) ≤ 63 := by omega
      have q1 := bit_u64 x m hx
      have hm : N - 1 - k = m := by omega
      have y := hY k
      rw [hm] at y
      have HY := Lib.hid y
      have HJ := Lib.hid hj
      have HB := Lib.hid (And.intro b1 b2)
      have HK := Lib.hid hkm
      have hb := nb_le (x.testBit m)
      obtain ⟨b, hbe⟩ : ∃ b, nb (x.testBit m) = b := ⟨_, rfl⟩
      rw [hbe] at q1 HY hb
      have q2 : IntKind.u8.wrap (b : Int) = (b : Int) := by rw [IntKind.wrap_u8]; omega
      have hj9 : J k (wr.setCell ⟨Bn, 0, none⟩ (.int .i64 (m : Int))) := hJ k _ _ (some Bn) hj (grownBy_setCell' wr Bn _) (fun r e => by injection e with e; exact e.symm)
      have e1 : Boxed (wr.setCell ⟨Bn, 0, none⟩ (.int .i64 (m : Int))) Bx 75 (.int .u64 (x : Int)) := b1.kept (grownBy_setCell' wr Bn _) (by simpa using hne)
      have e2 : Boxed (wr.setCell ⟨Bn, 0, none⟩ (.int .i64 (m : Int))) Bn 3 (.int .i64 (m : Int)) := b2.set _
      have HE := Lib.hid (And.intro e1 e2)
      obtain ⟨fn, tmps, assign, body, hy, hR⟩ := HY.out _ (by omega) hj9
      clear y hbe hj b1 b2 hY hm hkm h0 hj9 e1 e2 HB HJ
      gi_wp2
      refine hR.mono ?_
      rintro e W3 ⟨rfl, hJ3, hk3⟩
      have g1 : Boxed W3 Bx 75 (.int .u64 (x : Int)) := hk3.x.trans HE.out.1
      have g2 : Boxed W3 Bn 3 (.int .i64 (m : Int)) := hk3.n.trans HE.out.2
      have HG := Lib.hid (And.intro g1 g2)
      have HJ3 := Lib.hid hJ3
      clear hy hR hk3 g1 g2 hJ3 HY HE
      gi_wp2
      gi_roundg m
      case measure => omega
      case rel => exact ⟨k + 1, by have := HK.out; omega, HJ3.out, HG.out.1, HG.out.2⟩
theorem bitsOf_take (x n k : Nat) (hk : k < n) : (bitsOf x n).take k ++ [x.testBit (n - 1 - k)] = (bitsOf x n).take (k + 1) := by
  have : (bitsOf x n)[k]? = some (x.testBit (n - 1 - k)) := by
    induction n generalizing k with
    | zero => omega
    | succ n ih =>
      cases k with
      | zero => simp [bitsOf]
      | succ k =>
        rw [bitsOf, List.getElem?_cons_succ, ih k (by omega)]
        congr 2; omega
  rw [List.take_add_one, this]; rfl
theorem wpIn_gen {F : Fence} {n : Nat} {P : Program} {c : Code} {Q : Exit → Act → World → Prop} {a : Act} {w : World} (G : World → Prop) (h0 : G w) (h : ∀ W, G W → c.wpIn F n P Q a W) : c.wpIn F n P Q a w := h w h0
/-- where the loop begins -/
structure StP (w W : World) (g B : Nat) (v : Value) (bits : List Bool) (x n : Nat) : Prop where
  o : OutV W g B v bits
  gr : Grow g v w v W
  b0 : Boxed W w.heap.size 103 (.pointer (some ⟨g, 0, none⟩))
  b1 : Boxed W (w.heap.size + 1) 75 (.int .u64 (x : Int))
  b2 : Boxed W (w.heap.size + 2) 3 (.int .i64 (n : Int))
  size : W.heap.size = w.heap.size + 3
theorem stP_make {w : World} {g B : Nat} {v : Value} {bits : List Bool} (x n : Nat) (h : OutV w g B v bits) :
    StP w (((w.alloc (.cells #[.pointer (some ⟨g, 0, none⟩)] 103)).alloc (.cells #[.int .u64 (x : Int)] 75)).alloc (.cells #[.int .i64 (n : Int)] 3)) g B v bits x n := by
  have al := fun (W : World) (o : Obj) (h : OutV W g B v bits) => h.other (World.grownBy_alloc W o none) (by simp) (fun r e => by cases e)
  have gl := fun (W : World) (o : Obj) (h : Grow g v w v W) => h.other (World.grownBy_alloc W o none) (fun r e => by cases e)
  refine ⟨al _ _ (al _ _ (al _ _ h)), gl _ _ (gl _ _ (gl _ _ (Grow.refl _ _ _))), ((Boxed.new w _ _).alloc _).alloc _, ?_, ?_, by simp⟩
  · have := (Boxed.new (w.alloc (.cells #[.pointer (some ⟨g, 0, none⟩)] 103)) 75 (.int .u64 (x : Int))).alloc (.cells #[.int .i64 (n : Int)] 3)
    simpa using this
  · have := Boxed.new ((w.alloc (.cells #[.pointer (some ⟨g, 0, none⟩)] 103)).alloc (.cells #[.int .u64 (x : Int)] 75)) 3 (.int .i64 (n : Int))
    simpa using this
set_option maxRecDepth 100000 in
set_option maxHeartbeats 1600000 in
theorem put_in (g B : Nat) (v : Value) (bits : List Bool) (x n : Nat) (w : World) (hO : OutV w g B v bits) (hl : bits.length + n ≤ 8796093022208) (hx : x < 2 ^ 64) (hn : n ≤ 64) :
    CallsIn Fence.wide 9 Try.prog 36 #[.pointer (some ⟨g, 0, none⟩), .int .u64 (x : Int), .int .i64 (n : Int)] w fun e w' => e = .returned (.int .i64 0) ∧ ∃ v', OutV w' g B v' (bits ++ bitsOf x n) ∧ Grow g v w v' w' := by
  have t1 : decide ((n : Int) < 0) = false := by simp
  have t2 : decide ((64 : Int) < (n : Int)) = false := by simp; omega
  have HS := Lib.hid (stP_make x n hO)
  have HO := Lib.hid hO
  refine callsIn_of_wp_marks Try.func36 rfl trivial ?_ rfl
  simp only [Try.ntmps36, List.size_toArray, List.length_cons, List.length_nil, Nat.reduceAdd, Nat.reduceSub, Array.replicate_succ, Array.replicate_zero, List.push_toArray, List.append_toArray, List.nil_append, List.cons_append]
  clear hO
  gi_wp2
  refine ⟨trivial, ?_⟩
  refine (callsIn_wide.2 (falling_any _ _ _)).mono ?_
  rintro e w' ⟨rfl, rfl⟩
  gi_wp2
  refine wpIn_gen (fun W => StP w W g B v bits x n) (by simpa using HS.out) ?_
  intro W0 hS
  have hsz := hS.size
  have hrow := hS.o.row
  have hOw := HO.out.row
  have hgB := hS.o.gB
  have hBw := HO.out.bw
  refine range_box rfl (by omega) (gf := 70) (lb := #[.pointer (some ⟨w.heap.size + 1 + 1, 0, none⟩), .pointer (some ⟨w.heap.size + 1, 0, none⟩)]) rfl trivial (enters_of Try.func70 (by kernel_rfl) rfl)
    (encs := fun k => #[.int .u8 (nb (x.testBit (n - 1 - k)) : Int)]) (Kp := TwoB (w.heap.size + 1) (w.heap.size + 2)) (N := n) (X := w.heap.size + 2) (by omega)
    (fun l J W hW hJ hY h0 => fall_in 8 (by omega) l (w.heap.size + 1) (w.heap.size + 2) x n hn hx (by omega) J hJ hY W ((hW.block _ (by omega)).trans hS.b1) ((hW.block _ (by omega)).trans hS.b2) h0)
    TwoB.trans (fun W o => ⟨World.putObj_heap_other (by omega), World.putObj_heap_other (by omega), by simp⟩) (fun _ => rfl)
    (fun k W => ∃ v', OutV W g B v' (bits ++ (bitsOf x n).take k) ∧ Grow g v w v' W ∧ Boxed W w.heap.size 103 (.pointer (some ⟨g, 0, none⟩)) ∧ ∀ r, v'.ownBlock = some r → r < w.heap.size ∨ w.heap.size + 5 ≤ r)
    ?calm ?put ⟨v, by simpa using hS.o, hS.gr, hS.b0, fun r e => Or.inl (hOw r e).2⟩
    (fun k => { tmps := #[.pointer (some ⟨g, 0, none⟩), .int .u64 (x : Int), .int .i64 (n : Int), .pointer (some ⟨w.heap.size, 0, none⟩), undef, undef, .int .i64 0, .int .u8 (nb (x.testBit (n - 1 - k)) : Int), .bool false, .pointer (some ⟨g, 0, none⟩), .bool false, .bool false, .int .i64 (n : Int), .bool false, .bool false, .int .i64 (n : Int), .bool false, .bool false, .int .u64 (x : Int), .int .i64 (n : Int),
      .func (.func 70) #[] #[.pointer (some ⟨w.heap.size + 1 + 1, 0, none⟩), .pointer (some ⟨w.heap.size + 1, 0, none⟩)], .int .u8 (nb (x.testBit (n - 1 - k)) : Int), undef, undef, undef], defers := [] }) ?assign ?body ?done
  case calm =>
    rintro k A C row ⟨v', h1, h2, h3, h4⟩ hg hr
    refine ⟨v', h1.other hg (fun e => ?_) (fun r e e' => ?_), h2.other hg (fun r e => ?_), h3.kept hg (fun e => ?_), h4⟩
    · have := hr g e.symm; omega
    · have := hr r e; have := h4 r e'; omega
    · have := hr r e; omega
    · have := hr _ e.symm; omega
  case put =>
    rintro k A o ⟨v', h1, h2, h3, h4⟩
    rw [hsz]
    have hg := grownBy_putObj' A (w.heap.size + 3 + 1) o
    refine ⟨v', h1.other hg (fun e => ?_) (fun r e e' => ?_), h2.other hg (fun r e => ?_), h3.kept hg (fun e => ?_), h4⟩
    · injection e with e; omega
    · injection e with e; have := h4 r e'; omega
    · injection e with e; omega
    · injection e with e; omega
  case assign =>
    intro l k W K hK
    gi_wp2
    exact hK
  case body =>
    rintro l k W ⟨v', h1, h2, h3, h4⟩ hk ⟨o0, ho0, hc0⟩ ⟨o1, ho1, hc1⟩
    rw [hsz] at ho0 ho1
    have hW5 : w.heap.size + 5 ≤ W.heap.size := by have := (Array.getElem?_eq_some_iff.1 ho1).1; omega
    have hc := h3.cell
    have ka := add_any g B v' (bits ++ (bitsOf x n).take k) (x.testBit (n - 1 - k)) W h1 (by have := bitsOf_len x n; simp; omega)
    have HT := Lib.hid (show bits ++ (bitsOf x n).take (k + 1) = (bits ++ (bitsOf x n).take k) ++ [x.testBit (n - 1 - k)] by
      rw [List.append_assoc, ← bitsOf_take x n k hk])
    gi_wp2
    refine ⟨trivial, ?_⟩
    refine ((callsIn_wide.2 ka).inRound _).mono ?_
    rintro e W2 ⟨rfl, v2, hO2, hG2⟩
    gi_wp2
    have far : ∀ (j : Nat) (o : Obj), W.heap[j]? = some o → o.isCells = false → W2.heap[j]? = W.heap[j]? := fun j o hj ho => by
      refine hG2.block j (Array.getElem?_eq_some_iff.1 hj).1 (fun e => ?_) (fun e => ?_)
      · subst e
        have := h1.blk
        unfold Blk at this
        rw [this] at hj; cases hj; cases ho
      · rcases h1.own.2 with ⟨rfl, _⟩ | ⟨q, cap, cur, rfl, _, hq, _⟩
        · simp [Value.ownBlock] at e
        · simp [Value.ownBlock] at e
          subst e
          rw [hq] at hj; cases hj; cases ho
    have near : ∀ j, w.heap.size ≤ j → j < w.heap.size + 3 → W2.heap[j]? = W.heap[j]? := fun j hj1 hj2 => by
      refine hG2.block j (by omega) (by omega) (fun e => ?_)
      have := h4 j e.symm
      omega
    refine ⟨⟨near _ (by omega) (by omega), near _ (by omega) (by omega), hG2.size⟩, by rw [hsz]; exact far _ o0 ho0 hc0, by rw [hsz]; exact far _ o1 ho1 hc1, v2, by rw [HT.out]; exact hO2, h2.trans hG2, (near _ (by omega) (by omega)).trans h3, fun r e => ?_⟩
    rcases hG2.row with h | ⟨q, h, hl⟩
    · exact h4 r (h ▸ e)
    · rw [h] at e; injection e with e; omega
  case done =>
    rintro W ⟨v', h1, h2, h3, h4⟩ hD
    rw [hsz] at hD ⊢
    gi_wp2
    refine ⟨by simp, .inl ⟨_, _, rfl, run_takeDeferred hD, ?_⟩⟩
    have hg := grownBy_putObj' W (w.heap.size + 3) (.deferred none)
    refine ⟨_, results_tmp rfl _ _ _, rfl, v', ?_, ?_⟩
    · have := h1.other hg (by simp; omega) (fun r e e' => by injection e with e; have := h4 r e'; omega)
      rwa [List.take_of_length_le (by rw [bitsOf_len]; omega)] at this
    · exact h2.other hg (fun r e => by injection e with e; omega)
theorem put_any (g B : Nat) (v : Value) (bits : List Bool) (x n : Nat) (w : World) (hO : OutV w g B v bits) (hl : bits.length + n ≤ 8796093022208) (hx : x < 2 ^ 64) (hn : n ≤ 64) :
    Calls Try.prog 36 #[.pointer (some ⟨g, 0, none⟩), .int .u64 (x : Int), .int .i64 (n : Int)] w fun e w' => e = .returned (.int .i64 0) ∧ ∃ v', OutV w' g B v' (bits ++ bitsOf x n) ∧ Grow g v w v' w' :=
  callsIn_wide.1 (put_in g B v bits x n w hO hl hx hn)
end Go.Proofs.Ytfadhgbhdoddpaa.BiF
