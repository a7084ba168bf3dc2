/- poly, walked: At (a range over slices.Backward), Slope. -/
import Derived.Test.YtlocgilgdnhnlaaGreatDoorPoA
import Derived.Test.YtlocgilgdnhnlaaGreatDoorPkB
import Derived.Test.YtlocgilgdnhnlaaGreatDoorApC
namespace Go.Proofs.YtlocgilgdnhnlaaGreatDoor.PoB
open Go Go.RowKit Go.Shelf Go.Proofs.YtlocgilgdnhnlaaGreatDoor.Q Go.Proofs.YtlocgilgdnhnlaaGreatDoor.Mem Go.Proofs.YtlocgilgdnhnlaaGreatDoor.Rg Go.Proofs.YtlocgilgdnhnlaaGreatDoor.Ap Go.Proofs.YtlocgilgdnhnlaaGreatDoor.ApC Go.Proofs.YtlocgilgdnhnlaaGreatDoor.St Go.Proofs.YtlocgilgdnhnlaaGreatDoor.BiW Go.Proofs.YtlocgilgdnhnlaaGreatDoor.BiG Go.Proofs.YtlocgilgdnhnlaaGreatDoor.BiF Go.Proofs.YtlocgilgdnhnlaaGreatDoor.Rf Go.Proofs.YtlocgilgdnhnlaaGreatDoor.CrB Go.Proofs.YtlocgilgdnhnlaaGreatDoor.TbM Go.Proofs.YtlocgilgdnhnlaaGreatDoor.GfP Go.Proofs.YtlocgilgdnhnlaaGreatDoor.PoP Go.Proofs.YtlocgilgdnhnlaaGreatDoor.RsP Go.Proofs.YtlocgilgdnhnlaaGreatDoor.GfA Go.Proofs.YtlocgilgdnhnlaaGreatDoor.PoA
attribute [local go_sem] Oper.semAt_some

set_option maxRecDepth 100000
set_option maxHeartbeats 2000000 in
theorem back_in (n : Nat) (hn : 1 ≤ n) (l gs gb N cap : Nat) (s : ByteArray) (hs : s.size = N) (hN : N ≤ 100000) (J : Nat → World → Prop)
    (hY : ∀ k A, k < N → J k A → YieldAt Fence.wide (n - 1) Tryz.prog l #[.int .i64 ((N - 1 - k : Nat) : Int), .int .u8 (((bl s).getD (N - 1 - k) 0).toNat : Int)] A fun e B => e = .returned (.bool true) ∧ J (k + 1) B ∧ TwoB gs gb A B)
    (W : World) (c1 : Boxed W gb 87 (.slice (some ⟨gs, 0, none⟩) N cap)) (c2 : ∀ i b, (bl s)[i]? = some b → W.cell? ⟨gs, i, none⟩ = some (.int .u8 (b.toNat : Int))) (h0 : J 0 W) :
    CallsIn Fence.wide n Tryz.prog 99 #[.func (.yield l) #[] #[], .pointer (some ⟨gb, 0, none⟩)] W fun e W' => (∃ v, e = .returned v) ∧ J N W' := by
  have d0 := c1.cell
  have hN1 : (N : Int) ≤ 100000 := by omega
  refine callsIn_of_wp Tryz.func99 rfl trivial ?_ rfl
  simp only [Tryz.ntmps99, List.size_toArray, List.length_cons, List.length_nil, Nat.reduceAdd, Nat.reduceSub, Array.replicate_succ, Array.replicate_zero, List.push_toArray, List.append_toArray, List.nil_append, List.cons_append]
  gi_wp2
  gi_loopg [3] N (fun m iv wr => ∃ k, k + m = N ∧ iv = .int .i64 ((m : Int) - 1) ∧ J k wr ∧ Boxed wr gb 87 (.slice (some ⟨gs, 0, none⟩) N cap) ∧ Hid (∀ i b, (bl s)[i]? = some b → wr.cell? ⟨gs, i, none⟩ = some (.int .u8 (b.toNat : Int))))
  case atStart => exact ⟨0, by omega, rfl, h0, c1, Lib.hid c2⟩
  case round =>
    obtain ⟨k, hkm, rfl, hj, b1, b2⟩ := hrel
    have d1 := b1.cell
    rcases Nat.eq_zero_or_pos gk with h0 | h0
    · subst h0
      have HJ := Lib.hid hj
      obtain rfl : k = N := by omega
      clear hkm hj d0
      gi_wp2
      go_end0
      exact ⟨⟨_, rfl⟩, HJ.out⟩
    · obtain ⟨m, rfl⟩ : ∃ m, gk = m + 1 := ⟨gk - 1, by omega⟩
      rw [show (((m + 1 : Nat) : Int) - 1) = (m : Int) by omega]
      have z0 : (0 : Int) ≤ (m : Int) := by omega
      have z1 : (m : Int) < (N : Int) := by omega
      have hm : N - 1 - k = m := by omega
      obtain ⟨x, hx⟩ : ∃ x, (bl s)[m]? = some x := ⟨_, List.getElem?_eq_getElem (by rw [bl_len]; omega)⟩
      have d2 := b2.out m x hx
      have y := hY k
      rw [hm, show (bl s).getD m 0 = x by rw [List.getD_eq_getElem?_getD, hx]; rfl] at y
      have HY := Lib.hid y
      have HK := Lib.hid hkm
      have HB := Lib.hid (And.intro b1 b2.out)
      obtain ⟨fn, tmps, assign, body, hy, hR⟩ := HY.out _ (by omega) hj
      clear y hj b1 b2 hY hm hkm h0 d0 hx
      gi_wp2
      refine hR.mono ?_
      rintro e W3 ⟨rfl, hJ3, hk3⟩
      have g1 : Boxed W3 gb 87 (.slice (some ⟨gs, 0, none⟩) N cap) := hk3.n.trans HB.out.1
      have g2 : ∀ i b, (bl s)[i]? = some b → W3.cell? ⟨gs, i, none⟩ = some (.int .u8 (b.toNat : Int)) := fun i b hi => (World.cell?_of_block (a := ⟨gs, i, none⟩) hk3.x).trans (HB.out.2 i b hi)
      have HG := Lib.hid (And.intro g1 g2)
      have HJ3 := Lib.hid hJ3
      clear hy hR hk3 g1 g2 hJ3 HY HB d1 d2
      gi_wp2
      gi_roundg m
      case measure => omega
      case rel => exact ⟨k + 1, by have := HK.out; omega, rfl, HJ3.out, HG.out.1, Lib.hid HG.out.2⟩
theorem back_any (v : Value) (w : World) (hv : ∃ a n c, v = .slice a n c) : Calls Tryz.prog 95 #[v] w fun e w' => e = .returned (.func (.func 99) #[] #[.pointer (some ⟨w.heap.size, 0, none⟩)]) ∧ w' = w.alloc (.cells #[v] 87) := by
  obtain ⟨a, n, c, rfl⟩ := hv
  go_enter Tryz.func95, Tryz.ntmps95
  go_wp2
  go_ret
  exact ⟨rfl, rfl⟩
def hrB (s : ByteArray) (x : UInt8) (k : Nat) : UInt8 := hr ((bl s).reverse.take k) x
theorem hrB_step (s : ByteArray) (x : UInt8) (k : Nat) (hk : k < s.size) : hrB s x (k + 1) = gm (hrB s x k) x ^^^ (bl s).getD (s.size - 1 - k) 0 := by
  have h : (bl s).reverse[k]? = some ((bl s).getD (s.size - 1 - k) 0) := by
    rw [List.getElem?_reverse (by rw [bl_len]; exact hk), bl_len, List.getD_eq_getElem?_getD, List.getElem?_eq_getElem (by rw [bl_len]; omega)]
    rfl
  unfold hrB
  rw [List.take_add_one, h, Option.toList_some, hr_snoc]
theorem hrB_end (s : ByteArray) (x : UInt8) : hrB s x s.size = ev (fa (bl s)) (bl s).length x := by
  unfold hrB
  rw [List.take_of_length_le (by rw [List.length_reverse, bl_len]; exact Nat.le_refl _), hr_rev]
  rfl
/-- where the loop begins -/
structure AtP (w V : World) (s : ByteArray) (x : UInt8) (S cap : Nat) : Prop where
  x : Boxed V w.heap.size 5 (.int .u8 (x.toNat : Int))
  f : Boxed V S 116 (.pointer (some ⟨w.heap.size + 1, 0, none⟩))
  o : Boxed V (S + 1) 5 (.int .u8 0)
  fl : Fld V (w.heap.size + 1)
  b : Boxed V (S + 3) 87 (.slice (some ⟨S + 2, 0, none⟩) s.size cap)
  c : ∀ i b, (bl s)[i]? = some b → V.cell? ⟨S + 2, i, none⟩ = some (.int .u8 (b.toNat : Int))
  be : Below w.heap.size w V
  size : V.heap.size = S + 4
  S : w.heap.size + 2 ≤ S
theorem atP_make {w W1 : World} (s : ByteArray) (x : UInt8) (cap : Nat) (hcap : s.size ≤ cap) (hF : Fld W1 (w.heap.size + 1)) (hb : Below (w.heap.size + 1) (w.alloc (.cells #[.int .u8 (x.toNat : Int)] 5)) W1) :
    AtP w (((((W1.alloc (.cells #[.pointer (some ⟨w.heap.size + 1, 0, none⟩)] 116)).alloc (.cells #[.int .u8 0] 5)).drew.alloc (.cells (bytesRow s cap) 5 ((bytesRow s cap).size, (bytesRow s cap).size + 1)))).alloc (.cells #[.slice (some ⟨W1.heap.size + 2, 0, none⟩) s.size cap] 87)) s x W1.heap.size cap := by
  have h0 : Boxed W1 w.heap.size 5 (.int .u8 (x.toNat : Int)) := (hb.block _ (by omega)).trans (Boxed.new w _ _)
  have hlt := hF.lt
  have hw : Below w.heap.size w W1 := ((Below.refl _ w).alloc (Nat.le_refl _) _).trans (hb.mono (Nat.le_succ _))
  obtain ⟨V0, hV0⟩ : ∃ V0, (W1.alloc (.cells #[.pointer (some ⟨w.heap.size + 1, 0, none⟩)] 116)).alloc (.cells #[.int .u8 0] 5) = V0 := ⟨_, rfl⟩
  have hs0 : V0.heap.size = W1.heap.size + 2 := by rw [← hV0]; simp
  have h1 : Boxed V0 w.heap.size 5 (.int .u8 (x.toNat : Int)) := by rw [← hV0]; exact (h0.alloc _).alloc _
  have h2 : Boxed V0 W1.heap.size 116 (.pointer (some ⟨w.heap.size + 1, 0, none⟩)) := by rw [← hV0]; exact (Boxed.new W1 _ _).alloc _
  have h3 : Boxed V0 (W1.heap.size + 1) 5 (.int .u8 0) := by
    rw [← hV0]
    have := Boxed.new (W1.alloc (.cells #[.pointer (some ⟨w.heap.size + 1, 0, none⟩)] 116)) 5 (.int .u8 0)
    simpa using this
  have h4 : Fld V0 (w.heap.size + 1) := by rw [← hV0]; exact Fm.alloc (Fm.alloc hF _) _
  have h5 : Below w.heap.size w V0 := by rw [← hV0]; exact (hw.alloc hw.size _).alloc (by have := hw.size; simp; omega) _
  rw [hV0]
  clear hV0 h0 hF
  have hC := cells_conv s V0 5 cap hcap
  obtain ⟨V1, hV1⟩ : ∃ V1, V0.drew.alloc (.cells (bytesRow s cap) 5 ((bytesRow s cap).size, (bytesRow s cap).size + 1)) = V1 := ⟨_, rfl⟩
  have hs1 : V1.heap.size = W1.heap.size + 3 := by rw [← hV1]; simp; omega
  have hB1 : Below V0.heap.size V0 V1 := by rw [← hV1]; exact ((Below.refl _ _).drew).alloc (Nat.le_refl _) _
  rw [hV1] at hC ⊢
  clear hV1
  have hB2 : Below V1.heap.size V1 (V1.alloc (.cells #[.slice (some ⟨W1.heap.size + 2, 0, none⟩) s.size cap] 87)) := (Below.refl _ _).alloc (Nat.le_refl _) _
  have hB := hB1.trans (hB2.mono hB1.size)
  refine ⟨(hB.block _ (by omega)).trans h1, (hB.block _ (by omega)).trans h2, (hB.block _ (by omega)).trans h3, h4.be hB, ?_, fun i b hi => ?_, h5.trans (hB.mono h5.size), by simp; omega, by omega⟩
  · have := Boxed.new V1 87 (.slice (some ⟨W1.heap.size + 2, 0, none⟩) s.size cap)
    rw [hs1] at this
    exact this
  · obtain ⟨g, cp, e, _, _, _, _, _, hx⟩ := hC
    simp only [Value.slice.injEq, Option.some.injEq, Addr.mk.injEq, and_true] at e
    have hg : g = W1.heap.size + 2 := by rw [← e.1]; exact hs0
    have := hx i (.int .u8 (b.toNat : Int)) (by simp [u8s, u8v, hi])
    rw [hg] at this
    rw [← this]
    exact World.cell?_of_block (hB2.block _ (by show W1.heap.size + 2 < _; omega))
set_option maxHeartbeats 2000000 in
theorem at_in (s : ByteArray) (x : UInt8) (w : World) (hs : s.size ≤ 100000) : CallsIn Fence.wide 9 Tryz.prog 88 #[.string s, .int .u8 (x.toNat : Int)] w fun e w' => e = .returned (.int .u8 ((ev (fa (bl s)) (bl s).length x).toNat : Int)) ∧ Below w.heap.size w w' := by
  have HS := Lib.hid hs
  refine callsIn_of_wp_marks Tryz.func88 rfl trivial ?_ rfl
  simp only [Tryz.ntmps88, List.size_toArray, List.length_cons, List.length_nil, Nat.reduceAdd, Nat.reduceSub, Array.replicate_succ, Array.replicate_zero, List.push_toArray, List.append_toArray, List.nil_append, List.cons_append]
  gi_wp2
  refine ⟨trivial, ?_⟩
  refine (callsIn_wide.2 (GfA.new_any _)).mono ?_
  rintro e W1 ⟨rfl, hF1, hb1⟩
  rw [show (w.alloc (.cells #[.int .u8 (x.toNat : Int)] 5)).heap.size = w.heap.size + 1 by simp] at hF1 hb1
  have hcv : ∀ V : World, ∃ c, s.size ≤ c ∧ (convert 9 87 (.string s)).run Tryz.prog V = .ok (.slice (some ⟨V.heap.size, 0, none⟩) s.size c) (V.drew.alloc (.cells (bytesRow s c) 5 ((bytesRow s c).size, (bytesRow s c).size + 1))) := fun V =>
    ⟨grownCap V s.size 0 5, grownCap_ge V s.size 0 5, run_bytes_of_string V _ _ _ s Tryz.underlying9 Tryz.underlying87 Tryz.underlying5⟩
  obtain ⟨c, hc, hc1⟩ := hcv ((W1.alloc (.cells #[.pointer (some ⟨w.heap.size + 1, 0, none⟩)] 116)).alloc (.cells #[.int .u8 0] 5))
  rw [show ((W1.alloc (.cells #[.pointer (some ⟨w.heap.size + 1, 0, none⟩)] 116)).alloc (.cells #[.int .u8 0] 5)).heap.size = W1.heap.size + 2 by simp] at hc1
  have HA := Lib.hid (atP_make s x c hc hF1 hb1)
  clear hcv hc hF1 hb1
  gi_wp2
  refine ⟨trivial, ?_⟩
  refine (callsIn_wide.2 (back_any _ _ ⟨_, _, _, rfl⟩)).mono ?_
  rintro e W2 ⟨rfl, rfl⟩
  obtain ⟨S, hS⟩ : ∃ S, W1.heap.size = S := ⟨_, rfl⟩
  rw [hS] at HA
  clear hc1
  gi_wp2
  refine wpIn_gen (fun W => AtP w W s x S c) HA.out ?_
  intro V hV
  have hsz := hV.size
  have hSw := hV.S
  refine range_box rfl (by omega) (gf := 99) (lb := #[.pointer (some ⟨S + 1 + 1 + 1, 0, none⟩)]) rfl trivial (enters_of Tryz.func99 (by kernel_rfl) rfl)
    (encs := fun k => #[.int .i64 ((s.size - 1 - k : Nat) : Int), .int .u8 (((bl s).getD (s.size - 1 - k) 0).toNat : Int)]) (Kp := TwoB (S + 2) (S + 3)) (N := s.size) (X := S + 3) (by omega)
    (fun l J W hW _ hY h0 => back_in 8 (by omega) l (S + 2) (S + 3) s.size c s rfl HS.out J hY W ((hW.block _ (by omega)).trans hV.b) (fun i b hi => (World.cell?_of_block (a := ⟨S + 2, i, none⟩) (hW.block (S + 2) (by omega))).trans (hV.c i b hi)) h0)
    TwoB.trans (fun W o => ⟨World.putObj_heap_other (by omega), World.putObj_heap_other (by omega), by simp⟩) (fun _ => rfl)
    (fun k W => Boxed W w.heap.size 5 (.int .u8 (x.toNat : Int)) ∧ Boxed W S 116 (.pointer (some ⟨w.heap.size + 1, 0, none⟩)) ∧ Boxed W (S + 1) 5 (.int .u8 ((hrB s x k).toNat : Int)) ∧ Fld W (w.heap.size + 1) ∧ Below w.heap.size w W)
    ?calm ?put ⟨hV.x, hV.f, hV.o, hV.fl, hV.be⟩
    (fun k => { tmps := #[.string s, .int .u8 (x.toNat : Int), undef, .pointer (some ⟨w.heap.size, 0, none⟩), .int .u8 0, .pointer (some ⟨S, 0, none⟩), .pointer (some ⟨S + 1, 0, none⟩), undef, .int .u8 (((bl s).getD (s.size - 1 - k) 0).toNat : Int), .pointer (some ⟨w.heap.size + 1, 0, none⟩), .string s, .slice (some ⟨S + 2, 0, none⟩) s.size c,
      .func (.func 99) #[] #[.pointer (some ⟨S + 1 + 1 + 1, 0, none⟩)], .int .i64 ((s.size - 1 - k : Nat) : Int), .int .u8 (((bl s).getD (s.size - 1 - k) 0).toNat : Int), undef, undef, undef, undef, undef, undef, undef], defers := [] }) ?assign ?body ?done
  case calm =>
    rintro k A C row ⟨h1, h2, h3, h4, h5⟩ hg hr
    refine ⟨h1.kept hg (fun e => ?_), h2.kept hg (fun e => ?_), h3.kept hg (fun e => ?_), Fm.same h4 (hg.block _ h4.lt (fun e => ?_)), h5.trans (below_of_only hg h5.size (fun r e => ?_))⟩
    · have := hr _ e.symm; omega
    · have := hr _ e.symm; omega
    · have := hr _ e.symm; omega
    · have := hr _ e.symm; omega
    · have := hr r e; omega
  case put =>
    rintro k A o ⟨h1, h2, h3, h4, h5⟩
    rw [hsz]
    have hg := grownBy_putObj' A (S + 4 + 1) o
    refine ⟨h1.kept hg (fun e => ?_), h2.kept hg (fun e => ?_), h3.kept hg (fun e => ?_), Fm.same h4 (hg.block _ h4.lt (fun e => ?_)), h5.trans (below_of_only hg h5.size (fun r e => ?_))⟩
    all_goals (injection e with e; omega)
  case assign =>
    intro l k W K hK
    gi_wp2
    exact hK
  case body =>
    rintro l k W ⟨h1, h2, h3, h4, h5⟩ hk ⟨o0, ho0, hc0⟩ ⟨o1, ho1, hc1⟩
    rw [hsz] at ho0 ho1
    have hW5 : S + 6 ≤ W.heap.size := by have := (Array.getElem?_eq_some_iff.1 ho1).1; omega
    have d1 := h1.cell
    have d2 := h2.cell
    have d3 := h3.cell
    have km := GfA.mul_any W (w.heap.size + 1) (hrB s x k) x h4
    have HT := Lib.hid (hrB_step s x k hk)
    obtain ⟨y, hy⟩ : ∃ y, (bl s).getD (s.size - 1 - k) 0 = y := ⟨_, rfl⟩
    obtain ⟨m, hm⟩ : ∃ m, hrB s x k = m := ⟨_, rfl⟩
    rw [hy, hm] at HT
    rw [hm] at km d3 h3
    rw [hy]
    have qm := xor_g (gm m x) y
    have H1 := Lib.hid (And.intro h1 (And.intro h2 (And.intro h3 (And.intro h4 h5))))
    clear hy hm h1 h2 h3 h4 h5
    gi_wp2
    refine ⟨trivial, ?_⟩
    refine ((callsIn_wide.2 km).inRound _).mono ?_
    rintro e W2 ⟨rfl, hb2⟩
    obtain ⟨h1, h2, h3, h4, h5⟩ := H1.out
    have far : ∀ j, j < S + 6 → W2.heap[j]? = W.heap[j]? := fun j hj => hb2.block j (by omega)
    have g3 : Boxed W2 (S + 1) 5 (.int .u8 (m.toNat : Int)) := (far _ (by omega)).trans h3
    have c3 := g3.cell
    have f3 := g3.frozen
    have hg := grownBy_setCell' W2 (S + 1) (.int .u8 ((gm m x ^^^ y).toNat : Int))
    have hb9 := h5.trans (hb2.mono h5.size)
    have HE : Hid (Boxed (W2.setCell ⟨S + 1, 0, none⟩ (.int .u8 ((gm m x ^^^ y).toNat : Int))) w.heap.size 5 (.int .u8 (x.toNat : Int)) ∧ Boxed (W2.setCell ⟨S + 1, 0, none⟩ (.int .u8 ((gm m x ^^^ y).toNat : Int))) S 116 (.pointer (some ⟨w.heap.size + 1, 0, none⟩)) ∧ Boxed (W2.setCell ⟨S + 1, 0, none⟩ (.int .u8 ((gm m x ^^^ y).toNat : Int))) (S + 1) 5 (.int .u8 ((hrB s x (k + 1)).toNat : Int)) ∧ Fld (W2.setCell ⟨S + 1, 0, none⟩ (.int .u8 ((gm m x ^^^ y).toNat : Int))) (w.heap.size + 1) ∧ Below w.heap.size w (W2.setCell ⟨S + 1, 0, none⟩ (.int .u8 ((gm m x ^^^ y).toNat : Int)))) := Lib.hid (by
      refine ⟨Boxed.kept ((far _ (by omega)).trans h1) hg (fun e => ?_), Boxed.kept ((far _ (by omega)).trans h2) hg (fun e => ?_), by rw [HT.out]; exact g3.set _, Fm.far (h4.be hb2) (by show w.heap.size + 1 ≠ S + 1; omega) _, hb9.setCell (by show w.heap.size ≤ S + 1; omega) _⟩
      · injection e with e; omega
      · injection e with e; omega)
    have HF := Lib.hid (And.intro far hb2.size)
    clear H1 h1 h2 h3 h4 h5 far g3 hb9 hb2 km d1 d2 d3
    gi_wp2
    have near : ∀ j, j < S + 6 → j ≠ S + 1 → (W2.setCell ⟨S + 1, 0, none⟩ (.int .u8 ((gm m x ^^^ y).toNat : Int))).heap[j]? = W.heap[j]? := fun j hj hj1 => (Below.heap_setCell W2 ⟨S + 1, 0, none⟩ _ j (fun e => hj1 e)).trans (HF.out.1 j hj)
    refine ⟨⟨near _ (by omega) (by omega), near _ (by omega) (by omega), ?_⟩, by rw [hsz]; exact near _ (by omega) (by omega), by rw [hsz]; exact near _ (by omega) (by omega), HE.out⟩
    simp [World.setCell]
    exact HF.out.2
  case done =>
    rintro W ⟨h1, h2, h3, h4, h5⟩ hD
    rw [hsz] at hD ⊢
    have d3 := h3.cell
    have HE := Lib.hid (hrB_end s x)
    have H5 := Lib.hid h5
    clear h1 h2 h3 h4 h5
    gi_wp2
    refine ⟨by simp, .inl ⟨_, _, rfl, run_takeDeferred hD, ?_⟩⟩
    have hg := grownBy_putObj' W (S + 4) (.deferred none)
    refine ⟨_, results_tmp rfl _ _ _, by rw [← HE.out]; rfl, H5.out.trans (below_of_only hg H5.out.size (fun r e => by injection e with e; omega))⟩
theorem at_any (s : ByteArray) (x : UInt8) (w : World) (hs : s.size ≤ 100000) : Calls Tryz.prog 88 #[.string s, .int .u8 (x.toNat : Int)] w fun e w' => e = .returned (.int .u8 ((ev (fa (bl s)) (bl s).length x).toNat : Int)) ∧ Below w.heap.size w w' :=
  callsIn_wide.1 (at_in s x w hs)
/-- the slope's coefficients -/
def slL (l : List UInt8) (k : Nat) : List UInt8 := (List.range k).map (sl (fa l))
theorem and_one (i : Nat) (h : i < 4294967296) : bits .and .i64 (i : Int) 1 = ((i % 2 : Nat) : Int) := by
  have := (bits_nat .i64 63 (by decide) (fun n h0 h1 => by rw [IntKind.wrap_i64]; omega) i 1 (by omega) (by decide)).1
  rw [show ((1 : Nat) : Int) = 1 from rfl] at this
  rw [this, show (1 : Nat) = 2 ^ 1 - 1 by decide, Nat.and_two_pow_sub_one_eq_mod]
theorem slope_val (l : List UInt8) (i : Nat) (b : UInt8) (h : l[i + 1]? = some b) : IntKind.u8.wrap ((b.toNat : Int) * (((i + 1) % 2 : Nat) : Int)) = ((sl (fa l) i).toNat : Int) := by
  unfold sl
  rw [fa_in h]
  have hb := b.toNat_lt
  by_cases h2 : i % 2 = 0
  · rw [if_pos h2, show (i + 1) % 2 = 1 by omega, IntKind.wrap_u8]
    omega
  · rw [if_neg h2, show (i + 1) % 2 = 0 by omega, IntKind.wrap_u8]
    simp
set_option maxHeartbeats 1600000 in
theorem slope_any (s : ByteArray) (w : World) (hs : s.size ≤ 100000) : Calls Tryz.prog 87 #[.string s] w fun e w' => e = .returned (.string (str (trimL (slL (bl s) (s.size - 1))))) ∧ Below w.heap.size w w' := by
  have s0 : (0 : Int) ≤ (s.size : Int) := Int.natCast_nonneg _
  have s1 : (s.size : Int) ≤ 100000 := by omega
  go_enter Tryz.func87, Tryz.ntmps87
  go_wp2_with fail
  go_loopw [3, 4] (fun ov iv W => ∃ k : Nat, k ≤ s.size - 1 ∧ iv = .int .i64 ((k : Int) + 1) ∧ W.ownsRow w.heap.size 5 1 ov k (u8s (slL (bl s) k)) ∧ Below w.heap.size w W) (fun _ iv _ => s.size - (intOf iv).toNat)
  case atStart => exact ⟨0, by omega, rfl, World.ownsRow_nil _ _ _ _, Below.refl _ _⟩
  case round =>
    obtain ⟨k, hk, rfl, hown, hb⟩ := hrel
    have k0 : (0 : Int) ≤ (k : Int) := Int.natCast_nonneg _
    by_cases hkn : k + 1 < s.size
    · have t0 : decide ((k : Int) + 1 < (s.size : Int)) = true := decide_eq_true (by omega)
      obtain ⟨b, hbb⟩ : ∃ b, (bl s)[k + 1]? = some b := ⟨_, List.getElem?_eq_getElem (by rw [bl_len]; exact hkn)⟩
      have ib := ix_of hbb
      rw [show ((k + 1 : Nat) : Int) = (k : Int) + 1 by omega] at ib
      have ea := and_one (k + 1) (by omega)
      rw [show ((k + 1 : Nat) : Int) = (k : Int) + 1 by omega] at ea
      have ev := slope_val (bl s) k b hbb
      have HS := Lib.hid (show u8s (slL (bl s) (k + 1)) = u8s (slL (bl s) k) ++ [.int .u8 ((sl (fa (bl s)) k).toNat : Int)] by simp [slL, List.range_succ, u8s, u8v])
      obtain ⟨m, hm⟩ : ∃ m, (k + 1) % 2 = m := ⟨_, rfl⟩
      have hm2 : m < 2 := by rw [← hm]; exact Nat.mod_lt _ (by decide)
      rw [hm] at ea ev
      have ew : IntKind.u8.wrap (m : Int) = (m : Int) := by rw [IntKind.wrap_u8]; omega
      obtain ⟨x, hx⟩ : ∃ x, (sl (fa (bl s)) k).toNat = x := ⟨_, rfl⟩
      rw [hx] at ev HS
      have hx8 : x < 256 := by rw [← hx]; exact (sl (fa (bl s)) k).toNat_lt
      have hb9 := Blk.new wr 5 #[.int .u8 (x : Int)]
      have hown2 := own_below hown ((Below.refl wr.heap.size wr).alloc (Nat.le_refl _) (.cells #[.int .u8 (x : Int)] 5))
      have hsz2 : w.heap.size ≤ (wr.alloc (.cells #[.int .u8 (x : Int)] 5)).heap.size := by have := hb.size; simp; omega
      have hb2 := hb.alloc hb.size (.cells #[.int .u8 (x : Int)] 5)
      have k1 : (k : Int) + 1 < (s.size : Int) := by omega
      have hmi0 : (0 : Int) ≤ (m : Int) := Int.natCast_nonneg _
      have hmi1 : (m : Int) < 2 := by omega
      clear hown hb hbb hm hx
      go_wp2_with (at_builtin; refine wpList_app rfl _ _ rfl elemB rfl hown2 rfl rfl (blk_news hb9) (by simp [Value.oneCell']) (by omega) (by unfold maxLen; omega) hsz2 ?_)
      intro v9 w8 hown9 hb8
      have hb3 := hb2.trans hb8
      clear hown2 hb9 hb2 hb8
      go_wp2_with fail
      go_roundw
      case rel => exact ⟨k + 1, by omega, by go_num, by rw [HS.out]; exact hown9, hb3⟩
      case measure => simp [intOf]; omega
    · have t0 : decide ((k : Int) + 1 < (s.size : Int)) = false := decide_eq_false (by omega)
      have hkk : k = s.size - 1 := by omega
      obtain ⟨a1, c1, rfl⟩ := own_form hown
      have kc := own_u8 hown (by simp [slL])
      have kt := fun V => trim_any (str (slL (bl s) k)) V (by rw [str_size]; simp [slL]; omega)
      rw [bl_str] at kt
      have HK := Lib.hid hkk
      obtain ⟨q, hq⟩ : ∃ q, str (slL (bl s) k) = q := ⟨_, rfl⟩
      obtain ⟨r, hr9⟩ : ∃ r, str (trimL (slL (bl s) k)) = r := ⟨_, rfl⟩
      have HR := Lib.hid hr9
      rw [hq] at kc kt
      rw [hr9] at kt
      clear hown hkk hq hr9
      go_wp2_with fail
      (with_reducible refine (kt _).mono ?_); rintro e2 W2 ⟨rfl, rfl⟩
      clear kt kc
      go_wp2_with fail
      go_ret
      exact ⟨by rw [← HK.out, HR.out]; rfl, hb⟩
end Go.Proofs.YtlocgilgdnhnlaaGreatDoor.PoB
