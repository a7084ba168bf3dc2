/- The document's table in memory; New, lay, Put, Parity, Pad. -/
import Derived.Test.YtnjbacdgecoedaaDoorTbU
namespace Go.Proofs.YtnjbacdgecoedaaDoor.RtM
open Go Go.RowKit Go.Proofs.YtnjbacdgecoedaaDoor.Q Go.Proofs.YtnjbacdgecoedaaDoor.Mem Go.Proofs.YtnjbacdgecoedaaDoor.Rg Go.Proofs.YtnjbacdgecoedaaDoor.Ap Go.Proofs.YtnjbacdgecoedaaDoor.ApG Go.Proofs.YtnjbacdgecoedaaDoor.St Go.Proofs.YtnjbacdgecoedaaDoor.BiW Go.Proofs.YtnjbacdgecoedaaDoor.TlS Go.Proofs.YtnjbacdgecoedaaDoor.TbM Go.Proofs.YtnjbacdgecoedaaDoor.TbN Go.Proofs.YtnjbacdgecoedaaDoor.TbO Go.Proofs.YtnjbacdgecoedaaDoor.TbP Go.Proofs.YtnjbacdgecoedaaDoor.TbR

set_option maxRecDepth 100000
def xbox (S : Tb) (g1 g2 g3 : Nat) : Array Value := #[.int .i64 (S.R : Int), .slice (some ⟨g1, 0, none⟩) (255 * S.R) (255 * S.R), .slice (some ⟨g2, 0, none⟩) (255 * S.R) (255 * S.R), .slice (some ⟨g3, 0, none⟩) (191 * S.R) (191 * S.R)]
structure RtIn (w : World) (B gx g1 g2 g3 : Nat) (S : Tb) : Prop where
  box : Blk w gx 43 (xbox S g1 g2 g3)
  b : Fm w g1 5 (255 * S.R) (fun p => u8v (S.b p))
  is : Fm w g2 4 (255 * S.R) (fun p => .bool (S.is p))
  st : Fm w g3 4 (191 * S.R) (fun p => .bool (decide (p ∈ S.st)))
  n1 : gx ≠ g1
  n2 : gx ≠ g2
  n3 : gx ≠ g3
  n4 : g1 ≠ g2
  n5 : g1 ≠ g3
  n6 : g2 ≠ g3
  bx : B ≤ gx
  b1 : B ≤ g1
  b2 : B ≤ g2
  b3 : B ≤ g3
def feet (gx g1 g2 g3 i : Nat) : Prop := i = gx ∨ i = g1 ∨ i = g2 ∨ i = g3
section
variable {w w' : World} {B gx g1 g2 g3 : Nat} {S : Tb}
theorem RtIn.ge (h : RtIn w B gx g1 g2 g3 S) : ∀ i, feet gx g1 g2 g3 i → B ≤ i ∧ i < w.heap.size := by
  rintro i (rfl | rfl | rfl | rfl)
  · exact ⟨h.bx, h.box.lt⟩
  · exact ⟨h.b1, h.b.lt⟩
  · exact ⟨h.b2, h.is.lt⟩
  · exact ⟨h.b3, h.st.lt⟩
theorem RtIn.kept {F : Nat → Prop} (h : RtIn w B gx g1 g2 g3 S) (k : Kept F w w') (hF : ∀ i, feet gx g1 g2 g3 i → ¬ F i) : RtIn w' B gx g1 g2 g3 S :=
  ⟨(k.block gx h.box.lt (hF _ (Or.inl rfl))).trans h.box, h.b.same (k.block g1 h.b.lt (hF _ (Or.inr (Or.inl rfl)))), h.is.same (k.block g2 h.is.lt (hF _ (Or.inr (Or.inr (Or.inl rfl))))), h.st.same (k.block g3 h.st.lt (hF _ (Or.inr (Or.inr (Or.inr rfl))))), h.n1, h.n2, h.n3, h.n4, h.n5, h.n6, h.bx, h.b1, h.b2, h.b3⟩
theorem RtIn.below (h : RtIn w B gx g1 g2 g3 S) (k : Below w.heap.size w w') : RtIn w' B gx g1 g2 g3 S := h.kept (kept_below (fun _ => False) k) (fun _ _ h => h)
end
theorem mk_one {P : Program} (t e : TypeId) (z : Value) (bytes : Nat) (ht : P.underlying t = some (.slice e)) (hi : (P.info? e).map (fun i => (i.zero, i.size, i.bytes)) = some (some z, 1, bytes)) (hz : z.cells = #[z]) (n : Nat) (hn : bytes * n ≤ 281474976710656) (hn2 : n ≤ 1099511627776) (V : World) :
    (Instr.makeSlice t (.int .i64 (n : Int)) (.int .i64 (n : Int))).run P V = .ok (.slice (some ⟨V.heap.size, 0, none⟩) n n) (V.alloc (.cells (madeCells #[z] n) e)) := by
  cases h : P.info? e with
  | none => rw [h] at hi; cases hi
  | some i =>
    rw [h] at hi
    simp only [Option.map_some, Option.some.injEq, Prod.mk.injEq] at hi
    obtain ⟨h1, h2, h3⟩ := hi
    have hr := run_make (P := P) V t e i z ht h h1 .i64 .i64 n n (by omega) (Int.le_refl _) (by rw [h3]; omega) (by omega)
    rw [Int.toNat_natCast, h2, Nat.mul_one, hz] at hr
    exact hr
theorem fm_made (V : World) (g n : Nat) (e : TypeId) (z : Value) (h : Blk V g e (madeCells #[z] n)) : Fm V g e n (fun _ => z) :=
  ⟨_, h, size_madeCells _ _, fun i hi => by
    unfold madeCells
    rw [Array.getElem?_map, Array.getElem?_range]
    simp [hi, Nat.mod_one]⟩
theorem rnew_any (R : Nat) (w : World) (hR : R ≤ 1024) (hR0 : 0 < R) : Calls Tryd.prog 8 #[.int .i64 (R : Int)] w fun e w' => Below w.heap.size w w' ∧ ∃ gx g1 g2 g3, e = .returned (.pointer (some ⟨gx, 0, none⟩)) ∧ RtIn w' w.heap.size gx g1 g2 g3 (emptyT R) := by
  have m1 := fun V => mk_one (P := Tryd.prog) 40 5 (.int .u8 0) 1 Tryd.underlying40 (by kernel_rfl) rfl (255 * R) (by omega) (by omega) V
  have m2 := fun V => mk_one (P := Tryd.prog) 41 4 (.bool false) 1 Tryd.underlying41 (by kernel_rfl) rfl (255 * R) (by omega) (by omega) V
  have m3 := fun V => mk_one (P := Tryd.prog) 41 4 (.bool false) 1 Tryd.underlying41 (by kernel_rfl) rfl (191 * R) (by omega) (by omega) V
  have k0 : (0 : Int) ≤ (R : Int) := Int.natCast_nonneg _
  have k1 : (R : Int) ≤ 1024 := by omega
  rw [show ((255 * R : Nat) : Int) = 255 * (R : Int) by omega] at m1 m2
  rw [show ((191 * R : Nat) : Int) = 191 * (R : Int) by omega] at m3
  go_enter Tryd.func8, Tryd.ntmps8
  go_wp2_with fail
  refine Go.Proofs.YtnjbacdgecoedaaDoor.Rg.region_new [(3, newS (255 * R) 5 (madeCells #[.int .u8 0] (255 * R)) w.heap.size), (6, newS (255 * R) 4 (madeCells #[.bool false] (255 * R)) w.heap.size), (9, newS (191 * R) 4 (madeCells #[.bool false] (191 * R)) w.heap.size)] 10 (by kernel_rfl) (by kernel_rfl) (by kernel_rfl) (lk_cons newS_inh (lk_cons newS_inh (lk_cons newS_inh lk_nil))) (lk_cons newS_mono (lk_cons newS_mono (lk_cons newS_mono lk_nil))) ?_
  intro σ hσ
  simp only [List.take_succ_cons, List.take_zero, List.drop_succ_cons, List.drop_zero]
  refine Go.Proofs.YtnjbacdgecoedaaDoor.Rg.wpN_take 3 (by kernel_rfl) (by kernel_rfl) (by kernel_rfl) ?_
  simp only [List.take_succ_cons, List.take_zero, List.drop_succ_cons, List.drop_zero]
  repeat (go_big_quiet_step (fail))
  refine wpQuiet_nil ?_
  refine wpN_sp _ rfl (by kernel_rfl) (spAt_newS _ _ _ (Nat.le_refl _) (by intro w0; go_simp)) ?_
  simp only [Act.put, List.setIfInBounds_toArray, List.set_cons_zero, List.set_cons_succ]
  refine Go.Proofs.YtnjbacdgecoedaaDoor.Rg.wpN_take 2 (by kernel_rfl) (by kernel_rfl) (by kernel_rfl) ?_
  simp only [List.take_succ_cons, List.take_zero, List.drop_succ_cons, List.drop_zero]
  repeat (go_big_quiet_step (fail))
  refine wpQuiet_nil ?_
  refine wpN_sp _ rfl (by kernel_rfl) (spAt_newS _ _ _ (Nat.le_refl _) (by intro w0; go_simp)) ?_
  simp only [Act.put, List.setIfInBounds_toArray, List.set_cons_zero, List.set_cons_succ]
  refine Go.Proofs.YtnjbacdgecoedaaDoor.Rg.wpN_take 2 (by kernel_rfl) (by kernel_rfl) (by kernel_rfl) ?_
  simp only [List.take_succ_cons, List.take_zero, List.drop_succ_cons, List.drop_zero]
  repeat (go_big_quiet_step (fail))
  refine wpQuiet_nil ?_
  refine wpN_sp _ rfl (by kernel_rfl) (spAt_newS _ _ _ (Nat.le_refl _) (by intro w0; go_simp)) ?_
  simp only [Act.put, List.setIfInBounds_toArray, List.set_cons_zero, List.set_cons_succ]
  refine wpN_nil ?_
  rintro w9 ⟨pq, rfl⟩ hp
  obtain ⟨g1, e1, l1, h1⟩ := hp 3 _ rfl
  obtain ⟨g2, e2, l2, h2⟩ := hp 6 _ rfl
  obtain ⟨g3, e3, l3, h3⟩ := hp 9 _ rfl
  rw [e1, e2, e3]
  clear hp hσ e1 e2 e3
  go_wp2_with fail
  go_ret
  have hb := below_ext w pq
  have hb2 := hb.alloc hb.size (.cells (xbox (emptyT R) g1 g2 g3) 43)
  have l1' : g1 < (ext w pq).heap.size := Blk.lt h1
  have l2' : g2 < (ext w pq).heap.size := Blk.lt h2
  have l3' : g3 < (ext w pq).heap.size := Blk.lt h3
  have h12 : g1 ≠ g2 := Blk.ne_ h1 h2 (by decide)
  have h13 : g1 ≠ g3 := Blk.ne_ h1 h3 (by decide)
  have h23 : g2 ≠ g3 := fun e => by
    subst e
    unfold Blk at h2 h3
    rw [h2] at h3
    injection h3 with h3
    injection h3 with h3 _
    have := congrArg Array.size h3
    rw [size_madeCells, size_madeCells] at this
    omega
  have hx : Blk ((ext w pq).alloc (.cells (xbox (emptyT R) g1 g2 g3) 43)) (ext w pq).heap.size 43 (xbox (emptyT R) g1 g2 g3) := Blk.new _ _ _
  refine ⟨hb2, (ext w pq).heap.size, g1, g2, g3, rfl, ⟨hx, (fm_made _ _ _ _ _ h1).alloc _, (fm_made _ _ _ _ _ h2).alloc _, ((fm_made _ _ _ _ _ h3).alloc _).congr (fun i _ => by simp [emptyT]), by omega, by omega, by omega, h12, h13, h23, hb.size, l1, l2, l3⟩⟩
end Go.Proofs.YtnjbacdgecoedaaDoor.RtM
