/- link: the chapter's example. -/
import Derived.Test.YtbiiehobfnbloaaGreatDoorLkRef3
import Derived.Deep.Cut
namespace Go.Proofs.YtbiiehobfnbloaaGreatDoor.LkAw
open Go.RowKit Go.Proofs.YtbiiehobfnbloaaGreatDoor.Q Go.Proofs.YtbiiehobfnbloaaGreatDoor.Mem Go.Proofs.YtbiiehobfnbloaaGreatDoor.PkCut Go.Proofs.YtbiiehobfnbloaaGreatDoor.LkHarm Go.Proofs.YtbiiehobfnbloaaGreatDoor.LkPass Go.Proofs.YtbiiehobfnbloaaGreatDoor.LkRef Go.Proofs.YtbiiehobfnbloaaGreatDoor.LkRef2 Go.Proofs.YtbiiehobfnbloaaGreatDoor.LkRef3

def bZ : ByteArray := ⟨(List.replicate 188 0).toArray⟩
def bO : ByteArray := ⟨(1 :: List.replicate 187 0).toArray⟩
theorem cutZO : cutP (bZ ++ bO) = [bZ, bO] := by kernel_rfl
theorem size_ZO : (bZ ++ bO).size = 376 := by kernel_rfl
theorem size_Z : bZ.size = 188 := by kernel_rfl
theorem size_O : bO.size = 188 := by kernel_rfl
theorem pass_1 : pass [⟨3, 1, 0, 0⟩] (cutP (bZ ++ bO)) = some [bZ, bZ] := by rw [cutZO]; rfl
theorem pass_2 : pass [⟨4, 0, 0, 0⟩] (cutP (bZ ++ bO)) = some [bO, bZ] := by rw [cutZO]; rfl
theorem pass_3 : pass [⟨1, 0, 0, 0⟩] (cutP (bZ ++ bO)) = some [ByteArray.empty, bO] := by rw [cutZO]; rfl

/-- the two packets lie there -/
structure Ab (w V : World) : Prop where
  a : ∀ j, j < 188 → V.cell? ⟨w.heap.size, j, none⟩ = some (.int .u8 ((bZ.data[j]?.getD 0).toNat : Int))
  b : ∀ j, j < 188 → V.cell? ⟨w.heap.size + 1, j, none⟩ = some (.int .u8 ((bO.data[j]?.getD 0).toNat : Int))
  be : Below w.heap.size w V
  lt : w.heap.size + 1 < V.heap.size
theorem Ab.below {w V V' : World} (h : Ab w V) (hb : Below V.heap.size V V') : Ab w V' :=
  ⟨fun j hj => (hb.cell (p := ⟨w.heap.size, j, none⟩) (by have := h.lt; show w.heap.size < V.heap.size; omega)).trans (h.a j hj), fun j hj => (hb.cell (p := ⟨w.heap.size + 1, j, none⟩) h.lt).trans (h.b j hj), h.be.trans (hb.mono h.be.size), Nat.lt_of_lt_of_le h.lt hb.size⟩
theorem conv_all {V : World} {g : Nat} {s : ByteArray} (hs : s.size = 188) (h : ∀ j, j < 188 → V.cell? ⟨g, j, none⟩ = some (.int .u8 ((s.data[j]?.getD 0).toNat : Int))) :
    (convert 145 9 (.slice (some ⟨g, 0, none⟩) 188 188)).run Tryz.prog V = .ok (.string s) V := by
  have hl : s.data.toList.length = 188 := by rw [Array.length_toList]; exact hs
  have := run_convert_bytes_back (P := Tryz.prog) V 145 9 5 ⟨g, 0, none⟩ 188 s.data.toList Tryz.underlying145 Tryz.underlying5 Tryz.underlying9 (fun j hj => by
    have hp : (⟨g, 0, none⟩ : Addr).add j = ⟨g, j, none⟩ := by unfold Addr.add; split <;> simp_all
    rw [hp, h j (by omega), ← Array.getElem?_toList, List.getElem?_eq_getElem hj]
    rfl)
  rw [hl] at this
  simpa using this
theorem Ab.ca {w V : World} (h : Ab w V) : (convert 145 9 (.slice (some ⟨w.heap.size, 0, none⟩) 188 188)).run Tryz.prog V = .ok (.string bZ) V := conv_all size_Z h.a
theorem Ab.cb {w V : World} (h : Ab w V) : (convert 145 9 (.slice (some ⟨w.heap.size + 1, 0, none⟩) 188 188)).run Tryz.prog V = .ok (.string bO) V := conv_all size_O h.b

def zc : Array Value := Array.replicate 188 (.int .u8 0)
theorem mk_run (w : World) : (Instr.makeSlice 145 (.int .i64 188) (.int .i64 188)).run Tryz.prog w = .ok (.slice (some ⟨w.heap.size, 0, none⟩) 188 188) (w.alloc (.cells zc 5)) := by kernel_rfl
theorem rep_v (n j : Nat) (hj : j < n) (v : Value) : (Array.replicate n v)[j]? = some v := by rw [Array.getElem?_replicate, if_pos hj]
theorem rep_b (n j : Nat) : (⟨(List.replicate n 0).toArray⟩ : ByteArray).data[j]?.getD 0 = 0 := by
  show (List.replicate n (0 : UInt8)).toArray[j]?.getD 0 = 0
  rw [List.getElem?_toArray, List.getElem?_replicate]
  split <;> rfl
theorem rep_c (n j : Nat) : (⟨(1 :: List.replicate n 0).toArray⟩ : ByteArray).data[j]?.getD 0 = if j = 0 then 1 else 0 := by
  show (1 :: List.replicate n (0 : UInt8)).toArray[j]?.getD 0 = _
  rw [List.getElem?_toArray]
  cases j with
  | zero => rfl
  | succ j =>
    rw [List.getElem?_cons_succ, List.getElem?_replicate, show (if j + 1 = 0 then (1 : UInt8) else 0) = 0 from if_neg (by omega)]
    split <;> rfl
theorem zc_at (j : Nat) (hj : j < 188) : zc[j]? = some (.int .u8 0) := rep_v 188 j hj _
theorem zc_size : zc.size = 188 := Array.size_replicate
theorem ab_make (w : World) : Ab w ((w.alloc (.cells zc 5)).alloc (.cells (zc.setIfInBounds 0 (.int .u8 1)) 5)) := by
  have q1 : Blk (w.alloc (.cells zc 5)) w.heap.size 5 zc := Blk.new w _ _
  have q2 : Blk ((w.alloc (.cells zc 5)).alloc (.cells (zc.setIfInBounds 0 (.int .u8 1)) 5)) (w.heap.size + 1) 5 _ := Blk.newAt _ _ _ (by simp)
  refine ⟨fun j hj => ?_, fun j hj => ?_, ((Below.refl _ _).alloc (Nat.le_refl _) _).alloc (by simp) _, by simp⟩
  · have e : bZ.data[j]?.getD 0 = 0 := rep_b 188 j
    rw [e]
    exact Blk.cell (q1.alloc _) j (zc_at j hj)
  · have e : bO.data[j]?.getD 0 = if j = 0 then 1 else 0 := rep_c 187 j
    rw [e]
    by_cases e : j = 0
    · subst e
      rw [if_pos rfl]
      exact Blk.cell q2 0 (by rw [Array.getElem?_setIfInBounds, if_pos rfl, if_pos (by rw [zc_size]; omega)]; rfl)
    · rw [if_neg e]
      exact Blk.cell q2 j (by rw [Array.getElem?_setIfInBounds, if_neg (fun h => e h.symm), zc_at j hj]; rfl)

theorem alloc_new (V : World) (o : Obj) : Below V.heap.size V (V.alloc o) := (Below.refl _ _).alloc (Nat.le_refl _) o
theorem harm_box (V : World) (d s : Int) (hd : -9223372036854775808 ≤ d ∧ d ≤ 9223372036854775807) (hs : -9223372036854775808 ≤ s ∧ s ≤ 9223372036854775807) : Harms (V.alloc (.cells #[.int .i64 d, .int .i64 s, .int .i64 0, .int .u8 0] 175)) (some ⟨V.heap.size, 0, none⟩) [⟨d, s, 0, 0⟩] := fun i x hi => by
  have q : Blk (V.alloc (.cells #[.int .i64 d, .int .i64 s, .int .i64 0, .int .u8 0] 175)) V.heap.size 175 _ := Blk.new V _ _
  cases i with
  | succ i => simp at hi
  | zero =>
    simp at hi
    subst hi
    exact ⟨_, 0, rfl, Blk.lt q, Blk.cell q 0 rfl, Blk.cell q 1 rfl, Blk.cell q 2 rfl, Blk.cell q 3 rfl, hd, hs, show (-9223372036854775808 : Int) ≤ 0 ∧ (0 : Int) ≤ 9223372036854775807 by omega, show (0 : Int) ≤ 0 ∧ (0 : Int) < 256 by omega⟩

structure Two (W : World) (g : Nat) (A B : ByteArray) : Prop where
  x : W.cell? ⟨g, 0, none⟩ = some (.string A)
  y : W.cell? ⟨g, 1, none⟩ = some (.string B)
  lt : g < W.heap.size
theorem Two.below {W W' : World} {g : Nat} {A B : ByteArray} (h : Two W g A B) (hb : Below W.heap.size W W') : Two W' g A B :=
  ⟨(hb.cell (p := ⟨g, 0, none⟩) h.lt).trans h.x, (hb.cell (p := ⟨g, 1, none⟩) h.lt).trans h.y, Nat.lt_of_lt_of_le h.lt hb.size⟩
theorem pass_lit (V : World) (d s : Int) (hd : -9223372036854775808 ≤ d ∧ d ≤ 9223372036854775807) (hs : -9223372036854775808 ≤ s ∧ s ≤ 9223372036854775807) (A B : ByteArray) (hp : LkPass.pass [⟨d, s, 0, 0⟩] (cutP (bZ ++ bO)) = some [A, B]) :
    Calls Tryz.prog 79 #[.string (bZ ++ bO), .slice (some ⟨V.heap.size, 0, none⟩) 1 1] (V.alloc (.cells #[.int .i64 d, .int .i64 s, .int .i64 0, .int .u8 0] 175)) fun e W =>
      ∃ g c, e = .returned (.tuple #[.slice (some ⟨g, 0, none⟩) 2 c, .int .i64 0]) ∧ Two W g A B ∧ Below V.heap.size V W := by
  have kp := pass_any (bZ ++ bO) (some ⟨V.heap.size, 0, none⟩) 1 [⟨d, s, 0, 0⟩] _ (by rw [size_ZO]; omega) (by simp) (by rw [size_ZO]) (harm_box V d s hd hs)
  rw [hp] at kp
  refine kp.mono fun e W h => ?_
  obtain ⟨⟨a, c, he, hown⟩, hb⟩ := h
  obtain ⟨_, a', c', hv, hg⟩ := own_form hown
  obtain ⟨g, rfl⟩ := hg (by simp)
  simp only [Value.slice.injEq, true_and] at hv
  obtain ⟨rfl, rfl⟩ := hv
  have hown2 : W.ownsRow _ 9 1 (.slice (some ⟨g, 0, none⟩) 2 c) 2 ([A, B].map .string) := hown
  exact ⟨g, c, he, ⟨row_at hown2 (k := 0) (by omega), row_at hown2 (k := 1) (by omega), (hown2.lt g rfl).2⟩, (alloc_new V _).trans (hb.mono (by simp))⟩


set_option maxRecDepth 100000 in
set_option maxHeartbeats 1000000 in
theorem awake_any (w : World) : Calls Tryz.prog 26 #[] w fun e w' => e = .returned (.bool true) ∧ Below w.heap.size w w' := by
  have hmk := mk_run
  have hc : ((w.alloc (.cells zc 5)).alloc (.cells zc 5)).cell? ⟨w.heap.size + 1, 0, none⟩ = some (.int .u8 0) := Blk.cell (Blk.newAt _ _ _ (by simp)) 0 (zc_at 0 (by omega))
  have hf : ((w.alloc (.cells zc 5)).alloc (.cells zc 5)).frozen? ⟨w.heap.size + 1, 0, none⟩ = false := Blk.frozen (t := 5) (cs := zc) (Blk.newAt _ _ _ (by simp)) 0
  go_enter Tryz.func26, Tryz.ntmps26
  go_upto_region 4 with (fail)
  refine wp_gen (fun V => Ab w V) (ab_make w) ?_
  intro V hA
  clear hmk hc hf
  have hadd : ∀ U : World, (Op.stringOp .add bZ bO).run Tryz.prog U = .ok (.string (bZ ++ bO)) U := fun U => run_string_add_sum U _ _ (by rw [size_Z, size_O]; omega)
  have ca := hA.ca
  have cb := hA.cb
  go_wp2_with fail
  (with_reducible refine (pass_lit V 3 1 (by omega) (by omega) _ _ pass_1).mono ?_); rintro e V1 ⟨g1, cg1, rfl, tg1, hb⟩
  have hV1 := hA.below hb
  clear ca cb
  clear hA hb
  have ca := hV1.ca
  have cb := hV1.cb
  go_wp2_with fail
  (with_reducible refine (pass_lit V1 4 0 (by omega) (by omega) _ _ pass_2).mono ?_); rintro e V2 ⟨g2, cg2, rfl, tg2, hb⟩
  have hV2 := hV1.below hb
  clear ca cb
  have ug1 := tg1.below hb
  clear hV1 tg1 hb
  have ca := hV2.ca
  have cb := hV2.cb
  go_wp2_with fail
  (with_reducible refine (pass_lit V2 1 0 (by omega) (by omega) _ _ pass_3).mono ?_); rintro e V3 ⟨g3, cg3, rfl, tg3, hb⟩
  have hV3 := hV2.below hb
  clear ca cb
  have vg1 := ug1.below hb
  have vg2 := tg2.below hb
  clear hV2 ug1 tg2 hb
  go_wp2_with fail
  have ca := fun p => (hV3.below (below_ext V3 p)).ca
  have cb := fun p => (hV3.below (below_ext V3 p)).cb
  have x1 := fun p => (vg1.below (below_ext V3 p)).y
  have x2 := fun p => (vg2.below (below_ext V3 p)).x
  have x3 := fun p => (vg2.below (below_ext V3 p)).y
  have x4 := fun p => (tg3.below (below_ext V3 p)).x
  have x5 := fun p => (tg3.below (below_ext V3 p)).y
  refine Go.Proofs.YtbiiehobfnbloaaGreatDoor.Q.region_ext (by kernel_rfl) (by kernel_rfl) ?_
  repeat (go_big_quiet_step (fail))
  refine wpQuiet_nil ?_
  rintro w9 ⟨pq, rfl⟩
  have hb := hV3.be.trans ((below_ext V3 pq).mono hV3.be.size)
  clear ca cb x1 x2 x3 x4 x5 hV3 vg1 vg2 tg3 hadd
  go_wp2_with fail
  go_ret
  exact ⟨rfl, hb⟩
end Go.Proofs.YtbiiehobfnbloaaGreatDoor.LkAw
