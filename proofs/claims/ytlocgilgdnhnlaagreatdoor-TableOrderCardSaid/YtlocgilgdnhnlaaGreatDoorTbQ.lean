/- table: a row's lost, Lost, At. -/
import Derived.Test.YtlocgilgdnhnlaaGreatDoorTbP
namespace Go.Proofs.YtlocgilgdnhnlaaGreatDoor.TbQ
open Go Go.RowKit Go.Proofs.YtlocgilgdnhnlaaGreatDoor.Q Go.Proofs.YtlocgilgdnhnlaaGreatDoor.Mem Go.Proofs.YtlocgilgdnhnlaaGreatDoor.Rg Go.Proofs.YtlocgilgdnhnlaaGreatDoor.Ap Go.Proofs.YtlocgilgdnhnlaaGreatDoor.ApG Go.Proofs.YtlocgilgdnhnlaaGreatDoor.St Go.Proofs.YtlocgilgdnhnlaaGreatDoor.BiW Go.Proofs.YtlocgilgdnhnlaaGreatDoor.Tab Go.Proofs.YtlocgilgdnhnlaaGreatDoor.TlS Go.Proofs.YtlocgilgdnhnlaaGreatDoor.Fl Go.Proofs.YtlocgilgdnhnlaaGreatDoor.TbM Go.Proofs.YtlocgilgdnhnlaaGreatDoor.TbN Go.Proofs.YtlocgilgdnhnlaaGreatDoor.TbO Go.Proofs.YtlocgilgdnhnlaaGreatDoor.TbP Go.Proofs.YtlocgilgdnhnlaaGreatDoor.SeEq

set_option maxRecDepth 100000
theorem run_loadVar_part {P : Program} (w : World) (g o : Nat) (ty : TypeId) (cs : Array Value) (d : TypeDesc) (hc : ∀ j v, cs.toList[j]? = some v → w.cell? ⟨g, o + j, none⟩ = some v)
    (hu : P.underlying ty = some d) (hd : (match d with | .struct _ | .array _ _ => true | _ => false) = true) (hi : (P.info? ty).map (·.size) = some cs.size) :
    (loadVar ty ⟨g, o, none⟩).run P w = .ok (.agg cs) w := by
  have hl : (loadCells ⟨g, o, none⟩ cs.toList.length).run P w = .ok cs.toList.toArray w :=
    run_loadCells_list (P := P) w ⟨g, o, none⟩ cs.toList (fun j v hv => by
      have hadd : (⟨g, o, none⟩ : Addr).add j = ⟨g, o + j, none⟩ := by unfold Addr.add; split <;> simp_all
      rw [hadd]; exact hc j v hv)
  cases hq : P.info? ty with
  | none => simp [hq] at hi
  | some i =>
    have hs : i.size = cs.size := by simpa [hq] using hi
    have hagg : (isAgg ty).run P w = .ok true w := by
      unfold isAgg
      rw [Sem.run_bind, run_underlying hu w]
      cases d <;> simp_all
    simp only [Array.length_toList, Array.toArray_toList] at hl
    simp [loadVar, Sem.run_bind, hagg, sizeOf, typeInfo, hq, hs, hl]
theorem wpList_load_part {P : Program} {ops : Array Oper} {rest : List Oper} {o : Oper} {a : Act} {w : World} {Q : Exit → Act → World → Prop} (hgd : o.guard = none) (ty : TypeId) (x : Operand) (ho : o.op = .load ty x)
    (g off : Nat) (hx : a.eval x = .pointer (some ⟨g, off, none⟩)) (cs : Array Value) (d : TypeDesc) (hc : ∀ j v, cs.toList[j]? = some v → w.cell? ⟨g, off + j, none⟩ = some v)
    (hu : P.underlying ty = some d) (hd : (match d with | .struct _ | .array _ _ => true | _ => false) = true) (hi : (P.info? ty).map (·.size) = some cs.size)
    (h : wpList P ops Q rest (a.put o.dst (.agg cs)) w) : wpList P ops Q (o :: rest) a w := by
  refine wpList_plain hgd fun _ hK => ?_
  unfold Oper.wp execOp
  simp only [ho, hx, Instr.loadAt, Instr.sureAddr, Sem.run_bind, Sem.run_pure, Result.andThen_ok, run_loadVar_part w g off ty cs d hc hu hd hi]
  exact hK _ _ h
/-- which are known, of a row -/
def isRow (S : Tb) (r : Nat) : Array Value := (Array.range 255).map fun c => .bool (S.is (c * S.R + r))
theorem isRow_size (S : Tb) (r : Nat) : (isRow S r).size = 255 := by simp [isRow]
theorem isRow_at (S : Tb) (r c : Nat) (h : c < 255) : (isRow S r)[c]? = some (.bool (S.is (c * S.R + r))) := by
  unfold isRow
  rw [Array.getElem?_map, Array.getElem?_range]
  simp [h]
theorem idx_bool (cs : Array Value) (c : Nat) (b : Bool) (hc : c < 255) (h : cs[c]? = some (.bool b)) (V : World) : (Instr.index 62 (.agg cs) (.int .i64 (c : Int))).run Tryz.prog V = .ok (.bool b) V := by
  have h1 : (0 : Int) ≤ (c : Int) ∧ (c : Int) < ((255 : Nat) : Int) := by omega
  simp [Instr.index, run_underlying Tryz.underlying62, asIntOf, h1, part, go_sem, h, Tryz.isAgg4, Tryz.sizeOf4, Sem.run_bind]
  omega
/-- the columns of a row that are not known -/
def lostN (S : Tb) (r k : Nat) : List Nat := (List.range k).filter fun c => !S.is (c * S.R + r)
def lostL (S : Tb) (r : Nat) : List Nat := lostN S r 255
theorem lostN_succ (S : Tb) (r k : Nat) : lostN S r (k + 1) = if S.is (k * S.R + r) then lostN S r k else lostN S r k ++ [k] := by
  unfold lostN
  rw [List.range_succ, List.filter_append]
  cases h : S.is (k * S.R + r) <;> simp [h]
theorem lostN_len (S : Tb) (r k : Nat) : (lostN S r k).length ≤ k := by
  have := List.length_filter_le (fun c => !S.is (c * S.R + r)) (List.range k)
  rw [List.length_range] at this
  exact this
theorem elemN : Elem Tryz.prog 24 3 1 8 := elem_of Tryz.underlying24 (z := .int .i64 0) (by kernel_rfl) rfl (by decide)
theorem ints_snoc (L : List Nat) (k : Nat) : ints (L ++ [k]) = ints L ++ [.int .i64 (k : Int)] := by simp [ints]
set_option maxHeartbeats 1600000 in
theorem lost_any (w : World) (B gt gr r : Nat) (v : Value) (S : Tb) (h : TbIn w B gt gr v S) (hr : r < S.R) :
    Calls Tryz.prog 23 #[.pointer (some ⟨gr, r * 510, none⟩)] w fun e w' => Below w.heap.size w w' ∧ ∃ v', e = .returned v' ∧ w'.ownsRow w.heap.size 3 1 v' (lostL S r).length (ints (lostL S r)) := by
  have hrr : (r + 1) * 510 ≤ S.R * 510 := Nat.mul_le_mul_right _ hr
  have hcs : ∀ j u, (isRow S r).toList[j]? = some u → w.cell? ⟨gr, r * 510 + 255 + j, none⟩ = some u := fun j u hj => by
    rw [Array.getElem?_toList] at hj
    have hjl : j < 255 := by have := (Array.getElem?_eq_some_iff.1 hj).1; rwa [isRow_size] at this
    rw [isRow_at S r j hjl] at hj
    injection hj with hj
    rw [h.rows.cell (r * 510 + 255 + j) (by omega), rowF_i S r j hjl, hj]
  have hix := fun c hc V => idx_bool (isRow S r) c _ hc (isRow_at S r c hc) V
  have hsz := isRow_size S r
  obtain ⟨C, hC⟩ : ∃ C, isRow S r = C := ⟨_, rfl⟩
  rw [hC] at hcs hix hsz
  clear h hr hrr hC
  have HI := Lib.hid hix
  clear hix
  go_enter Tryz.func23, Tryz.ntmps23
  go_wp2_with (refine wpList_load_part rfl 62 _ rfl gr (r * 510 + 255) rfl C _ hcs Tryz.underlying62 rfl (by rw [hsz]; kernel_rfl) ?_)
  clear hcs
  go_wp2_with fail
  go_loopw [3, 10] (fun out i wr => ∃ k : Nat, k ≤ 255 ∧ i = .int .i64 k ∧ wr.ownsRow w.heap.size 3 1 out (lostN S r k).length (ints (lostN S r k)) ∧ Below w.heap.size w wr) (fun _ i _ => 255 - (intOf i).toNat)
  case atStart => exact ⟨0, by omega, rfl, World.ownsRow_nil _ _ _ _, Below.refl _ _⟩
  case round =>
    obtain ⟨k, hk, rfl, hown, hb⟩ := hrel
    by_cases hkn : k < 255
    · have t0 : decide ((k : Int) < 255) = true := decide_eq_true (by omega)
      have hi := HI.out k hkn
      have hs := lostN_succ S r k
      have hll := lostN_len S r k
      have hbs := hb.size
      obtain ⟨b, hbb⟩ : ∃ b, S.is (k * S.R + r) = b := ⟨_, rfl⟩
      rw [hbb] at hi hs
      clear hbb
      cases b with
      | true =>
        rw [if_pos rfl] at hs
        have HS := Lib.hid hs
        clear hs
        go_wp2_with fail
        go_roundw
        case rel => exact ⟨k + 1, by omega, by go_num, by rw [HS.out]; exact hown, hb⟩
        case measure => simp [intOf]; omega
      | false =>
        rw [if_neg (by decide)] at hs
        have HS := Lib.hid hs
        have hb9 := Blk.new wr 3 #[.int .i64 (k : Int)]
        have hown2 := own_below hown ((Below.refl wr.heap.size wr).alloc (Nat.le_refl _) (.cells #[.int .i64 (k : Int)] 3))
        have hsz2 : w.heap.size ≤ (wr.alloc (.cells #[.int .i64 (k : Int)] 3)).heap.size := by simp; omega
        have hb2 := hb.alloc hbs (.cells #[.int .i64 (k : Int)] 3)
        clear hs hown hb
        go_wp2_with (at_builtin; refine wpList_app rfl _ _ rfl elemN rfl hown2 rfl rfl (blk_news hb9) (by simp [Value.oneCell']) (by omega) (by unfold maxLen; omega) hsz2 ?_)
        intro v9 w8 hown9 hb8
        have hb3 := hb2.trans hb8
        clear hown2 hb9 hb2 hb8
        go_wp2_with fail
        go_roundw
        case rel => exact ⟨k + 1, by omega, by go_num, by rw [HS.out, ints_snoc, List.length_append]; exact hown9, hb3⟩
        case measure => simp [intOf]; omega
    · obtain rfl : k = 255 := by omega
      have t0 : decide (((255 : Nat) : Int) < 255) = false := by decide
      go_wp2_with fail
      go_ret
      exact ⟨hb, _, rfl, hown⟩
theorem Lost_any (w : World) (B gt gr : Nat) (n : Int) (v : Value) (S : Tb) (h : TbIn w B gt gr v S) :
    Calls Tryz.prog 8 #[.pointer (some ⟨gt, 0, none⟩), .int .i64 n] w fun e w' => Below w.heap.size w w' ∧ e = .returned (.tuple #[.int .i64 (if 0 ≤ n ∧ n < S.R then ((lostL S n.toNat).length : Int) else 0), .int .i64 (if 0 ≤ n ∧ n < S.R then 0 else 15)]) := by
  have c0 := Blk.cell h.box 0 (v := .slice (some ⟨gr, 0, none⟩) S.R S.R) rfl
  by_cases h0 : n < 0
  · have t0 : decide (n < 0) = true := decide_eq_true h0
    have HX := Lib.hid (show ¬ (0 ≤ n ∧ n < S.R) from by omega)
    rw [if_neg HX.out, if_neg HX.out]
    clear h h0 c0
    go_enter Tryz.func8, Tryz.ntmps8
    go_wp2_with fail
    go_ret2
    exact ⟨Below.refl _ _, rfl⟩
  · obtain ⟨r, rfl⟩ := Int.eq_ofNat_of_zero_le (Int.not_lt.1 h0)
    have t0 : decide ((r : Int) < 0) = false := decide_eq_false h0
    by_cases h1 : r < S.R
    · have HX := Lib.hid (show 0 ≤ (r : Int) ∧ (r : Int) < S.R from by omega)
      rw [if_pos HX.out, if_pos HX.out, Int.toNat_natCast]
      have kl := lost_any w B gt gr r v S h h1
      have HL := Lib.hid (lostN_len S r 255)
      obtain ⟨L, hL⟩ : ∃ L, lostL S r = L := ⟨_, rfl⟩
      rw [hL] at kl ⊢
      have t1 : decide (S.R ≤ r) = false := decide_eq_false (by omega)
      have k0 : (0 : Int) ≤ (r : Int) := Int.natCast_nonneg _
      have k1 : (r : Int) < (S.R : Int) := by omega
      obtain ⟨R, hRR⟩ : ∃ R, S.R = R := ⟨_, rfl⟩
      rw [hRR] at c0 t1 k1
      clear h h0 h1 HX hRR hL HL
      go_enter Tryz.func8, Tryz.ntmps8
      go_wp2_with fail
      (with_reducible refine (kl).mono ?_); rintro e1 W1 ⟨hb1, v', rfl, hown⟩
      obtain ⟨a', c', rfl⟩ := own_form hown
      clear kl hown
      go_wp2_with fail
      go_ret2
      exact ⟨hb1, rfl⟩
    · have HX := Lib.hid (show ¬ (0 ≤ (r : Int) ∧ (r : Int) < S.R) from by omega)
      rw [if_neg HX.out, if_neg HX.out]
      have t1 : decide (S.R ≤ r) = true := decide_eq_true (by omega)
      obtain ⟨R, hRR⟩ : ∃ R, S.R = R := ⟨_, rfl⟩
      rw [hRR] at c0 t1
      clear h h0 h1 HX hRR
      go_enter Tryz.func8, Tryz.ntmps8
      go_wp2_with fail
      go_ret2
      exact ⟨Below.refl _ _, rfl⟩
/-- a place's byte, if it is known there -/
def atB (S : Tb) (p : Int) : UInt8 := if 0 ≤ p ∧ p < (191 * S.R : Nat) then S.b p.toNat else 0
def atI (S : Tb) (p : Int) : Bool := if 0 ≤ p ∧ p < (191 * S.R : Nat) then S.is p.toNat else false
theorem At_any (w : World) (B gt gr : Nat) (p : Int) (v : Value) (S : Tb) (h : TbIn w B gt gr v S) (hR : S.R ≤ 1024) :
    Calls Tryz.prog 40 #[.pointer (some ⟨gt, 0, none⟩), .int .i64 p] w fun e w' => Below w.heap.size w w' ∧ e = .returned (.tuple #[.int .u8 ((atB S p).toNat : Int), .bool (atI S p)]) := by
  have kd := data_any w B gt gr v S h hR
  by_cases h0 : p < 0
  · have t0 : decide (p < 0) = true := decide_eq_true h0
    have HX := Lib.hid (show atB S p = 0 ∧ atI S p = false from ⟨if_neg (by omega), if_neg (by omega)⟩)
    rw [HX.out.1, HX.out.2]
    clear h h0 kd
    go_enter Tryz.func40, Tryz.ntmps40
    go_wp2_with fail
    go_ret2
    exact ⟨Below.refl _ _, rfl⟩
  · obtain ⟨q, rfl⟩ := Int.eq_ofNat_of_zero_le (Int.not_lt.1 h0)
    have t0 : decide ((q : Int) < 0) = false := decide_eq_false h0
    by_cases h1 : q < 191 * S.R
    · have HX := Lib.hid (show atB S q = S.b q ∧ atI S q = S.is q from ⟨if_pos (by omega), if_pos (by omega)⟩)
      rw [HX.out.1, HX.out.2]
      have t1 : decide (191 * S.R ≤ q) = false := decide_eq_false (by omega)
      have hq : q < 255 * S.R := by omega
      have kp := place_any w B gt gr q v S h hR hq
      obtain ⟨d1, d2, d3⟩ := div_lt hq
      have hrr : (q % S.R + 1) * 510 ≤ S.R * 510 := Nat.mul_le_mul_right _ d1
      have x0 := h.rows.cell (q % S.R * 510 + q / S.R) (by omega)
      have x1 := h.rows.cell (q % S.R * 510 + 255 + q / S.R) (by omega)
      rw [rowF_b S _ _ d2, d3] at x0
      rw [rowF_i S _ _ d2, d3] at x1
      have hgl := h.rows.lt
      obtain ⟨r, hr⟩ : ∃ r, q % S.R = r := ⟨_, rfl⟩
      obtain ⟨c, hc⟩ : ∃ c, q / S.R = c := ⟨_, rfl⟩
      obtain ⟨D, hD⟩ : ∃ D, 191 * S.R = D := ⟨_, rfl⟩
      obtain ⟨bb, hbb⟩ : ∃ bb, S.b q = bb := ⟨_, rfl⟩
      obtain ⟨ii, hii⟩ : ∃ ii, S.is q = ii := ⟨_, rfl⟩
      rw [hr, hc] at kp x0 x1
      rw [hc] at d2
      rw [hD] at kd t1
      rw [hbb] at x0 ⊢
      rw [hii] at x1 ⊢
      have k0 : (0 : Int) ≤ (c : Int) := Int.natCast_nonneg _
      have k1 : (c : Int) < 255 := by omega
      clear h h0 h1 hq d1 d3 hrr hr hc hD hbb hii HX hR
      go_enter Tryz.func40, Tryz.ntmps40
      go_wp2_with fail
      (with_reducible refine (kd).mono ?_); rintro e1 W1 ⟨rfl, rfl⟩
      go_wp2_with fail
      (with_reducible refine (kp).mono ?_); rintro e1 W1 ⟨rfl, hb1⟩
      have y0 := fun p => cell_ext (w := W1) (Nat.lt_of_lt_of_le hgl hb1.size) ((hb1.cell (p := ⟨gr, _, none⟩) hgl).trans x0) p
      have y1 := fun p => cell_ext (w := W1) (Nat.lt_of_lt_of_le hgl hb1.size) ((hb1.cell (p := ⟨gr, _, none⟩) hgl).trans x1) p
      clear kd kp x0 x1
      unfold u8v at y0
      go_wp2_with fail
      refine Go.Proofs.YtlocgilgdnhnlaaGreatDoor.Q.region_ext (by kernel_rfl) (by kernel_rfl) ?_
      repeat (go_big_quiet_step (fail))
      refine wpQuiet_nil ?_
      rintro w9 ⟨pq, rfl⟩
      have hb2 := hb1.trans ((below_ext W1 pq).mono hb1.size)
      go_wp2_with fail
      go_ret2
      exact ⟨hb2, rfl⟩
    · have HX := Lib.hid (show atB S q = 0 ∧ atI S q = false from ⟨if_neg (by omega), if_neg (by omega)⟩)
      rw [HX.out.1, HX.out.2]
      have t1 : decide (191 * S.R ≤ q) = true := decide_eq_true (by omega)
      obtain ⟨D, hD⟩ : ∃ D, 191 * S.R = D := ⟨_, rfl⟩
      rw [hD] at kd t1
      clear h h0 h1 hD HX
      go_enter Tryz.func40, Tryz.ntmps40
      go_wp2_with fail
      (with_reducible refine (kd).mono ?_); rintro e1 W1 ⟨rfl, rfl⟩
      go_wp2_with fail
      go_ret2
      exact ⟨Below.refl _ _, rfl⟩
end Go.Proofs.YtlocgilgdnhnlaaGreatDoor.TbQ
