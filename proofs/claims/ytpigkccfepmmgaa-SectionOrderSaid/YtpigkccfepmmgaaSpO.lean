/- SectionOrder: the walk. -/
import Derived.Test.YtpigkccfepmmgaaSpP
import Derived.Deep.MidRow
namespace Go.Proofs.Ytpigkccfepmmgaa.SpO
open Go Go.RowKit Go.Proofs.Ytpigkccfepmmgaa.Q Go.Proofs.Ytpigkccfepmmgaa.Mem Go.Proofs.Ytpigkccfepmmgaa.Rg Go.Proofs.Ytpigkccfepmmgaa.Ap Go.Proofs.Ytpigkccfepmmgaa.St Go.Proofs.Ytpigkccfepmmgaa.SeA Go.Proofs.Ytpigkccfepmmgaa.SeE Go.Proofs.Ytpigkccfepmmgaa.SeEq Go.Proofs.Ytpigkccfepmmgaa.SpA Go.Proofs.Ytpigkccfepmmgaa.SpB Go.Proofs.Ytpigkccfepmmgaa.SpP

/-- values put into a list -/
def lput : List Value → Nat → List Value → List Value
  | xs, _, [] => xs
  | xs, o, v :: r => lput (xs.set o v) (o + 1) r
theorem lput_app (a : List Value) : ∀ (vs r : List Value) (o : Nat), lput (a ++ r) (a.length + o) vs = a ++ lput r o vs
  | [], _, _ => rfl
  | v :: vs, r, o => by
    rw [lput, lput, List.set_append_right _ _ (by omega), show a.length + o - a.length = o by omega, Nat.add_assoc]
    exact lput_app a vs _ _
theorem lput_flat (s : Sc) : ∀ (L : List Sc) (i : Nat), i < L.length → lput (flat enSc L) (i * 8) (enSc s) = flat enSc (L.set i s)
  | [], i, h => by simp at h
  | y :: t, 0, _ => by
    show lput (enSc y ++ flat enSc t) 0 (enSc s) = enSc s ++ flat enSc t
    rfl
  | y :: t, i + 1, h => by
    show lput (enSc y ++ flat enSc t) ((i + 1) * 8) (enSc s) = enSc y ++ flat enSc (t.set i s)
    rw [show (i + 1) * 8 = (enSc y).length + i * 8 by rw [enSc_len]; omega, lput_app, lput_flat s t i (by simpa using h)]
section
variable {w : World} {B g n c : Nat} {e : TypeId}
theorem own_lput : ∀ (vs _xs : List Value) (o : Nat) (_w : World), _w.ownsRow B e 8 (.slice (some ⟨g, 0, none⟩) n c) n _xs → (_w.setCells g o vs).ownsRow B e 8 (.slice (some ⟨g, 0, none⟩) n c) n (lput _xs o vs)
  | [], _, _, _, h => h
  | v :: r, _, o, _, h => own_lput r _ _ _ (h.stored o v).1
theorem own_set8 {L : List Sc} (hn : L.length = n) (h : w.ownsRow B e 8 (.slice (some ⟨g, 0, none⟩) n c) n (flat enSc L)) {i : Nat} (hi : i < n) (s : Sc) : (w.setCells g (i * 8) (enSc s)).ownsRow B e 8 (.slice (some ⟨g, 0, none⟩) n c) n (flat enSc (L.set i s)) := by
  rw [← lput_flat s L i (by omega)]
  exact own_lput _ _ _ _ h
theorem own_there {L : List Sc} (hn : L.length = n) (h : w.ownsRow B e 8 (.slice (some ⟨g, 0, none⟩) n c) n (flat enSc L)) {i : Nat} (hi : i < n) : w.there g (i * 8) 8 := fun j hj => by
  have hl : (flat enSc L).length = n * 8 := by rw [flat_length enSc_len, hn]
  refine ⟨?_, h.frozenAt _⟩
  rw [h.cellAt _ (by omega), List.getElem?_eq_getElem (by omega)]
  rfl
end
/-- which of n places an int means -/
theorem place_of (x : Int) {n : Nat} (hn : 0 < n) : ∃ (r : Int) (i : Nat), x.tmod n = r ∧ -(n : Int) < r ∧ r < n ∧ (r + n).tmod n = i ∧ (r + n) % n = i ∧ i < n := by
  have h1 : -(n : Int) < x.tmod n ∧ x.tmod n < n := by
    have := Int.tmod_lt_of_pos x (show (0 : Int) < n by omega)
    refine ⟨?_, this⟩
    have h2 := Int.tmod_lt_of_pos (-x) (show (0 : Int) < n by omega)
    rw [Int.neg_tmod] at h2
    omega
  have h3 := Int.emod_nonneg (x.tmod n + n) (show (n : Int) ≠ 0 by omega)
  have h4 := Int.emod_lt_of_pos (x.tmod n + n) (show (0 : Int) < n by omega)
  exact ⟨x.tmod n, ((x.tmod n + n) % n).toNat, rfl, h1.1, h1.2, by rw [Int.tmod_eq_emod_of_nonneg (by omega)]; omega, by omega, by omega⟩
theorem own_cells {w : World} {B g n c : Nat} {e' : TypeId} {L : List Sc} (hn : L.length = n) (h : w.ownsRow B e' 8 (.slice (some ⟨g, 0, none⟩) n c) n (flat enSc L)) {k : Nat} {s : Sc} (hk : L[k]? = some s) :
    w.cell? ⟨g, k * 8, none⟩ = some (.int .i64 s.table) ∧ w.cell? ⟨g, k * 8 + 1, none⟩ = some (.bool s.priv) ∧ w.cell? ⟨g, k * 8 + 2, none⟩ = some (.int .i64 s.ext) ∧ w.cell? ⟨g, k * 8 + 3, none⟩ = some (.int .i64 s.version) ∧
      w.cell? ⟨g, k * 8 + 4, none⟩ = some (.bool s.now) ∧ w.cell? ⟨g, k * 8 + 5, none⟩ = some (.int .i64 s.number) ∧ w.cell? ⟨g, k * 8 + 6, none⟩ = some (.int .i64 s.last) ∧ w.cell? ⟨g, k * 8 + 7, none⟩ = some (.string s.body) := by
  obtain ⟨t, p, e, v, nn, m, l, x⟩ := s
  obtain ⟨b, o, e1, _, c0, c1, c2, c3, c4, c5, c6, c7⟩ := seq_cells (own_seq enSc_len h hn) hk
  simp only [Option.some.injEq, Addr.mk.injEq] at e1
  obtain ⟨rfl, rfl, _⟩ := e1
  simp only [Nat.zero_add] at c0 c1 c2 c3 c4 c5 c6 c7
  exact ⟨c0, c1, c2, c3, c4, c5, c6, c7⟩
theorem seq_cells' {w : World} {a : Option Addr} {L : List Sc} (h : Seq enSc 8 w a L) {k : Nat} {s : Sc} (hk : L[k]? = some s) : ∃ b o, a = some ⟨b, o, none⟩ ∧ b < w.heap.size ∧ True := by
  obtain ⟨b, o, e1, hlt, _⟩ := h k _ hk
  exact ⟨b, o, e1, hlt, trivial⟩
theorem seq_take {w : World} {a : Option Addr} {L : List Sc} (h : Seq enSc 8 w a L) (n : Nat) : Seq enSc 8 w a (L.take n) := fun i s hi => h i s (by
  have hlt : i < n := by
    have := (List.getElem?_eq_some_iff.1 hi).1
    rw [List.length_take] at this; omega
  rw [List.getElem?_take_of_lt hlt] at hi; exact hi)
theorem seq_drop {w : World} {g o o' : Nat} {L : List Sc} (h : Seq enSc 8 w (some ⟨g, o, none⟩) L) (n : Nat) (ho : n < L.length → o' = o + n * 8) : Seq enSc 8 w (some ⟨g, o', none⟩) (L.drop n) := fun i s hi => by
  have hn : n < L.length := by
    have := (List.getElem?_eq_some_iff.1 hi).1
    rw [List.length_drop] at this; omega
  rw [List.getElem?_drop] at hi
  obtain ⟨b, o2, e, hlt, hc⟩ := h (n + i) s hi
  simp only [Option.some.injEq, Addr.mk.injEq] at e
  obtain ⟨rfl, rfl, _⟩ := e
  refine ⟨g, o', rfl, hlt, fun j u hj => ?_⟩
  have := hc j u hj
  rw [off_eq] at this ⊢
  rw [ho hn, show o + n * 8 + i * 8 + j = o + (n + i) * 8 + j by omega]
  exact this
theorem szTS (V : World) : (sizeOf 23).run Try.prog V = .ok 8 V := Try.sizeOf23 V
theorem elLS : Try.prog.elem 36 = 23 := by kernel_rfl
theorem undLS : Try.prog.underlying 36 = some (.slice (Try.prog.elem 36)) := by kernel_rfl
theorem cutH8 (g o L C n : Nat) (h : n ≤ C) (V : World) : (Instr.slice 36 (.slice (some ⟨g, o, none⟩) L C) none (some (.int .i64 (n : Int))) none).run Try.prog V = .ok (.slice (some ⟨g, o, none⟩) n C) V := by
  rw [run_slice_h V 36 _ L C undLS .i64 n (by omega) (by omega), elLS, szTS]
  simp only [Result.andThen, Int.toNat_natCast, sliced, Nat.zero_mul, Nat.sub_zero]
  split <;> simp [add_off]
theorem cutL8 (g o L C n : Nat) (h : n + 1 ≤ L) : ∃ o', (∀ V : World, (Instr.slice 36 (.slice (some ⟨g, o, none⟩) L C) (some (.int .i64 ((n : Int) + 1))) none none).run Try.prog V = .ok (.slice (some ⟨g, o', none⟩) (L - (n + 1)) (C - (n + 1))) V) ∧ (n + 1 < C → o' = o + (n + 1) * 8) := by
  by_cases hc : C = n + 1
  · refine ⟨o, fun V => ?_, fun hh => by omega⟩
    rw [run_slice_l V 36 _ L C undLS .i64 ((n : Int) + 1) (by omega) (by omega), elLS, szTS]
    simp only [Result.andThen, sliced]
    rw [show ((n : Int) + 1).toNat = n + 1 by omega, if_pos hc]
  · refine ⟨o + (n + 1) * 8, fun V => ?_, fun _ => rfl⟩
    rw [run_slice_l V 36 _ L C undLS .i64 ((n : Int) + 1) (by omega) (by omega), elLS, szTS]
    simp only [Result.andThen, sliced]
    rw [show ((n : Int) + 1).toNat = n + 1 by omega, if_neg hc]
    simp [add_off]
theorem set_same {L : List Sc} {i : Nat} {s : Sc} (h : L[i]? = some s) : L.set i s = L := by
  obtain ⟨hlt, rfl⟩ := List.getElem?_eq_some_iff.1 h
  exact List.set_getElem_self hlt
theorem jo_nob {L : List Sc} {e : Int} (h : joE L = e) (h0 : e ≠ 0) : joS L = nob := by unfold joS; rw [if_neg (by rw [h]; exact h0)]
theorem flat_ext {s : Sc} : ∀ {L : List Sc} {i : Nat}, L[i]? = some s → (flat enSc L).set (i * 8 + 2) (.int .i64 9) = flat enSc (L.set i (ext9 s))
  | [], i, h => by simp at h
  | y :: t, 0, h => by
    simp at h; subst h
    rfl
  | y :: t, i + 1, h => by
    show (enSc y ++ flat enSc t).set ((i + 1) * 8 + 2) (.int .i64 9) = enSc y ++ flat enSc (t.set i (ext9 s))
    rw [List.set_append_right _ _ (by rw [enSc_len]; omega), enSc_len, show (i + 1) * 8 + 2 - 8 = i * 8 + 2 by omega, flat_ext (by simpa using h)]
theorem any_gen {F : World → Prop} {w : World} (S : World → Prop) (hS : S w) (h : ∀ V, S V → F V) : F w := h w hS
theorem enSc_one (s : Sc) : ∀ u ∈ enSc s, u.oneCell' = true := fun u hu => by
  simp [enSc, Sc.vals] at hu
  rcases hu with rfl | rfl | rfl | rfl | rfl | rfl | rfl | rfl <;> rfl
section
variable {ops : Array Oper} {rest : List Oper} {o : Oper} {a : Act} {w : World} {Q : Exit → Act → World → Prop}
/-- 'append([]section.Section(nil), l...)' -/
theorem wpList_copy (hgd : o.guard = none) (s x : Operand) (ho : o.op = .call { callee := .builtin .append, args := #[s, x], argTypes := #[36, 36] }) {L : List Sc} {m c : Nat} {ad : Option Addr} (hs : a.eval s = .slice none 0 0)
    (hx : a.eval x = .slice ad m c) (hm : L.length = m) (h0 : 0 < m) (h3 : m ≤ 3) (hnil : ad = none → m = 0 ∧ c = 0) (hL : Seq enSc 8 w ad L) (hform : ∀ a', ad = some a' → ∃ b o, a' = ⟨b, o, none⟩)
    (h : ∀ g c' w', w'.ownsRow w.heap.size 23 8 (.slice (some ⟨g, 0, none⟩) m c') m (flat enSc L) → Below w.heap.size w w' → wpList Try.prog ops Q rest (a.put o.dst (.slice (some ⟨g, 0, none⟩) m c')) w') : wpList Try.prog ops Q (o :: rest) a w :=
  wpList_appS (A := []) (L := L) (n := 0) (m := m) hgd s x ho enSc_len enSc_one elemTS hs rfl (World.ownsRow_nil w w.heap.size 23 8) hx hm hnil hL hform (by omega) (by unfold maxLen; omega) (Nat.le_refl _) fun v' w' ho hb => by
    rw [Nat.zero_add, List.nil_append] at ho
    obtain ⟨g, c', e, _⟩ := ho.form h0
    subst e
    exact h g c' w' ho hb
end
set_option maxRecDepth 100000
set_option maxHeartbeats 1600000 in
theorem order_any (b : ByteArray) (x y : Int) (w : World) : Calls Try.prog 5 #[.string b, .agg #[.int .i64 x, .int .i64 y]] w fun e w' => e = .returned (.bool true) ∧ Below w.heap.size w w' := by
  have kaw := fun V => awake_any V
  have hw0 := (Below.refl w.heap.size w).alloc (Nat.le_refl _) (.cells #[.int .i64 x, .int .i64 y] 46)
  by_cases h1 : b.size ≤ 4084
  · have t1 : decide ((b.size : Int) ≤ 4084) = true := by simp; omega
    clear h1
    go_enter Try.func5, Try.ntmps5
    go_wp2_with fail
    (with_reducible refine (kaw _).mono ?_); rintro e1 W1 ⟨rfl, hb1⟩
    go_wp2_with fail
    go_ret
    exact ⟨rfl, hw0.trans (hb1.mono hw0.size)⟩
  by_cases h2 : 9000 < b.size
  · have t1 : decide ((b.size : Int) ≤ 4084) = false := by simp; omega
    have t2 : decide (9000 < (b.size : Int)) = true := by simp; omega
    clear h1 h2
    go_enter Try.func5, Try.ntmps5
    go_wp2_with fail
    (with_reducible refine (kaw _).mono ?_); rintro e1 W1 ⟨rfl, hb1⟩
    go_wp2_with fail
    go_ret
    exact ⟨rfl, hw0.trans (hb1.mono hw0.size)⟩
  have t1 : decide ((b.size : Int) ≤ 4084) = false := by simp; omega
  have t2 : decide (9000 < (b.size : Int)) = false := by simp; omega
  have ks := fun V => split_any 9 8 7 b V (by omega)
  have hg := good987 (b := b) (by omega)
  have hM2 : 2 ≤ many b.size ∧ many b.size ≤ 3 := by unfold many; omega
  have hjs := jo_spl hg
  have hjw := fun i k => @jo_swap 9 8 7 b hg i k
  have hjl := fun i hi => @jo_less 9 8 7 b hg i hi hM2.1
  have hjo := fun i hi => @jo_other b (by omega) i hi hM2.1
  have hlen := spl_len hg
  have hget := fun i => @spl_get 9 8 7 b hg i
  rw [spl_E hg] at ks
  obtain ⟨L, hL⟩ : ∃ L, splL 9 8 7 b = L := ⟨_, rfl⟩
  obtain ⟨M, hM⟩ : ∃ M, many b.size = M := ⟨_, rfl⟩
  rw [hL] at ks hjs hjw hjl hjo hlen hget
  rw [hM] at hM2 hjw hjl hjo hlen hget
  obtain ⟨E, hE⟩ : ∃ E, secS 9 8 7 b = E := ⟨_, rfl⟩
  rw [hE] at hjw hjo hget
  clear hL hM hE hg h1 h2
  obtain ⟨rx, i, hx1, hx2, hx3, hx4, hx5, hx6⟩ := place_of x (n := M) (by omega)
  obtain ⟨ry, k, hy1, hy2, hy3, hy4, hy5, hy6⟩ := place_of y (n := M) (by omega)
  have m1 : ((M : Int) == 0) = false := by simp; omega
  have m1' : (M == 0) = false := by simp; omega
  have m2 : decide ((M : Int) < 2) = false := by simp; omega
  have m2' : decide (M < 2) = false := by simp; omega
  have m3 : (M : Int) ≤ 3 := by omega
  have m4 : (2 : Int) ≤ (M : Int) := by omega
  have HJS := Lib.hid hjs
  have HJW := Lib.hid hjw
  have HJL := Lib.hid hjl
  have HJO := Lib.hid hjo
  have HG := Lib.hid hget
  have HLE := Lib.hid hlen
  have HW0 := Lib.hid hw0
  have HX6 := Lib.hid hx6
  have HY6 := Lib.hid hy6
  clear hjs hjw hjl hjo hget hlen hM2 hw0 hx6 hy6
  have HB := Lib.hid (bk1 w 46 #[.int .i64 x, .int .i64 y])
  go_enter Try.func5, Try.ntmps5
  go_wp2_with fail
  (with_reducible refine (ks _).mono ?_); rintro e1 W1 ⟨⟨a, n1, c, rfl, hn1, hS, hform, hnil, hcap⟩, hb1⟩
  obtain rfl : M = n1 := by rw [← hn1, HLE.out]
  have HB1 := Lib.hid (HB.out.below hb1)
  have z0 := Blk.cell (HB1.out.nth 0 rfl) 0 (v := .int .i64 x) rfl
  have z1 := Blk.cell (HB1.out.nth 0 rfl) 1 (v := .int .i64 y) rfl
  obtain ⟨g0, o0, rfl, hg0, -⟩ := seq_cells' hS (HG.out 0 (by omega))
  have HS := Lib.hid hS
  clear ks hS hn1 hform hnil
  have hM0 : 0 < M := by omega
  have hM3 : M ≤ 3 := by omega
  go_wp2_with (first | (at_builtin; refine wpList_copy rfl _ _ rfl rfl rfl HLE.out hM0 hM3 (fun h => by cases h) HS.out (fun a' h => by injection h with h; subst h; exact ⟨g0, o0, rfl⟩) ?_; intro g9 c9 w8 hown9 hb8) | fail)
  obtain ⟨X, hX⟩ : ∃ X, E i = X := ⟨_, rfl⟩
  obtain ⟨Y, hY⟩ : ∃ Y, E k = Y := ⟨_, rfl⟩
  have HXY := Lib.hid (And.intro hX hY)
  have qx := own_cells HLE.out hown9 (HG.out i HX6.out)
  have qy := own_cells HLE.out hown9 (HG.out k HY6.out)
  rw [hX] at qx
  rw [hY] at qy
  clear hX hY
  have f0 := fun o => hown9.frozenAt o
  have hr := own_set8 (by rw [List.length_set]; exact HLE.out) (own_set8 HLE.out hown9 HX6.out Y) HY6.out X
  obtain ⟨tx, px, ex, vx, nx, mx, lx, bx⟩ := X
  obtain ⟨ty, py, ey, vy, ny, my, ly, dy⟩ := Y
  obtain ⟨x0, x1, x2, x3, x4, x5, x6, x7⟩ := qx
  obtain ⟨y0, y1, y2, y3, y4, y5, y6, y7⟩ := qy
  have j0 : (0 : Int) ≤ (i : Int) := by omega
  have j1 : (i : Int) < (M : Int) := by have := HX6.out; omega
  have j2 : (0 : Int) ≤ (k : Int) := by omega
  have j3 : (k : Int) < (M : Int) := by have := HY6.out; omega
  have hg9 := hown9.lt g9 rfl
  have hb8 := Lib.hid (below_setCells hg9.1 (enSc ⟨tx, px, ex, vx, nx, mx, lx, bx⟩) (k * 8) _ _ (below_setCells hg9.1 (enSc ⟨ty, py, ey, vy, ny, my, ly, dy⟩) (i * 8) _ _ hb8)).drew
  have HR := Lib.hid (own_seq enSc_len hr.drew (by rw [List.length_set, List.length_set]; exact HLE.out))
  clear hr hown9 hg9
  obtain ⟨_, z0_0⟩ := cell?_setCell_some (p := ⟨g9, i * 8, none⟩) (x := .int .i64 ty) y0
  obtain ⟨_, z1_0⟩ := cell?_setCell_some (p := ⟨g9, i * 8, none⟩) (x := .int .i64 ty) y1
  obtain ⟨_, z1_1⟩ := cell?_setCell_some (p := ⟨g9, i * 8 + 1, none⟩) (x := .bool py) z1_0
  clear z1_0
  obtain ⟨_, z2_0⟩ := cell?_setCell_some (p := ⟨g9, i * 8, none⟩) (x := .int .i64 ty) y2
  obtain ⟨_, z2_1⟩ := cell?_setCell_some (p := ⟨g9, i * 8 + 1, none⟩) (x := .bool py) z2_0
  clear z2_0
  obtain ⟨_, z2_2⟩ := cell?_setCell_some (p := ⟨g9, i * 8 + 2, none⟩) (x := .int .i64 ey) z2_1
  clear z2_1
  obtain ⟨_, z3_0⟩ := cell?_setCell_some (p := ⟨g9, i * 8, none⟩) (x := .int .i64 ty) y3
  obtain ⟨_, z3_1⟩ := cell?_setCell_some (p := ⟨g9, i * 8 + 1, none⟩) (x := .bool py) z3_0
  clear z3_0
  obtain ⟨_, z3_2⟩ := cell?_setCell_some (p := ⟨g9, i * 8 + 2, none⟩) (x := .int .i64 ey) z3_1
  clear z3_1
  obtain ⟨_, z3_3⟩ := cell?_setCell_some (p := ⟨g9, i * 8 + 3, none⟩) (x := .int .i64 vy) z3_2
  clear z3_2
  obtain ⟨_, z4_0⟩ := cell?_setCell_some (p := ⟨g9, i * 8, none⟩) (x := .int .i64 ty) y4
  obtain ⟨_, z4_1⟩ := cell?_setCell_some (p := ⟨g9, i * 8 + 1, none⟩) (x := .bool py) z4_0
  clear z4_0
  obtain ⟨_, z4_2⟩ := cell?_setCell_some (p := ⟨g9, i * 8 + 2, none⟩) (x := .int .i64 ey) z4_1
  clear z4_1
  obtain ⟨_, z4_3⟩ := cell?_setCell_some (p := ⟨g9, i * 8 + 3, none⟩) (x := .int .i64 vy) z4_2
  clear z4_2
  obtain ⟨_, z4_4⟩ := cell?_setCell_some (p := ⟨g9, i * 8 + 4, none⟩) (x := .bool ny) z4_3
  clear z4_3
  obtain ⟨_, z5_0⟩ := cell?_setCell_some (p := ⟨g9, i * 8, none⟩) (x := .int .i64 ty) y5
  obtain ⟨_, z5_1⟩ := cell?_setCell_some (p := ⟨g9, i * 8 + 1, none⟩) (x := .bool py) z5_0
  clear z5_0
  obtain ⟨_, z5_2⟩ := cell?_setCell_some (p := ⟨g9, i * 8 + 2, none⟩) (x := .int .i64 ey) z5_1
  clear z5_1
  obtain ⟨_, z5_3⟩ := cell?_setCell_some (p := ⟨g9, i * 8 + 3, none⟩) (x := .int .i64 vy) z5_2
  clear z5_2
  obtain ⟨_, z5_4⟩ := cell?_setCell_some (p := ⟨g9, i * 8 + 4, none⟩) (x := .bool ny) z5_3
  clear z5_3
  obtain ⟨_, z5_5⟩ := cell?_setCell_some (p := ⟨g9, i * 8 + 5, none⟩) (x := .int .i64 my) z5_4
  clear z5_4
  obtain ⟨_, z6_0⟩ := cell?_setCell_some (p := ⟨g9, i * 8, none⟩) (x := .int .i64 ty) y6
  obtain ⟨_, z6_1⟩ := cell?_setCell_some (p := ⟨g9, i * 8 + 1, none⟩) (x := .bool py) z6_0
  clear z6_0
  obtain ⟨_, z6_2⟩ := cell?_setCell_some (p := ⟨g9, i * 8 + 2, none⟩) (x := .int .i64 ey) z6_1
  clear z6_1
  obtain ⟨_, z6_3⟩ := cell?_setCell_some (p := ⟨g9, i * 8 + 3, none⟩) (x := .int .i64 vy) z6_2
  clear z6_2
  obtain ⟨_, z6_4⟩ := cell?_setCell_some (p := ⟨g9, i * 8 + 4, none⟩) (x := .bool ny) z6_3
  clear z6_3
  obtain ⟨_, z6_5⟩ := cell?_setCell_some (p := ⟨g9, i * 8 + 5, none⟩) (x := .int .i64 my) z6_4
  clear z6_4
  obtain ⟨_, z6_6⟩ := cell?_setCell_some (p := ⟨g9, i * 8 + 6, none⟩) (x := .int .i64 ly) z6_5
  clear z6_5
  obtain ⟨_, z7_0⟩ := cell?_setCell_some (p := ⟨g9, i * 8, none⟩) (x := .int .i64 ty) y7
  obtain ⟨_, z7_1⟩ := cell?_setCell_some (p := ⟨g9, i * 8 + 1, none⟩) (x := .bool py) z7_0
  clear z7_0
  obtain ⟨_, z7_2⟩ := cell?_setCell_some (p := ⟨g9, i * 8 + 2, none⟩) (x := .int .i64 ey) z7_1
  clear z7_1
  obtain ⟨_, z7_3⟩ := cell?_setCell_some (p := ⟨g9, i * 8 + 3, none⟩) (x := .int .i64 vy) z7_2
  clear z7_2
  obtain ⟨_, z7_4⟩ := cell?_setCell_some (p := ⟨g9, i * 8 + 4, none⟩) (x := .bool ny) z7_3
  clear z7_3
  obtain ⟨_, z7_5⟩ := cell?_setCell_some (p := ⟨g9, i * 8 + 5, none⟩) (x := .int .i64 my) z7_4
  clear z7_4
  obtain ⟨_, z7_6⟩ := cell?_setCell_some (p := ⟨g9, i * 8 + 6, none⟩) (x := .int .i64 ly) z7_5
  clear z7_5
  obtain ⟨_, z7_7⟩ := cell?_setCell_some (p := ⟨g9, i * 8 + 7, none⟩) (x := .string dy) z7_6
  clear z7_6
  go_region
  refine any_gen (F := fun V => Exit.then _ _ Exit.normal _ V) (fun V => Below W1.heap.size W1 V ∧ Seq enSc 8 V (some ⟨g9, 0, none⟩) ((L.set i (E k)).set k (E i))) ⟨hb8.out, by rw [HXY.out.1, HXY.out.2]; exact HR.out⟩ ?_
  rintro V ⟨hbV, hSV⟩
  clear hb8 HR
  clear x0 x1 x2 x3 x4 x5 x6 x7 y0 y1 y2 y3 y4 y5 y6 y7 z0_0 z1_1 z2_2 z3_3 z4_4 z5_5 z6_6 z7_7 f0 hx1 hx2 hx3 hx4 hx5 hy1 hy2 hy3 hy4 hy5 m1 m1' m2 m2'
  have hls : ((L.set i (E k)).set k (E i)).length = M := by rw [List.length_set, List.length_set]; exact HLE.out
  have kj := join_any (some ⟨g9, 0, none⟩) M c9 _ V hls (by omega) hSV
  have HJ := Lib.hid (show (i = k → joE ((L.set i (E k)).set k (E i)) = 0 ∧ joS ((L.set i (E k)).set k (E i)) = b) ∧ (i ≠ k → joE ((L.set i (E k)).set k (E i)) = 22 ∧ joS ((L.set i (E k)).set k (E i)) = nob) from ⟨fun h => by
      subst h
      rw [List.set_set, set_same (HG.out i HX6.out)]
      exact HJS.out, fun h => by
      have := HJW.out i k HX6.out HY6.out h
      exact ⟨this, jo_nob this (by decide)⟩⟩)
  obtain ⟨JE, hJE⟩ : ∃ JE, joE ((L.set i (E k)).set k (E i)) = JE := ⟨_, rfl⟩
  obtain ⟨JS, hJS⟩ : ∃ JS, joS ((L.set i (E k)).set k (E i)) = JS := ⟨_, rfl⟩
  rw [hJE, hJS] at kj HJ
  clear hJE hJS hls hSV
  go_wp2_with fail
  (with_reducible refine (kj).mono ?_); rintro e1 W2 ⟨rfl, hb2⟩
  have HB2 := Lib.hid (hbV.trans (hb2.mono hbV.size))
  have HS2 := Lib.hid (HS.out.below (Nat.le_refl _) HB2.out)
  clear hbV hb2
  have cutH := fun V => cutH8 g0 o0 M c i (by omega) V
  obtain ⟨o1, cutL, hoo⟩ := cutL8 g0 o0 M c i (by omega)
  have HOO := Lib.hid (show i + 1 < L.length → o1 = o0 + (i + 1) * 8 from fun h => hoo (by rw [HLE.out] at h; omega))
  have HLT := Lib.hid (show (L.take i).length = i by rw [List.length_take, HLE.out]; omega)
  have HLD := Lib.hid (show (L.drop (i + 1)).length = M - (i + 1) by rw [List.length_drop, HLE.out])
  have HFO := Lib.hid (show ∀ a', some (⟨g0, o0, none⟩ : Addr) = some a' → ∃ b o, a' = ⟨b, o, none⟩ from fun a' h => by injection h with h; subst h; exact ⟨g0, o0, rfl⟩)
  have HFO2 := Lib.hid (show ∀ a', some (⟨g0, o1, none⟩ : Addr) = some a' → ∃ b o, a' = ⟨b, o, none⟩ from fun a' h => by injection h with h; subst h; exact ⟨g0, o1, rfl⟩)
  clear hoo
  by_cases hik : i = k
  · obtain ⟨rfl, rfl⟩ := HJ.out.1 hik
    have s1 : ((i : Int) == (k : Int)) = true := by simp; omega
    have s1' : (i == k) = true := by simpa using hik
    have s2 : ((i : Int) != (k : Int)) = false := by simp; omega
    have s2' : (i != k) = false := by simpa using hik
    clear hik
    clear HJ kj
    go_wp2_with (first
      | (at_builtin; refine wpList_appS (A := []) (L := L.take i) (n := 0) (m := i) rfl _ _ rfl enSc_len enSc_one elemTS rfl rfl (World.ownsRow_nil W2 W2.heap.size 23 8) rfl HLT.out (fun h => by cases h) (seq_take HS2.out i) HFO.out (by omega) (by unfold maxLen; omega) (Nat.le_refl _) ?_; intro v7 w7 hown7 hb7)
      | (at_builtin; refine wpList_appS (A := [] ++ L.take i) (L := L.drop (i + 1)) (n := 0 + i) (m := M - (i + 1)) rfl _ _ rfl enSc_len enSc_one elemTS rfl (by have := HLT.out; simpa using this) hown7 rfl HLD.out (fun h => by cases h) (seq_drop (HS2.out.below (Nat.le_refl _) hb7) (i + 1) HOO.out) HFO2.out (by omega) (by unfold maxLen; omega) hb7.size ?_; intro v6 w6 hown6 hb6) | fail)
    have e6 : 0 + i + (M - (i + 1)) = M - 1 := by omega
    rw [e6, List.nil_append] at hown6
    obtain ⟨a6, c6, rfl⟩ := own_form hown6
    have hl6 : (L.take i ++ L.drop (i + 1)).length = M - 1 := by rw [List.length_append, HLT.out, HLD.out]; omega
    have kj2 := join_any a6 (M - 1) c6 _ w6 hl6 (by omega) (own_seq enSc_len hown6 hl6)
    have hjl := HJL.out i HX6.out
    rw [hjl, jo_nob hjl (by decide)] at kj2
    have HB6 := Lib.hid (HB2.out.trans ((hb7.trans hb6).mono HB2.out.size))
    clear hown6 hown7 hb6 hb7 hjl hl6 cutH cutL
    (with_reducible refine (kj2).mono ?_); rintro e1 W3 ⟨rfl, hb3⟩
    have HB3 := Lib.hid (HB6.out.trans (hb3.mono HB6.out.size))
    have HS3 := Lib.hid (HS.out.below (Nat.le_refl _) HB3.out)
    clear kj2 hb3
    go_wp2_with (first | (at_builtin; refine wpList_copy rfl _ _ rfl rfl rfl HLE.out hM0 hM3 (fun h => by cases h) HS3.out HFO.out ?_; intro g5 c5 w5 hown5 hb5; have r5 := (own_cells HLE.out hown5 (HG.out i HX6.out)).2.2.1; have f5 := hown5.frozenAt (i * 8 + 2)) | fail)
    have hst := (hown5.stored (i * 8 + 2) (.int .i64 9)).1
    rw [flat_ext (HG.out i HX6.out)] at hst
    have hl5 : (L.set i (ext9 (E i))).length = M := by rw [List.length_set]; exact HLE.out
    have kj3 := join_any (some ⟨g5, 0, none⟩) M c5 _ _ hl5 (by omega) (own_seq enSc_len hst hl5)
    have hjo := HJO.out i HX6.out
    rw [hjo, jo_nob hjo (by decide)] at kj3
    have HB5 := Lib.hid (HB3.out.trans ((hb5.setCell (p := ⟨g5, i * 8 + 2, none⟩) (hown5.lt g5 rfl).1 (.int .i64 9)).mono HB3.out.size))
    clear hown5 hb5 hst hl5 hjo r5 f5
    (with_reducible refine (kj3).mono ?_); rintro e1 W4 ⟨rfl, hb4⟩
    have HB4 := Lib.hid (HB5.out.trans (hb4.mono HB5.out.size))
    clear kj3 hb4
    go_wp2_with fail
    (with_reducible refine (kaw _).mono ?_); rintro e1 W5 ⟨rfl, hb5⟩
    go_wp2_with fail
    go_ret
    exact ⟨rfl, HB1.out.be.trans ((HB4.out.trans (hb5.mono HB4.out.size)).mono HB1.out.be.size)⟩
  · obtain ⟨rfl, rfl⟩ := HJ.out.2 hik
    have s1 : ((i : Int) == (k : Int)) = false := by simp; omega
    have s1' : (i == k) = false := by simpa using hik
    have s2 : ((i : Int) != (k : Int)) = true := by simp; omega
    have s2' : (i != k) = true := by simpa using hik
    clear hik
    clear HJ kj
    go_wp2_with (first
      | (at_builtin; refine wpList_appS (A := []) (L := L.take i) (n := 0) (m := i) rfl _ _ rfl enSc_len enSc_one elemTS rfl rfl (World.ownsRow_nil W2 W2.heap.size 23 8) rfl HLT.out (fun h => by cases h) (seq_take HS2.out i) HFO.out (by omega) (by unfold maxLen; omega) (Nat.le_refl _) ?_; intro v7 w7 hown7 hb7)
      | (at_builtin; refine wpList_appS (A := [] ++ L.take i) (L := L.drop (i + 1)) (n := 0 + i) (m := M - (i + 1)) rfl _ _ rfl enSc_len enSc_one elemTS rfl (by have := HLT.out; simpa using this) hown7 rfl HLD.out (fun h => by cases h) (seq_drop (HS2.out.below (Nat.le_refl _) hb7) (i + 1) HOO.out) HFO2.out (by omega) (by unfold maxLen; omega) hb7.size ?_; intro v6 w6 hown6 hb6) | fail)
    have e6 : 0 + i + (M - (i + 1)) = M - 1 := by omega
    rw [e6, List.nil_append] at hown6
    obtain ⟨a6, c6, rfl⟩ := own_form hown6
    have hl6 : (L.take i ++ L.drop (i + 1)).length = M - 1 := by rw [List.length_append, HLT.out, HLD.out]; omega
    have kj2 := join_any a6 (M - 1) c6 _ w6 hl6 (by omega) (own_seq enSc_len hown6 hl6)
    have hjl := HJL.out i HX6.out
    rw [hjl, jo_nob hjl (by decide)] at kj2
    have HB6 := Lib.hid (HB2.out.trans ((hb7.trans hb6).mono HB2.out.size))
    clear hown6 hown7 hb6 hb7 hjl hl6 cutH cutL
    (with_reducible refine (kj2).mono ?_); rintro e1 W3 ⟨rfl, hb3⟩
    have HB3 := Lib.hid (HB6.out.trans (hb3.mono HB6.out.size))
    have HS3 := Lib.hid (HS.out.below (Nat.le_refl _) HB3.out)
    clear kj2 hb3
    go_wp2_with (first | (at_builtin; refine wpList_copy rfl _ _ rfl rfl rfl HLE.out hM0 hM3 (fun h => by cases h) HS3.out HFO.out ?_; intro g5 c5 w5 hown5 hb5; have r5 := (own_cells HLE.out hown5 (HG.out i HX6.out)).2.2.1; have f5 := hown5.frozenAt (i * 8 + 2)) | fail)
    have hst := (hown5.stored (i * 8 + 2) (.int .i64 9)).1
    rw [flat_ext (HG.out i HX6.out)] at hst
    have hl5 : (L.set i (ext9 (E i))).length = M := by rw [List.length_set]; exact HLE.out
    have kj3 := join_any (some ⟨g5, 0, none⟩) M c5 _ _ hl5 (by omega) (own_seq enSc_len hst hl5)
    have hjo := HJO.out i HX6.out
    rw [hjo, jo_nob hjo (by decide)] at kj3
    have HB5 := Lib.hid (HB3.out.trans ((hb5.setCell (p := ⟨g5, i * 8 + 2, none⟩) (hown5.lt g5 rfl).1 (.int .i64 9)).mono HB3.out.size))
    clear hown5 hb5 hst hl5 hjo r5 f5
    (with_reducible refine (kj3).mono ?_); rintro e1 W4 ⟨rfl, hb4⟩
    have HB4 := Lib.hid (HB5.out.trans (hb4.mono HB5.out.size))
    clear kj3 hb4
    go_wp2_with fail
    (with_reducible refine (kaw _).mono ?_); rintro e1 W5 ⟨rfl, hb5⟩
    go_wp2_with fail
    go_ret
    exact ⟨rfl, HB1.out.be.trans ((HB4.out.trans (hb5.mono HB4.out.size)).mono HB1.out.be.size)⟩
end Go.Proofs.Ytpigkccfepmmgaa.SpO
