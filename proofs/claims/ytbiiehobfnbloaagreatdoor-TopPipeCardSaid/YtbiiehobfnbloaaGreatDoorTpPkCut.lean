import Derived.RangeFuncBox
import Derived.RangeFuncLeaves
import Derived.Shelf.Abstract
import Derived.OwnWalkIn
import Derived.TacticsInMore
import Derived.LoopNIn
import Derived.LoopIn
import Derived.Maps.AppendAt
import Derived.Laws.IdiomStrings
import Derived.Lib.Hide
import Derived.Test.YtbiiehobfnbloaaGreatDoorRows
import Derived.Test.YtbiiehobfnbloaaGreatDoorTpPkA
namespace Go.Proofs.YtbiiehobfnbloaaGreatDoor.PkCut
open Go.RowKit Go.Shelf Q Mem
attribute [local go_sem] Oper.semAt_some
structure Mid (lo hi : Nat) (W W' : World) : Prop where
 size : W.heap.size ≤ W'.heap.size
 block : ∀ k, lo ≤ k → k < hi → k < W.heap.size → W'.heap[k]? = W.heap[k]?
theorem Mid.trans {lo hi : Nat} {A B C : World} (h : Mid lo hi A B) (k : Mid lo hi B C) : Mid lo hi A C :=
 ⟨Nat.le_trans h.size k.size, fun i h1 h2 h3 => (k.block i h1 h2 (Nat.lt_of_lt_of_le h3 h.size)).trans (h.block i h1 h2 h3)⟩
theorem Mid.refl (lo hi : Nat) (W : World) : Mid lo hi W W := ⟨Nat.le_refl _, fun _ _ _ _ => rfl⟩
theorem Mid.cell {lo hi : Nat} {W W' : World} (h : Mid lo hi W W') {b o : Nat} {v : Value} (h1 : lo ≤ b) (h2 : b < hi) (hc : W.cell? ⟨b, o, none⟩ = some v) : W'.cell? ⟨b, o, none⟩ = some v :=
 (World.cell?_of_block (w := W) (h.block b h1 h2 (World.block_lt_of_cell? W _ hc))).trans hc
theorem mid_b {lo hi : Nat} {w : World} (hn : hi ≤ w.heap.size) (W : World) (l : Nat) (o o' : Obj) (hl : w.heap.size ≤ l) (_ : W.heap[l]? = some o) (_ : o.isCells = false) (_ : o.isWalk = false) : Mid lo hi W (W.putObj l o') :=
 ⟨(grownBy_putObj' W l o').size, fun k _ h2 h3 => (grownBy_putObj' W l o').block k h3 (fun e => by cases e; omega)⟩
theorem mid_of_below {lo hi : Nat} {W W' : World} (h : Below hi W W') : Mid lo hi W W' := ⟨h.size, fun k _ h2 _ => h.block k h2⟩
theorem chunk_any (a : Option Addr) (len cap : Nat) (w : World) :
   Calls Tryz.prog 72 #[.slice a len cap, .int .i64 188] w fun e w' => e = .returned (.func (.func 127) #[] #[.pointer (some ⟨w.heap.size, 0, none⟩), .pointer (some ⟨w.heap.size + 1, 0, none⟩)]) ∧
     w' = (w.alloc (.cells #[.slice a len cap] 145)).alloc (.cells #[.int .i64 188] 3) := by
 go_enter Tryz.func72, Tryz.ntmps72
 go_wp2
 go_ret
 exact ⟨rfl, rfl⟩
set_option maxRecDepth 100000 in
set_option maxHeartbeats 2000000 in
theorem chunk1_in (n : Nat) (hn : 1 ≤ n) (l B1 B2 bb m L cap lo hi : Nat) (hL : L = 188 * m) (hcap : L ≤ cap) (hbig : cap ≤ 9223372036854775807) (h1 : lo ≤ B1) (h2 : B1 < hi) (h3 : lo ≤ B2) (h4 : B2 < hi) (J Jx : List (Fin m) → World → Prop) (B : Nat) (hA : AbidesFrom B J)
   (hY : ∀ pre x W, J pre W → pre.length < m → YieldAt Fence.wide (n - 1) Tryz.prog l #[.slice (some ⟨bb, 188 * x.val, none⟩) 188 188] W fun e W' =>
     (e = .returned (.bool true) ∧ J (pre ++ [x]) W' ∧ Mid lo hi W W') ∨ (e = .returned (.bool false) ∧ Jx (pre ++ [x]) W'))
   (W : World) (hhi : hi ≤ W.heap.size) (c1 : W.cell? ⟨B1, 0, none⟩ = some (.slice (some ⟨bb, 0, none⟩) L cap)) (c2 : W.cell? ⟨B2, 0, none⟩ = some (.int .i64 188)) (h0 : J [] W) :
   CallsIn Fence.wide n Tryz.prog 127 #[.func (.yield l) #[] #[], .pointer (some ⟨B1, 0, none⟩), .pointer (some ⟨B2, 0, none⟩)] W fun e W' => (∃ v, e = .returned v) ∧
     ((∃ ys, ys.map Fin.val = List.range m ∧ J ys W') ∨ (∃ pre, True ∧ Jx pre W')) := by
 refine callsIn_of_wp Tryz.func127 rfl trivial ?_ rfl
 simp only [Tryz.ntmps127, List.size_toArray, List.length_cons, List.length_nil, Nat.reduceAdd, Nat.reduceSub, Array.replicate_succ, Array.replicate_zero, List.push_toArray, List.append_toArray, List.nil_append, List.cons_append]
 have HL := Lib.hid hL
 clear hL
 gi_wp2
 gi_loopw [4] (fun i wr => ∃ k p : Nat, Hid (p = 188 * k) ∧ k ≤ m ∧ i = .int .i64 p ∧ (∃ ls, ls.map Fin.val = List.range k ∧ J ls wr) ∧ Mid lo hi W wr) (fun i _ => L - (intOf i).toNat)
 case atStart => exact ⟨0, 0, Lib.hid (show 0 = 188 * 0 from rfl), Nat.zero_le _, rfl, ⟨[], rfl, h0⟩, Mid.refl _ _ _⟩
 case round =>
   obtain ⟨k, p, hp, hk, rfl, ⟨ls, hls, hJ⟩, hM⟩ := hrel
   have HLS := Lib.hid hls
   have HLN := Lib.hid (show ls.length = k by have := congrArg List.length hls; simpa using this)
   clear hls
   have d1 := hM.cell h1 h2 c1
   have d2 := hM.cell h3 h4 c2
   by_cases hlt : p < L
   · have hkm : k < m := by have := hp.out; have := HL.out; omega
     have hpL : p + 188 ≤ L := by have := hp.out; have := HL.out; omega
     have e1 : decide (p < L) = true := by simpa using hlt
     have x1 := fun q => cell_ext (World.block_lt_of_cell? wr _ d1) d1 q
     have x2 := fun q => cell_ext (World.block_lt_of_cell? wr _ d2) d2 q
     gi_wp2
     refine wpIn_wide.2 ?_
     refine Go.Proofs.YtbiiehobfnbloaaGreatDoor.Q.region_ext (by kernel_rfl) (by kernel_rfl) ?_
     repeat (go_big_quiet_step (fail))
     refine wpQuiet_nil ?_
     rintro w9 ⟨pq, rfl⟩
     have hJ9 : J ls (ext wr pq) := hA _ _ _ none hJ (only_of_below (below_ext wr pq) none) (fun r e => by cases e)
     have hM9 := hM.trans (mid_of_below (lo := lo) ((below_ext wr pq).mono (Nat.le_trans hhi hM.size)))
     have d3 := x1 pq
     clear x1 x2 d1 d2 hJ hM
     obtain ⟨fn, tmps, assign, body, hy, hR⟩ := hY _ ⟨k, hkm⟩ (ext wr pq) hJ9 (by rw [HLN.out]; exact hkm)
     dsimp only at hy
     rw [← hp.out] at hy
     gi_wp2
     refine hR.mono ?_
     rintro e W3 (⟨rfl, hJ3, hk3⟩ | ⟨rfl, hJx3⟩)
     · have hM3 := hM9.trans hk3
       have d2 := hM3.cell h3 h4 c2
       gi_wp2
       go_roundw
       case rel => exact ⟨k + 1, p + 188, Lib.hid (by have := hp.out; omega), by omega, by go_num, ⟨_, by rw [List.map_append, HLS.out, List.range_succ]; rfl, hJ3⟩, hM3⟩
       case measure => simp [intOf]; omega
     · gi_wp2
       refine bodyPost_ret (results_none rfl _ _ _) rfl ?_
       exact ⟨⟨_, rfl⟩, .inr ⟨_, trivial, hJx3⟩⟩
   · have hkm : k = m := by have := hp.out; have := HL.out; omega
     gi_wp2
     go_end0
     exact ⟨⟨_, rfl⟩, .inl ⟨_, by rw [HLS.out, hkm], hJ⟩⟩
theorem chunk_stops (n : Nat) (hn : 1 ≤ n) (B1 B2 bb m L cap lo hi : Nat) (hL : L = 188 * m) (hcap : L ≤ cap) (hbig : cap ≤ 9223372036854775807) (h1 : lo ≤ B1) (h2 : B1 < hi) (h3 : lo ≤ B2) (h4 : B2 < hi) (w : World) (hhi : hi ≤ w.heap.size)
   (c1 : w.cell? ⟨B1, 0, none⟩ = some (.slice (some ⟨bb, 0, none⟩) L cap)) (c2 : w.cell? ⟨B2, 0, none⟩ = some (.int .i64 188)) :
   SeqStopsK Fence.wide n Tryz.prog 127 #[.pointer (some ⟨B1, 0, none⟩), .pointer (some ⟨B2, 0, none⟩)] (fun x : Fin m => #[Value.slice (some ⟨bb, 188 * x.val, none⟩) 188 188]) (Mid lo hi) (fun ys => ys.map Fin.val = List.range m) (fun _ => True) m w :=
 fun l J Jx W hW hJ _ hY h0 => chunk1_in n hn l B1 B2 bb m L cap lo hi hL hcap hbig h1 h2 h3 h4 J Jx _ hJ hY W (Nat.le_trans hhi hW.size) ((hW.cell (p := ⟨B1, 0, none⟩) (Nat.lt_of_lt_of_le h2 hhi)).trans c1) ((hW.cell (p := ⟨B2, 0, none⟩) (Nat.lt_of_lt_of_le h4 hhi)).trans c2) h0
theorem infoS : (Tryz.prog.info? 9).map (fun i => (i.zero, i.size, i.bytes)) = some (some (.string ByteArray.empty), 1, 16) := by kernel_rfl
def pk (s : ByteArray) (i : Nat) : ByteArray := s.extract (188 * i) (188 * i + 188)
def pks (s : ByteArray) (n : Nat) : List ByteArray := (List.range n).map (pk s)
theorem wpIn_gen {F : Fence} {n : Nat} {P : Program} {c : Code} {Q : Exit → Act → World → Prop} {a : Act} {w : World} (G : World → Prop) (h0 : G w) (h : ∀ W, G W → c.wpIn F n P Q a W) : c.wpIn F n P Q a w := h w h0
theorem ownFrom_mid {β : Type} {lo hi B : Nat} {w₀ : World} (hB : hi ≤ B) : OwnFrom B (fun (_ : β) W => Mid lo hi w₀ W) :=
 fun _ _ _ _ hs hg hr => hs.trans ⟨hg.size, fun k _ h2 h3 => hg.block k h3 (fun e => by have := (hr k e.symm).1; omega)⟩
theorem appended {W w1 : World} {base B : Nat} {t e : TypeId} {size : Nat} {v v' : Value} {k m : Nat} {xs ys : List Value} {tmp : Obj}
   (hv : Boxed W B t v) (hte : t ≠ e) (hrow : W.ownsRow base e size v k xs) (hn : base ≤ W.heap.size) (hB : B < base)
   (hown' : w1.ownsRow base e size v' m ys) (hgrow : (W.alloc tmp).grownBy w1 v.ownBlock) :
   Boxed w1 B t v ∧ Boxed (w1.setCell ⟨B, 0, none⟩ v') B t v' ∧ (w1.setCell ⟨B, 0, none⟩ v').ownsRow base e size v' m ys ∧ KeepsOthers W (w1.setCell ⟨B, 0, none⟩ v') ∧ Below B W (w1.setCell ⟨B, 0, none⟩ v') ∧ Mid (B + 1) base W (w1.setCell ⟨B, 0, none⟩ v') := by
 have hv1 : Boxed w1 B t v := (hv.alloc tmp).kept hgrow (hv.not_row hte hrow)
 have hrowB : ∀ j, v.ownBlock = some j → base ≤ j := fun j e => (hrow.lt j e).1
 refine ⟨hv1, hv1.set v', hown'.kept (grownBy_setCell' w1 B v') (.inr (hv1.not_row hte hown').symm), ?_, ?_, ?_⟩
 · refine ((KeepsOthers.alloc W tmp).trans (KeepsOthers.of_grownBy hgrow fun j o ej hj => ?_)).trans (KeepsOthers.setCell _ _ _)
   rcases (hrow.alloc tmp).2 with ⟨rfl, _⟩ | ⟨g, cap, cur, rfl, _, hgb, _⟩
   · simp [Value.ownBlock] at ej
   · obtain rfl : g = j := by simpa [Value.ownBlock] using ej
     rw [hgb] at hj; cases hj; rfl
 · exact (((Below.refl B W).alloc (by omega) tmp).grown hgrow (by simp; omega) fun j ej => by have := hrowB j ej; omega).setCell (p := ⟨B, 0, none⟩) (Nat.le_refl _) v'
 · refine ⟨by have := hgrow.size; simp at this; simp [World.setCell]; omega, fun j h1 h2 h3 => ?_⟩
   refine (Below.heap_setCell w1 ⟨B, 0, none⟩ v' j (by show j ≠ B; omega)).trans ((hgrow.block j (by simp; omega) ?_).trans (Below.heap_alloc W tmp j h3))
   intro ej
   have := hrowB j ej.symm
   omega
structure St (w W : World) (s : ByteArray) (L cap : Nat) : Prop where
 size : W.heap.size = w.heap.size + 4
 be : Below w.heap.size w W
 bo : Boxed W w.heap.size 28 (.slice none 0 0)
 bytes : ∀ j, j < L → W.cell? ⟨w.heap.size + 1, j, none⟩ = some (.int .u8 ((s.data[j]?.getD 0).toNat : Int))
 c1 : W.cell? ⟨w.heap.size + 1 + 1, 0, none⟩ = some (.slice (some ⟨w.heap.size + 1, 0, none⟩) L cap)
 c2 : W.cell? ⟨w.heap.size + 1 + 1 + 1, 0, none⟩ = some (.int .i64 188)
theorem own_mono {W : World} {B B' : Nat} {e : TypeId} {size : Nat} {v : Value} {n : Nat} {xs : List Value} (h : W.ownsRow B e size v n xs) (hB : B' ≤ B) : W.ownsRow B' e size v n xs := by
 rcases h with ⟨h1, h2 | ⟨g, cap, cur, e1, e2, e3⟩⟩
 · exact ⟨h1, .inl h2⟩
 · exact ⟨h1, .inr ⟨g, cap, cur, e1, Nat.le_trans hB e2, e3⟩⟩
theorem st_make (w : World) (s : ByteArray) (L cap : Nat) (hL : L ≤ s.size) :
   St w ((((w.alloc (Obj.cells #[Value.slice none 0 0] 28)).alloc
               (Obj.cells (bytesRow (s.extract 0 L) cap) 5
                 ((bytesRow (s.extract 0 L) cap).size, (bytesRow (s.extract 0 L) cap).size + 1))).alloc
           (Obj.cells #[Value.slice (some { block := w.heap.size + 1, off := 0 }) L cap] 145)).alloc
       (Obj.cells #[Value.int IntKind.i64 188] 3)).drew s L cap := by
 have z1 : ∀ (W : World) (o : Obj) (b j : Nat) (v : Value), W.cell? ⟨b, j, none⟩ = some v → (W.alloc o).cell? ⟨b, j, none⟩ = some v := fun W o b j v h =>
   (World.cell?_of_block (w := W) (Below.heap_alloc W o b (World.block_lt_of_cell? W _ h))).trans h
 have zd : ∀ (W : World) (b j : Nat), W.drew.cell? ⟨b, j, none⟩ = W.cell? ⟨b, j, none⟩ := fun _ _ _ => rfl
 obtain ⟨W1, hW1⟩ : ∃ W1, w.alloc (Obj.cells #[Value.slice none 0 0] 28) = W1 := ⟨_, rfl⟩
 have s1 : W1.heap.size = w.heap.size + 1 := by rw [← hW1]; simp
 have b1 : Boxed W1 w.heap.size 28 (.slice none 0 0) := by rw [← hW1]; exact Boxed.new w _ _
 have e1 : Below w.heap.size w W1 := by rw [← hW1]; exact (Below.refl _ _).alloc (Nat.le_refl _) _
 rw [hW1]
 obtain ⟨W2, hW2⟩ : ∃ W2, W1.alloc (Obj.cells (bytesRow (s.extract 0 L) cap) 5 ((bytesRow (s.extract 0 L) cap).size, (bytesRow (s.extract 0 L) cap).size + 1)) = W2 := ⟨_, rfl⟩
 have s2 : W2.heap.size = w.heap.size + 2 := by rw [← hW2]; simp [s1]
 have b2 : Boxed W2 w.heap.size 28 (.slice none 0 0) := by rw [← hW2]; exact b1.alloc _
 have e2 : Below w.heap.size w W2 := by rw [← hW2]; exact e1.alloc (by omega) _
 have y2 : ∀ j, j < L → W2.cell? ⟨w.heap.size + 1, j, none⟩ = some (.int .u8 ((s.data[j]?.getD 0).toNat : Int)) := by
   intro j hj
   rw [← hW2, ← s1, World.cell?_alloc_mark]
   have hsz : (s.extract 0 L).data.size = L := By.ext_size s (a := 0) hL
   rw [bytesRow_at _ _ _ (by omega)]
   have := By.ext_get s (a := 0) (b := L) (j := j) (by omega) hL
   rw [Array.getElem?_eq_getElem (by omega), Nat.zero_add] at this
   rw [← this]
   rfl
 rw [hW2]
 obtain ⟨W3, hW3⟩ : ∃ W3, W2.alloc (Obj.cells #[Value.slice (some { block := w.heap.size + 1, off := 0 }) L cap] 145) = W3 := ⟨_, rfl⟩
 have s3 : W3.heap.size = w.heap.size + 3 := by rw [← hW3]; simp [s2]
 have y3 : W3.cell? ⟨w.heap.size + 1 + 1, 0, none⟩ = some (Value.slice (some { block := w.heap.size + 1, off := 0 }) L cap) := by
   rw [← hW3, ← s2]; exact (Boxed.new W2 _ _).cell
 have e3 : Below w.heap.size w W3 := by rw [← hW3]; exact e2.alloc (by omega) _
 have b3 : Boxed W3 w.heap.size 28 (.slice none 0 0) := by rw [← hW3]; exact b2.alloc _
 have x3 : ∀ j, j < L → W3.cell? ⟨w.heap.size + 1, j, none⟩ = some (.int .u8 ((s.data[j]?.getD 0).toNat : Int)) := fun j hj => by rw [← hW3]; exact z1 _ _ _ _ _ (y2 j hj)
 rw [hW3]
 refine ⟨by simp [s3], below_drewN (e3.alloc (by omega) _) 1, b3.alloc _, fun j hj => ?_, ?_, ?_⟩
 · rw [zd]; exact z1 _ _ _ _ _ (x3 j hj)
 · rw [zd]; exact z1 _ _ _ _ _ y3
 · rw [zd]
   have := (Boxed.new W3 3 (.int .i64 188)).cell
   rw [s3] at this
   exact this
theorem conv_pk {W : World} {s : ByteArray} {L bb x cap : Nat} (hL : 188 * x + 188 ≤ L) (hs : L ≤ s.size) (h : ∀ j, j < L → W.cell? ⟨bb, j, none⟩ = some (.int .u8 ((s.data[j]?.getD 0).toNat : Int))) :
   (convert 145 9 (.slice (some ⟨bb, 188 * x, none⟩) 188 cap)).run Tryz.prog W = .ok (.string (pk s x)) W := by
 have hl : (pk s x).data.toList.length = 188 := by
   have := By.ext_size s (a := 188 * x) (b := 188 * x + 188) (by omega)
   rw [Array.length_toList]
   exact this.trans (by omega)
 have := run_convert_bytes_back (P := Tryz.prog) W 145 9 5 ⟨bb, 188 * x, none⟩ cap (pk s x).data.toList Tryz.underlying145 Tryz.underlying5 Tryz.underlying9 (fun j hj => by
   have hp : (⟨bb, 188 * x, none⟩ : Addr).add j = ⟨bb, 188 * x + j, none⟩ := by unfold Addr.add; split <;> simp_all
   rw [hp, h _ (by omega)]
   have e := By.ext_get s (a := 188 * x) (b := 188 * x + 188) (j := j) (by omega) (by omega)
   rw [← e, show s.extract (188 * x) (188 * x + 188) = pk s x from rfl, ← Array.getElem?_toList, List.getElem?_eq_getElem hj]
   rfl)
 rw [hl] at this
 simpa using this
theorem cut_in (s : ByteArray) (w : World) (hs : s.size ≤ 1099511627776) :
   CallsIn Fence.wide 9 Tryz.prog 18 #[.string s] w fun e W' => ∃ v, e = .returned (.tuple #[v, .string (s.extract (s.size / 188 * 188) s.size)]) ∧ W'.ownsRow w.heap.size 9 1 v (s.size / 188) ((pks s (s.size / 188)).map .string) ∧ Below w.heap.size w W' := by
 obtain ⟨i0, hi, hz0, hz1, hz2⟩ := info_parts infoS
 have hconv := fun (w : World) (s : ByteArray) => run_bytes_of_string w 9 145 5 s Tryz.underlying9 Tryz.underlying145 Tryz.underlying5
 refine callsIn_of_wp_marks Tryz.func18 rfl trivial ?_ rfl
 simp only [Tryz.ntmps18, List.size_toArray, List.length_cons, List.length_nil, Nat.reduceAdd, Nat.reduceSub, Array.replicate_succ, Array.replicate_zero, List.push_toArray, List.append_toArray, List.nil_append, List.cons_append]
 obtain ⟨L, hL⟩ : ∃ L, s.size / 188 * 188 = L := ⟨_, rfl⟩
 have hmin : min L s.size = L := by omega
 have HL := Lib.hid hL
 have HM := Lib.hid hmin
 clear hmin
 gi_wp2
 refine ⟨trivial, ?_⟩
 rw [HM.out]
 generalize hcg : grownCap (w.alloc (Obj.cells #[Value.slice none 0 0] 28)) L 0 5 = cap
 have hcap : L ≤ cap := by rw [← hcg]; exact grownCap_ge _ _ _ _
 have hbig : cap ≤ 9223372036854775807 := by rw [← hcg]; exact grownCap_le_maxLen _ _ _ _ (by unfold maxLen; omega)
 refine (callsIn_wide.2 (chunk_any _ _ _ _)).mono ?_
 rintro e w' ⟨rfl, rfl⟩
 gi_wp2
 refine wpIn_gen (fun W => St w W s L cap) (st_make w s L cap (by have := HL.out; omega)) ?_
 intro W0 hS
 have hLs : L ≤ s.size := by have := HL.out; omega
 have HLm := Lib.hid (show L = 188 * (s.size / 188) by have := HL.out; omega)
 have hsz := hS.size
 refine wpIn_rangeFunc_ownG rfl (by omega) (gf := 127) (lb := #[.pointer (some ⟨w.heap.size + 1 + 1, 0, none⟩), .pointer (some ⟨w.heap.size + 1 + 1 + 1, 0, none⟩)]) rfl trivial (enters_of Tryz.func127 (by kernel_rfl) rfl)
   (chunk_stops 8 (by omega) (w.heap.size + 1 + 1) (w.heap.size + 1 + 1 + 1) (w.heap.size + 1) (s.size / 188) L cap (w.heap.size + 1) (w.heap.size + 4) HLm.out hcap hbig (by omega) (by omega) (by omega) (by omega) W0 (by omega) hS.c1 hS.c2) Mid.trans (mid_b (by omega)) (Below.refl _ _) (fun _ => rfl)
   (fun pre W => (∃ v, Boxed W w.heap.size 28 v ∧ W.ownsRow (w.heap.size + 4) 9 1 v pre.length (pre.map fun x : Fin (s.size / 188) => .string (pk s x.val)) ∧ True) ∧ Below w.heap.size w W ∧ Mid (w.heap.size + 1) (w.heap.size + 4) W0 W)
   (fun _ _ _ => False)
   (OwnFrom.and (Own.from (holdsRow_own (w.heap.size + 4) w.heap.size 28 9 1 (fun pre : List (Fin (s.size / 188)) => pre.length) (fun pre => pre.map fun x : Fin (s.size / 188) => .string (pk s x.val)) (fun _ _ => True)) _) (OwnFrom.and (ownFrom_below (Nat.le_refl _) (by omega)) (ownFrom_mid (by omega))))
   (fun _ _ _ _ _ hs _ _ => hs)
   ⟨⟨_, hS.bo, World.ownsRow_nil _ _ _ _, trivial⟩, hS.be, Mid.refl _ _ _⟩
   (fun x => { tmps := #[.string s, undef, .slice none 0 0, .string { data := #[] }, .int .i64 (↑s.size / 188 * 188), .pointer (some ⟨w.heap.size, 0, none⟩), .slice (some ⟨w.heap.size + 1, 188 * x.val, none⟩) 188 188, .string s, .int .i64 ↑s.size, .int .i64 (↑s.size / 188), .int .i64 (↑s.size / 188 * 188), .string s, .int .i64 (↑s.size / 188 * 188), .string (s.extract 0 L), .slice (some ⟨w.heap.size + 1, 0, none⟩) L cap,
     .func (.func 127) #[] #[.pointer (some ⟨w.heap.size + 1 + 1, 0, none⟩), .pointer (some ⟨w.heap.size + 1 + 1 + 1, 0, none⟩)], .slice (some ⟨w.heap.size + 1, 188 * x.val, none⟩) 188 188, undef, undef, undef, undef, undef, undef, undef, undef, undef], defers := [] }) ?assign ?body ?done ?stop
 case assign =>
   intro l x W K hK
   gi_wp2
   exact hK
 case body =>
   rintro l pre x W ⟨⟨v, hv, hrow, _⟩, hB, hM⟩ hlt
   have hc := hv.cell
   have hx := x.isLt
   have hcv := conv_pk (W := W) (cap := 188) (x := x.val) (by have := HLm.out; omega) hLs (fun j hj => hM.cell (by omega) (by omega) (hS.bytes j hj))
   have hW : w.heap.size + 4 ≤ W.heap.size := by have := hM.size; omega
   clear hconv hL HM hcg hsz
   gi_wp2_with (gi_at_builtin; refine wpListIn_append_own _ rfl _ _ 28 rfl (w.heap.size + 4) 9 i0 (.string ByteArray.empty) 1 16 Tryz.underlying28 hi hz0 hz1 hz2 rfl (by decide) _ _ _ rfl (hrow.alloc _) ⟨W.heap.size, 0, none⟩ 1 1 [.string (pk s x.val)] rfl rfl (cell_one_new _ _ _) (by simp [Value.oneCell']) (by unfold maxLen; omega) (by omega) (by simp; omega) ?_; intro v' w1 hown' hgrow _; obtain ⟨g', cap', rfl⟩ := ownsRow_succ hown'; obtain ⟨hv1, hv2, hr2, hk2, hb2, hm2⟩ := appended hv (by decide) hrow hW (by omega) hown' hgrow; have hc1 := hv1.cell; have hf1 := hv1.frozen)
   exact ⟨hk2.from _, hm2, ⟨_, hv2, by simpa using hr2, trivial⟩, hB.trans hb2, hM.trans hm2⟩
 case done =>
   rintro D ys W hD hys ⟨⟨v, hv, hrow, _⟩, hB, hM⟩ hK
   have hc := fun p => cell_ext (World.block_lt_of_cell? W _ hv.cell) hv.cell p
   gi_wp2
   refine wpIn_wide.2 ?_
   refine Go.Proofs.YtbiiehobfnbloaaGreatDoor.Q.region_ext (by kernel_rfl) (by kernel_rfl) ?_
   repeat (go_big_quiet_step (fail))
   refine wpQuiet_nil ?_
   rintro w9 ⟨pq, rfl⟩
   clear hc
   gi_wp2
   have hrow1 := hrow.kept (only_of_below (below_ext W pq) none) (by cases h' : v.ownBlock with | none => exact Or.inl rfl | some r => exact Or.inr (by simp))
   have hK1 : (ext W pq).heap[D]? = some (.deferred (some [])) := (ext_block pq (Array.getElem?_eq_some_iff.1 hK).1).trans hK
   have hB1 := hB.trans ((below_ext W pq).mono hB.size)
   refine ⟨by simp, .inl ⟨_, _, rfl, run_takeDeferred hK1, ?_⟩⟩
   have hlen : ys.length = s.size / 188 := by have := congrArg List.length hys; simpa using this
   have hmap : ys.map (fun x => Value.string (pk s x.val)) = (pks s (s.size / 188)).map .string := by
     unfold pks
     rw [← hys]
     simp
   rw [hlen, hmap] at hrow1
   exact ⟨_, results_tmp2 rfl _ _ _, v, rfl, own_mono (ownsRow_putObj hrow1 _ hK1 rfl) (by omega), hB1.trans (belowK_b (w := w) (Nat.le_refl _) _ D _ _ (by omega) hK1 rfl rfl)⟩
 case stop =>
   rintro D c pre W _ _ h _
   exact h.elim
theorem cut_any (s : ByteArray) (w : World) (hs : s.size ≤ 1099511627776) :
   Calls Tryz.prog 18 #[.string s] w fun e W' => ∃ v, e = .returned (.tuple #[v, .string (s.extract (s.size / 188 * 188) s.size)]) ∧ W'.ownsRow w.heap.size 9 1 v (s.size / 188) ((pks s (s.size / 188)).map .string) ∧ Below w.heap.size w W' :=
 callsIn_wide.1 (cut_in s w hs)
end Go.Proofs.YtbiiehobfnbloaaGreatDoor.PkCut
