/- slices.Index, Contains, BinarySearch, Insert at []int, from the library's shelf; on rows of one's own. -/
import Derived.Test.YtlocgilgdnhnlaaGreatDoorApG
import Derived.Test.YtlocgilgdnhnlaaGreatDoorPkB
import Derived.Shelf.Slices.SearchI
import Derived.Shelf.Slices.Empties
import Derived.Shelf.Spec.SlicesInsert
import Derived.Shelf.Spec.SlicesInsertGrow
namespace Go.Proofs.YtlocgilgdnhnlaaGreatDoor.TlS
open Go Go.Shelf Go.RowKit Go.Proofs.YtlocgilgdnhnlaaGreatDoor.Q Go.Proofs.YtlocgilgdnhnlaaGreatDoor.Mem Go.Proofs.YtlocgilgdnhnlaaGreatDoor.Ap Go.Proofs.YtlocgilgdnhnlaaGreatDoor.ApG

def lays25_ren : Ren := ⟨fun | 25 => 28 | 31 => 41 | 32 => 42 | 37 => 55 | n => n, fun | 0 => 0 | 3 => 3 | 4 => 4 | 22 => 24 | 40 => 98 | n => n, fun | n => n⟩
theorem lays25 : Lays2.n25 Tryz.prog lays25_ren := {
  mixed := by kernel_rfl
  f25 := Tryz.func28.trans (congrArg some (by kernel_rfl))
  f31 := Tryz.func41.trans (congrArg some (by kernel_rfl))
  f32 := Tryz.func42.trans (congrArg some (by kernel_rfl))
  f37 := Tryz.func55.trans (congrArg some (by kernel_rfl))
  t0 := Tryz.underlying0
  a0 := Tryz.isAgg0
  z0 := Tryz.sizeOf0
  v0 := Tryz.zeroValue0
  t3 := Tryz.underlying3
  a3 := Tryz.isAgg3
  z3 := Tryz.sizeOf3
  v3 := Tryz.zeroValue3
  t4 := Tryz.underlying4
  a4 := Tryz.isAgg4
  z4 := Tryz.sizeOf4
  v4 := Tryz.zeroValue4
  t22 := Tryz.underlying24
  a22 := Tryz.isAgg24
  z22 := Tryz.sizeOf24
  v22 := Tryz.zeroValue24
  t40 := Tryz.underlying98
  a40 := Tryz.isAgg98
  z40 := Tryz.sizeOf98
  v40 := Tryz.zeroValue98 }
def lays21_ren : Ren := ⟨fun | 21 => 35 | 27 => 46 | 28 => 47 | 35 => 57 | 39 => 67 | n => n, fun | 0 => 0 | 3 => 3 | 4 => 4 | 22 => 24 | n => n, fun | n => n⟩
theorem lays21 : Lays2.n21 Tryz.prog lays21_ren := {
  mixed := by kernel_rfl
  f21 := Tryz.func35.trans (congrArg some (by kernel_rfl))
  f27 := Tryz.func46.trans (congrArg some (by kernel_rfl))
  f28 := Tryz.func47.trans (congrArg some (by kernel_rfl))
  f35 := Tryz.func57.trans (congrArg some (by kernel_rfl))
  f39 := Tryz.func67.trans (congrArg some (by kernel_rfl))
  t0 := Tryz.underlying0
  a0 := Tryz.isAgg0
  z0 := Tryz.sizeOf0
  v0 := Tryz.zeroValue0
  t3 := Tryz.underlying3
  a3 := Tryz.isAgg3
  z3 := Tryz.sizeOf3
  v3 := Tryz.zeroValue3
  t4 := Tryz.underlying4
  a4 := Tryz.isAgg4
  z4 := Tryz.sizeOf4
  v4 := Tryz.zeroValue4
  t22 := Tryz.underlying24
  a22 := Tryz.isAgg24
  z22 := Tryz.sizeOf24
  v22 := Tryz.zeroValue24
  i3 := by kernel_rfl }
set_option maxRecDepth 100000
def ints (L : List Nat) : List Value := L.map fun z : Nat => .int .i64 (z : Int)
theorem below_drew_only {w : World} (q : Nat) : w.grownBy (w.drewN q) none := ⟨rfl, rfl, rfl, Nat.le_refl _, fun _ _ _ => rfl⟩
theorem own_drewN {w : World} {B n sz : Nat} {e : TypeId} {v : Value} {xs : List Value} (h : w.ownsRow B e sz v n xs) (q : Nat) : (w.drewN q).ownsRow B e sz v n xs := h
/-- where x stands in a rising list, and whether it is there -/
theorem search_any (B : Nat) (v : Value) (n : Nat) (L : List Nat) (x : Int) (w : World) (hn : L.length = n) (hb : n ≤ 1000000) (hown : w.ownsRow B 3 1 v n (ints L)) (hs : L.Pairwise (· ≤ ·)) :
    Calls Tryz.prog 28 #[v, .int .i64 x] w fun e w' => e = .returned (.tuple #[.int .i64 (L.countP (fun z : Nat => decide ((z : Int) < x)) : Nat), .bool (decide (∃ z ∈ L, (z : Int) = x))]) ∧ ∃ q, w' = w.drewN q := by
  rcases hown.2 with ⟨rfl, h0⟩ | ⟨g, cap, cur, rfl, _, hg, _⟩
  · subst h0
    obtain rfl : L = [] := List.eq_nil_of_length_eq_zero hn
    refine (Any.slices_BinarySearch_int_empty lays25 none 0 x w).mono ?_
    rintro e w' ⟨rfl, rfl⟩
    exact ⟨by simp, 0, rfl⟩
  · obtain ⟨Z, hZ⟩ : ∃ Z : List Int, Z = L.map Int.ofNat := ⟨_, rfl⟩
    have hz : Z.take n = Z := List.take_of_length_le (by simp [hZ, hn])
    refine (Any.slices_BinarySearch_int lays25 g 0 n cap Z x w (by simp [hZ, hn]) (by omega) (fun j hj => ?_) (by rw [hz, hZ]; exact List.pairwise_map.2 (hs.imp (fun h => Int.ofNat_le.2 h)))).mono ?_
    · simp [hZ] at hj
      rw [Nat.zero_add, hown.cellAt j (by omega)]
      simp [ints, hj, hZ]
    · rintro e w' ⟨rfl, q, rfl⟩
      rw [hz]
      have e1 : Z.countP (fun z => decide (z < x)) = L.countP (fun z : Nat => decide ((z : Int) < x)) := by rw [hZ, List.countP_map]; rfl
      have e2 : Z.contains x = decide (∃ z ∈ L, (z : Int) = x) := by
        rw [Bool.eq_iff_iff, hZ]
        simp
      rw [← e1, ← e2]
      exact ⟨rfl, q, rfl⟩
theorem setCells_only {w : World} {g : Nat} : ∀ (vs : List Value) (o : Nat) (W : World), w.grownBy W (some g) → w.grownBy (W.setCells g o vs) (some g)
  | [], o, W, h => h
  | v :: t, o, W, h => by
    rw [World.setCells]
    exact setCells_only t (o + 1) _ (only_set h o v)
/-- what stands at i now -/
def ins (L : List Nat) (i x : Nat) : List Nat := L.take i ++ x :: L.drop i
theorem ins_len (L : List Nat) (i x : Nat) (hi : i ≤ L.length) : (ins L i x).length = L.length + 1 := by simp [ins]; omega
/-- a row of one's own, some of its cells put anew -/
theorem own_set {w : World} {B g n cap k : Nat} {e : TypeId} {xs ys : List Value} (h : w.ownsRow B e 1 (.slice (some ⟨g, 0, none⟩) n cap) n xs) (hk : k ≤ cap) (hl : ys.length = k) {W : World} (hW : ∃ cs, W.heap[g]? = some (.cells cs e (0, 0)) ∧ cs.size = cap ∧ cs.toList.take k = ys) :
    W.ownsRow B e 1 (.slice (some ⟨g, 0, none⟩) k cap) k ys := by
  rcases h.2 with ⟨h1, _⟩ | ⟨g', cap', cur, e1, hB, hg, _, hcm, hcs, _⟩
  · cases h1
  · simp only [Value.slice.injEq, true_and, Option.some.injEq, Addr.mk.injEq, and_true] at e1
    obtain ⟨rfl, rfl⟩ := e1
    obtain ⟨cs, h2, h3, h4⟩ := hW
    exact ⟨by rw [hl, Nat.mul_one], Or.inr ⟨g, cap, cs, rfl, hB, h2, hk, hcm, by rw [h3, Nat.mul_one], by rw [Nat.mul_one]; exact h4⟩⟩
theorem row_setCells {g : Nat} {e : TypeId} {fz : Nat × Nat} : ∀ (vs : List Value) (o : Nat) (w : World) (cs : Array Value), w.heap[g]? = some (.cells cs e fz) → (w.setCells g o vs).heap[g]? = some (.cells (Go.Proofs.YtlocgilgdnhnlaaGreatDoor.Rg.putAt cs o vs) e fz)
  | [], o, w, cs, h => h
  | v :: t, o, w, cs, h => by
    rw [World.setCells, Go.Proofs.YtlocgilgdnhnlaaGreatDoor.Rg.putAt]
    refine row_setCells t (o + 1) _ _ ?_
    simp [World.setCell, Array.getElem?_modify, h]
theorem put_size : ∀ (vs : List Value) (o : Nat) (cs : Array Value), (Go.Proofs.YtlocgilgdnhnlaaGreatDoor.Rg.putAt cs o vs).size = cs.size
  | [], o, cs => rfl
  | v :: t, o, cs => by rw [Go.Proofs.YtlocgilgdnhnlaaGreatDoor.Rg.putAt, put_size t]; simp
theorem put_get : ∀ (vs : List Value) (o : Nat) (cs : Array Value) (i : Nat), o + vs.length ≤ cs.size → (Go.Proofs.YtlocgilgdnhnlaaGreatDoor.Rg.putAt cs o vs)[i]? = if o ≤ i ∧ i < o + vs.length then vs[i - o]? else cs[i]?
  | [], o, cs, i, _ => by rw [Go.Proofs.YtlocgilgdnhnlaaGreatDoor.Rg.putAt, if_neg (by intro h; have := h.2; simp at this; omega)]
  | v :: t, o, cs, i, h => by
    simp only [List.length_cons] at h ⊢
    rw [Go.Proofs.YtlocgilgdnhnlaaGreatDoor.Rg.putAt, put_get t (o + 1) _ i (by simp; omega)]
    by_cases h1 : o + 1 ≤ i ∧ i < o + 1 + t.length
    · rw [if_pos h1, if_pos (by omega), show i - o = i - (o + 1) + 1 by omega, List.getElem?_cons_succ]
    · rw [if_neg h1]
      by_cases h2 : i = o
      · subst h2
        rw [if_pos (by omega), Nat.sub_self, Array.getElem?_setIfInBounds_self_of_lt (by omega)]
        rfl
      · rw [if_neg (by omega), Array.getElem?_setIfInBounds_ne (by omega)]
theorem ins_get (L : List Nat) (i x n k : Nat) (hn : L.length = n) (hi : i ≤ n) : (ints (ins L i x))[k]? = if k < i then (ints L)[k]? else if k = i then some (.int .i64 (x : Int)) else (ints L)[k - 1]? := by
  unfold ints ins
  rw [List.getElem?_map]
  by_cases h1 : k < i
  · rw [if_pos h1, List.getElem?_append_left (by simp; omega), List.getElem?_take, if_pos h1, List.getElem?_map]
  · rw [if_neg h1, List.getElem?_append_right (by simp; omega)]
    by_cases h2 : k = i
    · subst h2
      rw [if_pos rfl]
      simp [Nat.min_eq_left (by omega : k ≤ L.length)]
    · rw [if_neg h2]
      rw [List.length_take, Nat.min_eq_left (by omega), show k - i = (k - 1 - i) + 1 by omega, List.getElem?_cons_succ, List.getElem?_drop, List.getElem?_map]
      congr 2
      omega
/-- x is put in at i -/
theorem insert_any (B : Nat) (v : Value) (n i x g9 : Nat) (L : List Nat) (w : World) (hn : L.length = n) (hb : n ≤ 1000000) (hi : i ≤ n) (hown : w.ownsRow B 3 1 v n (ints L)) (hB : B ≤ w.heap.size) (hne : v.ownBlock ≠ some g9) (h9 : Blk w g9 3 #[.int .i64 (x : Int)]) :
    Calls Tryz.prog 35 #[v, .int .i64 i, .slice (some ⟨g9, 0, none⟩) 1 1] w fun e w' => ∃ v', e = .returned v' ∧ w'.ownsRow B 3 1 v' (n + 1) (ints (ins L i x)) ∧ w.grownBy w' v.ownBlock ∧ (v'.ownBlock = v.ownBlock ∨ v'.ownBlock = some w.heap.size) := by
  have hv9 : ∀ j u, [Value.int .i64 (x : Int)][j]? = some u → w.cell? ⟨g9, 0 + j, none⟩ = some u := fun j u hj => by
    cases j with
    | zero => simp at hj; subst hj; exact Blk.cell h9 0 rfl
    | succ j => simp at hj
  have h1v : ∀ u ∈ [Value.int .i64 (x : Int)], u.oneCell' = true := by simp [Value.oneCell']
  have hlen := hown.1
  rw [Nat.mul_one] at hlen
  have hxl : (ints (ins L i x)).length = n + 1 := by unfold ints; rw [List.length_map, ins_len L i x (by omega), hn]
  rcases hown.2 with ⟨rfl, rfl⟩ | ⟨g, cap, cur, rfl, hBg, hg, hnc, hcm, hcs, htk⟩
  · obtain rfl : L = [] := List.eq_nil_of_length_eq_zero hn
    obtain rfl : i = 0 := by omega
    refine (Any2.slices_Insert_int_end_grow lays21 none 0 0 g9 0 1 1 [] [.int .i64 (x : Int)] w (by decide) (by decide) (by decide) (by decide) rfl rfl (fun _ => rfl) (fun a h => (by cases h)) hv9 h1v).mono ?_
    rintro e w' ⟨rfl, rfl⟩
    have hc := grownCap_ge w (0 + 1) 0 3
    have hm := grownCap_le_maxLen w (0 + 1) 0 3 (by decide)
    refine ⟨_, rfl, ⟨by rw [hxl], Or.inr ⟨w.heap.size, _, _, rfl, hB, heap_alloc_new w.drew _, hc, hm, ?_, ?_⟩⟩, ⟨rfl, rfl, rfl, by simp, fun k hk _ => heap_alloc_old w.drew _ hk⟩, Or.inr rfl⟩
    · rw [Array.size_append, size_zeroCells]
      rw [show (Value.int IntKind.i64 0).cells.size = 1 from rfl]
      show 1 + (grownCap w (0 + 1) 0 3 - (0 + 1)) * 1 = grownCap w (0 + 1) 0 3 * 1
      omega
    · simp [ins, ints]
  · have holds : ∀ j u, (ints L)[j]? = some u → w.cell? ⟨g, 0 + j, none⟩ = some u := fun j u hj => by
      rw [Nat.zero_add, hown.cellAt j (by rw [Nat.mul_one, ← hlen]; exact (List.getElem?_eq_some_iff.1 hj).1)]
      exact hj
    have h1c : ∀ u ∈ ints L, u.oneCell' = true := fun u hu => by
      unfold ints at hu
      obtain ⟨z, _, rfl⟩ := List.mem_map.1 hu
      rfl
    have hgne : g9 ≠ g := fun e => hne (by rw [e]; rfl)
    have hcz : cur.size = cap := by rw [hcs, Nat.mul_one]
    have hsp : ∀ j, j < cap → (w.cell? ⟨g, j, none⟩).isSome = true := fun j hj => by
      rw [cell_of_row w g j cur _ _ hg, Array.getElem?_eq_getElem (by omega)]; rfl
    have hfz : ∀ j, w.frozen? ⟨g, j, none⟩ = false := fun j => hown.frozenAt j
    have hfin : ∀ (vs : List Value) (o : Nat) (vs2 : List Value) (o2 : Nat), vs = vs := fun _ _ _ _ => rfl
    clear hfin
    by_cases hin : i < n
    · by_cases hroom : n + 1 ≤ cap
      · refine (Any2.slices_Insert_int_shift lays21 g 0 n cap i g9 0 1 1 (ints L) [.int .i64 (x : Int)] w hin (by decide) hroom (by unfold maxLen at hcm; omega) hgne hlen rfl holds (fun j hj => by rw [Nat.zero_add]; exact hsp j (by omega)) (fun j _ => by rw [Nat.zero_add]; exact hfz j) hv9 h1c h1v
          3 3 1 cap (by unfold World.shape?; rw [show w.heap[g9]? = _ from h9]; rfl) (by unfold World.shape?; rw [hg]; simp [hcz]) (by omega) (Blk.frozen h9 0) (by unfold World.frozen?; rw [show w.heap[g9]? = _ from h9]; rfl)).mono ?_
        rintro e w' ⟨rfl, rfl⟩
        simp only [Nat.zero_add]
        refine ⟨_, rfl, own_set hown hroom hxl ⟨_, row_setCells _ _ _ _ (row_setCells _ _ _ _ hg), ?_, ?_⟩, setCells_only _ _ _ (setCells_only _ _ _ ⟨rfl, rfl, rfl, Nat.le_refl _, fun _ _ _ => rfl⟩), Or.inl rfl⟩
        · rw [put_size, put_size, hcz]
        · apply List.ext_getElem?
          intro k
          rw [List.getElem?_take]
          have hdl : ((ints L).drop i).length = n - i := by rw [List.length_drop, hlen]
          by_cases hk : k < n + 1
          · rw [if_pos hk, Array.getElem?_toList, put_get _ _ _ _ (by rw [put_size]; simp; omega), put_get _ _ _ _ (by rw [hdl]; omega)]
            have hik := ins_get L i x n k hn hi
            rw [hik]
            by_cases h1 : k < i
            · rw [if_pos h1, if_neg (by simp; omega), if_neg (by omega)]
              rw [← htk, List.getElem?_take, if_pos (by omega), Array.getElem?_toList]
            · rw [if_neg h1]
              by_cases h2 : k = i
              · subst h2
                rw [if_pos rfl, if_pos (by simp)]
                simp
              · rw [if_neg h2, if_neg (by simp; omega), if_pos (by rw [hdl]; omega), List.getElem?_drop]
                congr 1
                omega
          · rw [if_neg hk, List.getElem?_eq_none (by omega)]
      · have hc := grownCap_ge w (n + 1) cap 3
        have hm := grownCap_le_maxLen w (n + 1) cap 3 (by unfold maxLen; omega)
        have hzs : ∀ k, (Builtin.zeroCells (Value.int .i64 0).cells k).size = k := fun k => by rw [size_zeroCells, show (Value.int IntKind.i64 0).cells.size = 1 from rfl, Nat.mul_one]
        refine (Any2.slices_Insert_int_grow lays21 g 0 n cap i g9 0 1 1 (ints L) [.int .i64 (x : Int)] w hin (by decide) hnc (by omega) (by omega) hlen rfl holds hv9 h1c h1v).mono ?_
        rintro e w' ⟨rfl, rfl⟩
        obtain ⟨C, hC⟩ : ∃ C, ((ints L).take i).toArray ++ Builtin.zeroCells (Value.int .i64 0).cells (n + 1 - i) ++ Builtin.zeroCells (Value.int .i64 0).cells (grownCap w (n + 1) cap 3 - (n + 1)) = C := ⟨_, rfl⟩
        have hCz : C.size = grownCap w (n + 1) cap 3 := by
          rw [← hC, Array.size_append, Array.size_append, hzs, hzs]
          simp [hlen]
          omega
        have hCt : ∀ k, k < i → C[k]? = (ints L)[k]? := fun k hk => by
          rw [← hC, Array.append_assoc, Array.getElem?_append_left (by simp [hlen]; omega)]
          simp [hk]
        rw [show lays21_ren.t 3 = 3 from rfl, hC]
        have hrow : (((w.alloc (.cells C 3)).drew.setCells w.heap.size i [.int .i64 (x : Int)]).drew.setCells w.heap.size (i + 1) ((ints L).drop i)).heap[w.heap.size]? = some (.cells (Go.Proofs.YtlocgilgdnhnlaaGreatDoor.Rg.putAt (Go.Proofs.YtlocgilgdnhnlaaGreatDoor.Rg.putAt C i [.int .i64 (x : Int)]) (i + 1) ((ints L).drop i)) 3) :=
          row_setCells _ _ _ _ (row_setCells _ _ _ _ (heap_alloc_new w _))
        have hgr : w.grownBy (((w.alloc (.cells C 3)).drew.setCells w.heap.size i [.int .i64 (x : Int)]).drew.setCells w.heap.size (i + 1) ((ints L).drop i)) (some w.heap.size) :=
          setCells_only _ _ _ (only_drew (setCells_only (w := w) _ _ _ (only_drew (only_alloc (only_refl _ _) _))))
        refine ⟨_, rfl, ⟨by rw [hxl, Nat.mul_one], Or.inr ⟨w.heap.size, _, _, rfl, hB, hrow, hc, hm, ?_, ?_⟩⟩, ⟨hgr.os, hgr.tape, hgr.output, hgr.size, fun k hk _ => hgr.block k hk (fun e => by injection e with e; omega)⟩, Or.inr rfl⟩
        · rw [put_size, put_size, hCz, Nat.mul_one]
        · apply List.ext_getElem?
          intro k
          rw [List.getElem?_take, Nat.mul_one]
          have hdl : ((ints L).drop i).length = n - i := by rw [List.length_drop, hlen]
          by_cases hk : k < n + 1
          · rw [if_pos hk, Array.getElem?_toList, put_get _ _ _ _ (by rw [put_size, hdl]; omega), put_get _ _ _ _ (by simp; omega), ins_get L i x n k hn hi]
            by_cases h1 : k < i
            · rw [if_pos h1, if_neg (by omega), if_neg (by omega), hCt k h1]
            · rw [if_neg h1]
              by_cases h2 : k = i
              · subst h2
                rw [if_pos rfl, if_neg (by omega), if_pos (by simp)]
                simp
              · rw [if_neg h2, if_pos (by rw [hdl]; omega), List.getElem?_drop]
                congr 1
                omega
          · rw [if_neg hk, List.getElem?_eq_none (by omega)]
    · obtain rfl : i = n := by omega
      have hins : ints (ins L i x) = ints L ++ [.int .i64 (x : Int)] := by
        unfold ints ins
        rw [List.take_of_length_le (by omega), List.drop_of_length_le (by omega)]
        simp
      by_cases hroom : i + 1 ≤ cap
      · refine (Any2.slices_Insert_int_end_room lays21 g 0 i cap g9 0 1 1 [.int .i64 (x : Int)] w (by decide) hroom (by unfold maxLen at hcm; omega) rfl (fun j hj => by rw [show 0 + i + j = i by omega]; exact hsp i (by omega)) (fun j _ => hfz _) hv9 h1v).mono ?_
        rintro e w' ⟨rfl, rfl⟩
        refine ⟨_, rfl, own_set hown hroom hxl ⟨_, row_setCells _ _ _ _ hg, by rw [put_size, hcz], ?_⟩, setCells_only _ _ _ ⟨rfl, rfl, rfl, Nat.le_refl _, fun _ _ _ => rfl⟩, Or.inl rfl⟩
        rw [hins]
        apply List.ext_getElem?
        intro k
        rw [List.getElem?_take]
        by_cases hk : k < i + 1
        · rw [if_pos hk, Array.getElem?_toList, put_get _ _ _ _ (by simp; omega)]
          by_cases h2 : k = i
          · subst h2
            rw [if_pos (by simp), List.getElem?_append_right (by omega), hlen]
            simp
          · rw [if_neg (by simp; omega), List.getElem?_append_left (by omega), ← htk, List.getElem?_take, if_pos (by omega), Array.getElem?_toList]
        · rw [if_neg hk, List.getElem?_eq_none (by simp [hlen]; omega)]
      · have hc := grownCap_ge w (i + 1) cap 3
        have hm := grownCap_le_maxLen w (i + 1) cap 3 (by unfold maxLen; omega)
        refine (Any2.slices_Insert_int_end_grow lays21 (some ⟨g, 0, none⟩) i cap g9 0 1 1 (ints L) [.int .i64 (x : Int)] w (by decide) hnc (by omega) (by omega) hlen rfl (fun h => (by cases h)) (fun a ha j u hj => by
          injection ha with ha
          subst ha
          rw [show (⟨g, 0, none⟩ : Addr).add j = ⟨g, 0 + j, none⟩ by unfold Addr.add; split <;> simp_all]
          exact holds j u hj) hv9 h1v).mono ?_
        rintro e w' ⟨rfl, rfl⟩
        refine ⟨_, rfl, ⟨by rw [hxl, Nat.mul_one], Or.inr ⟨w.heap.size, _, _, rfl, hB, heap_alloc_new w.drew _, hc, hm, ?_, ?_⟩⟩, ⟨rfl, rfl, rfl, by simp, fun k hk _ => heap_alloc_old w.drew _ hk⟩, Or.inr rfl⟩
        · rw [Array.size_append, size_zeroCells, show (Value.int IntKind.i64 0).cells.size = 1 from rfl]
          simp [hlen]
          have : i + 1 ≤ grownCap w (i + 1) cap 3 := hc
          show i + 1 + (grownCap w (i + 1) cap 3 - (i + 1)) = grownCap w (i + 1) cap 3
          omega
        · rw [hins, Array.toList_append, List.take_append_of_le_length (by simp [hlen]), List.take_of_length_le (by simp [hlen])]
end Go.Proofs.YtlocgilgdnhnlaaGreatDoor.TlS
