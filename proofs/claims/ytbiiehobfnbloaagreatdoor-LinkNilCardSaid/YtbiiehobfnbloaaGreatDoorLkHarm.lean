/- link: what is done to a slot's packet. -/
import Derived.RegionTactic
import Derived.BigRegion
import Derived.Test.YtbiiehobfnbloaaGreatDoorPkCut
namespace Go.Proofs.YtbiiehobfnbloaaGreatDoor.LkHarm
open Go.RowKit Go.Proofs.YtbiiehobfnbloaaGreatDoor.Q Go.Proofs.YtbiiehobfnbloaaGreatDoor.Mem Go.Proofs.YtbiiehobfnbloaaGreatDoor.PkCut

/-- the row of packets has become this one, and nothing else has turned -/
structure Row (w w' : World) (base g n cap : Nat) (A : List ByteArray) : Prop where
  own : w'.ownsRow base 9 1 (.slice (some ⟨g, 0, none⟩) n cap) n (A.map .string)
  only : w.grownBy w' (some g)

section
variable {w : World} {base g n cap : Nat} {A : List ByteArray}
theorem row_at {k : Nat} (h : w.ownsRow base 9 1 (.slice (some ⟨g, 0, none⟩) n cap) n (A.map .string)) (hk : k < n) : w.cell? ⟨g, k, none⟩ = some (.string (A[k]?.getD ByteArray.empty)) := by
  have hl : A.length = n := by have := h.1; simpa using this
  rw [h.cellAt k (by omega), List.getElem?_map, List.getElem?_eq_getElem (by omega)]
  rfl
theorem row_set {k : Nat} (h : w.ownsRow base 9 1 (.slice (some ⟨g, 0, none⟩) n cap) n (A.map .string)) (x : ByteArray) :
    (w.setCell ⟨g, k, none⟩ (.string x)).ownsRow base 9 1 (.slice (some ⟨g, 0, none⟩) n cap) n ((A.set k x).map .string) := by
  have := (h.stored k (.string x)).1
  rwa [List.map_set]
theorem row_len (h : w.ownsRow base 9 1 (.slice (some ⟨g, 0, none⟩) n cap) n (A.map .string)) : A.length = n := by have := h.1; simpa using this
theorem row_lt (h : w.ownsRow base 9 1 (.slice (some ⟨g, 0, none⟩) n cap) n (A.map .string)) : g < w.heap.size := (h.lt g rfl).2
end

/-- a harm, boxed -/
abbrev hv (d k a b : Int) : Value := .agg #[.int .i64 d, .int .i64 k, .int .i64 a, .int .u8 b]
theorem lose_any (base g n cap k : Nat) (A : List ByteArray) (d a b : Int) (w : World) (hk : k < n) (h : w.ownsRow base 9 1 (.slice (some ⟨g, 0, none⟩) n cap) n (A.map .string)) :
    Calls Tryz.prog 189 #[.slice (some ⟨g, 0, none⟩) n cap, .agg #[.int .i64 d, .int .i64 k, .int .i64 a, .int .u8 b]] w fun e w' => e = .returned (.tuple #[]) ∧ Row w w' base g n cap (A.set k ByteArray.empty) := by
  obtain ⟨W, hW⟩ : ∃ W, w.alloc (.cells #[.int .i64 d, .int .i64 k, .int .i64 a, .int .u8 b] 175) = W := ⟨_, rfl⟩
  have q0 : Blk W w.heap.size 175 #[.int .i64 d, .int .i64 k, .int .i64 a, .int .u8 b] := by rw [← hW]; exact Blk.new w _ _
  have o0 : w.grownBy W (some g) := by rw [← hW]; exact only_alloc (only_refl _ _) _
  have h1 : W.ownsRow base 9 1 (.slice (some ⟨g, 0, none⟩) n cap) n (A.map .string) := by rw [← hW]; exact h.alloc _
  have HW := Lib.hid hW
  have c1 := row_at h1 hk
  have f1 := h1.frozenAt k
  have HR : Hid _ := Lib.hid (Row.mk (w := w) (row_set h1 (k := k) ByteArray.empty) (only_set o0 k _))
  rw [← hW] at c1 f1
  clear h h1 q0 o0 hW
  go_enter Tryz.func189, Tryz.ntmps189
  go_wp2
  rw [HW.out]
  go_end0
  exact ⟨rfl, HR.out⟩

theorem again_any (base g n cap k : Nat) (A : List ByteArray) (d a b : Int) (w : World) (hk : k < n) (hn : n ≤ 1099511627776) (h : w.ownsRow base 9 1 (.slice (some ⟨g, 0, none⟩) n cap) n (A.map .string)) :
    Calls Tryz.prog 191 #[.slice (some ⟨g, 0, none⟩) n cap, .agg #[.int .i64 d, .int .i64 k, .int .i64 a, .int .u8 b]] w fun e w' => e = .returned (.tuple #[]) ∧ Row w w' base g n cap (if 0 < k then A.set k (A[k - 1]?.getD ByteArray.empty) else A) := by
  obtain ⟨W, hW⟩ : ∃ W, w.alloc (.cells #[.int .i64 d, .int .i64 k, .int .i64 a, .int .u8 b] 175) = W := ⟨_, rfl⟩
  have q0 : Blk W w.heap.size 175 #[.int .i64 d, .int .i64 k, .int .i64 a, .int .u8 b] := by rw [← hW]; exact Blk.new w _ _
  have o0 : w.grownBy W (some g) := by rw [← hW]; exact only_alloc (only_refl _ _) _
  have h1 : W.ownsRow base 9 1 (.slice (some ⟨g, 0, none⟩) n cap) n (A.map .string) := by rw [← hW]; exact h.alloc _
  have HW := Lib.hid hW
  by_cases h0 : 0 < k
  · rw [if_pos h0]
    have t0 : decide (0 < (k : Int)) = true := by simpa using h0
    clear hW h
    go_enter Tryz.func191, Tryz.ntmps191
    go_wp2
    rw [HW.out]
    have c1 := fun p => Blk.cell (blk_ext q0 p) 1 (v := .int .i64 k) rfl
    have r1 := fun p => cell_ext (row_lt h1) (row_at h1 (k := k - 1) (by omega)) p
    have r2 := fun p => cell_ext (row_lt h1) (row_at h1 hk) p
    have f1 := fun p => (frozen_ext (a := ⟨g, k, none⟩) (row_lt h1) p).trans (h1.frozenAt k)
    refine Go.Proofs.YtbiiehobfnbloaaGreatDoor.Q.region_ext_tail 10 (by kernel_rfl) (by kernel_rfl) ?_
    simp only [List.take_succ_cons, List.take_zero, List.drop_succ_cons, List.drop_zero]
    repeat (go_big_quiet_step (fail))
    refine wpQuiet_nil ?_
    rintro w9 ⟨pq, rfl⟩
    have h2 := h1.kept (only_of_below (below_ext W pq) none) (Or.inr (by simp [Value.ownBlock]))
    have HR : Hid _ := Lib.hid (Row.mk (w := w) (row_set h2 (k := k) (A[k - 1]?.getD ByteArray.empty)) (only_set (only_trans o0 (only_of_below (below_ext W pq) _)) k _))
    clear h2 h1 o0 q0
    go_wp2
    go_end0
    exact ⟨rfl, HR.out⟩
  · rw [if_neg h0]
    have t0 : decide (0 < (k : Int)) = false := by simpa using h0
    clear hW h
    go_enter Tryz.func191, Tryz.ntmps191
    go_wp2
    rw [HW.out]
    go_end0
    exact ⟨rfl, h1, o0⟩

theorem swap_any (base g n cap k : Nat) (A : List ByteArray) (d a b : Int) (w : World) (hk : k < n) (hn : n ≤ 1099511627776) (h : w.ownsRow base 9 1 (.slice (some ⟨g, 0, none⟩) n cap) n (A.map .string)) :
    Calls Tryz.prog 192 #[.slice (some ⟨g, 0, none⟩) n cap, .agg #[.int .i64 d, .int .i64 k, .int .i64 a, .int .u8 b]] w fun e w' => e = .returned (.tuple #[]) ∧ Row w w' base g n cap (if k + 1 < n then (A.set k (A[k + 1]?.getD ByteArray.empty)).set (k + 1) (A[k]?.getD ByteArray.empty) else A) := by
  obtain ⟨W, hW⟩ : ∃ W, w.alloc (.cells #[.int .i64 d, .int .i64 k, .int .i64 a, .int .u8 b] 175) = W := ⟨_, rfl⟩
  have q0 : Blk W w.heap.size 175 #[.int .i64 d, .int .i64 k, .int .i64 a, .int .u8 b] := by rw [← hW]; exact Blk.new w _ _
  have o0 : w.grownBy W (some g) := by rw [← hW]; exact only_alloc (only_refl _ _) _
  have h1 : W.ownsRow base 9 1 (.slice (some ⟨g, 0, none⟩) n cap) n (A.map .string) := by rw [← hW]; exact h.alloc _
  have HW := Lib.hid hW
  by_cases h0 : k + 1 < n
  · rw [if_pos h0]
    have t0 : decide (k + 1 < n) = true := by simpa using h0
    have hgl := row_lt h
    clear hW h
    go_enter Tryz.func192, Tryz.ntmps192
    go_wp2
    rw [HW.out]
    have c1 := Blk.cell q0 1 (v := .int .i64 k) rfl
    have r1 := row_at h1 (k := k + 1) (by omega)
    have r2 := row_at h1 hk
    have f1 := h1.frozenAt k
    have f2 := h1.frozenAt (k + 1)
    have e2 : ¬ g = w.heap.size := by omega
    have HR : Hid _ := Lib.hid (Row.mk (w := w) (row_set (row_set h1 (k := k) (A[k + 1]?.getD ByteArray.empty)) (k := k + 1) (A[k]?.getD ByteArray.empty)).drew (only_drew (only_set (only_set o0 k _) (k + 1) _)))
    clear h1 q0 o0
    go_region
    go_end0
    exact ⟨rfl, HR.out⟩
  · rw [if_neg h0]
    have t0 : decide (k + 1 < n) = false := by simpa using h0
    clear hW h
    go_enter Tryz.func192, Tryz.ntmps192
    go_wp2
    rw [HW.out]
    go_end0
    exact ⟨rfl, h1, o0⟩

/-- one byte turned -/
def turnB (x : ByteArray) (i : Nat) (b : Int) : ByteArray := ⟨x.data.setIfInBounds i (x.data[i]?.getD 0 ^^^ UInt8.ofNat b.toNat)⟩

theorem xor_u8 (y : UInt8) (b : Int) (hb : 0 ≤ b ∧ b < 256) : bits .xor .u8 (y.toNat : Int) b = ((y ^^^ UInt8.ofNat b.toNat).toNat : Int) := by
  obtain ⟨c, rfl⟩ : ∃ c : Nat, b = c := ⟨b.toNat, by omega⟩
  have hc : c < 2 ^ 8 := by omega
  have hy : y.toNat < 2 ^ 8 := y.toNat_lt
  have hx : y.toNat ^^^ c < 2 ^ 8 := Nat.xor_lt_two_pow hy hc
  have h1 : (BitVec.ofInt 8 (y.toNat : Int)).toNat = y.toNat := by
    rw [BitVec.ofInt_natCast, BitVec.toNat_ofNat]; exact Nat.mod_eq_of_lt hy
  have h2 : (BitVec.ofInt 8 (c : Int)).toNat = c := by
    rw [BitVec.ofInt_natCast, BitVec.toNat_ofNat]; exact Nat.mod_eq_of_lt hc
  show IntKind.u8.wrap ((BitVec.ofInt 8 (y.toNat : Int) ^^^ BitVec.ofInt 8 (c : Int)).toNat : Int) = _
  rw [BitVec.toNat_xor, h1, h2, IntKind.wrap_u8, UInt8.toNat_xor]
  have h3 : (UInt8.ofNat (c : Int).toNat).toNat = c := by
    rw [Int.toNat_natCast, UInt8.toNat_ofNat']; exact Nat.mod_eq_of_lt hc
  rw [h3]
  omega

theorem grownBy_setAt (W : World) (b i : Nat) (v : Value) : W.grownBy (W.setCell ⟨b, i, none⟩ v) (some b) := only_set (only_refl _ _) i v
theorem turnB_size (x : ByteArray) (i : Nat) (b : Int) : (turnB x i b).size = x.size := Array.size_setIfInBounds
theorem turnB_get (x : ByteArray) (i : Nat) (b : Int) (hi : i < x.size) (j : Nat) : (turnB x i b).data[j]? = if j = i then some (x.data[i]?.getD 0 ^^^ UInt8.ofNat b.toNat) else x.data[j]? := by
  have h : i < x.data.size := hi
  unfold turnB
  rw [Array.getElem?_setIfInBounds]
  by_cases e : i = j
  · subst e; rw [if_pos rfl, if_pos h, if_pos rfl]
  · rw [if_neg e, if_neg (fun e' => e e'.symm)]

/-- behind the copy of the packet -/
structure Tb (w W : World) (base g n cap bb k : Nat) (A : List ByteArray) (d a b : Int) (x : ByteArray) : Prop where
  own : W.ownsRow base 9 1 (.slice (some ⟨g, 0, none⟩) n cap) n (A.map .string)
  only : w.grownBy W (some g)
  box : Blk W w.heap.size 175 #[.int .i64 d, .int .i64 k, .int .i64 a, .int .u8 b]
  bytes : ∀ j, j < x.size → W.cell? ⟨bb, j, none⟩ = some (.int .u8 ((x.data[j]?.getD 0).toNat : Int))
  free : ∀ j, j < x.size → W.frozen? ⟨bb, j, none⟩ = false
  lt : bb < W.heap.size
  old : w.heap.size ≤ bb

theorem tb_make (w W : World) (base g n cap k : Nat) (A : List ByteArray) (d a b : Int) (x : ByteArray) (c : Nat) (hs : W.heap.size = w.heap.size + 1)
    (h1 : W.ownsRow base 9 1 (.slice (some ⟨g, 0, none⟩) n cap) n (A.map .string)) (o0 : w.grownBy W (some g)) (q0 : Blk W w.heap.size 175 #[.int .i64 d, .int .i64 k, .int .i64 a, .int .u8 b]) :
    Tb w (W.alloc (Obj.cells (bytesRow x c) 5 ((bytesRow x c).size, (bytesRow x c).size + 1))).drew base g n cap (w.heap.size + 1) k A d a b x := by
  have hc : ∀ j, (W.alloc (Obj.cells (bytesRow x c) 5 ((bytesRow x c).size, (bytesRow x c).size + 1))).drew.cell? ⟨w.heap.size + 1, j, none⟩ = (bytesRow x c)[j]? := fun j => by
    rw [← hs]; exact World.cell?_alloc_mark W _ _ _ j
  refine ⟨h1.alloc _, only_drew (only_alloc o0 _), q0.alloc _, fun j hj => ?_, fun j hj => ?_, by simp [hs], by omega⟩
  · have hj' : j < x.data.size := hj
    rw [hc, bytesRow_at _ _ _ hj', Array.getElem?_eq_getElem hj']
    rfl
  · have := World.frozen?_alloc_mark W (bytesRow x c) 5 (bytesRow x c).size ((bytesRow x c).size + 1) j
    rw [hs] at this
    refine this.trans ?_
    have hsz : x.size ≤ (bytesRow x c).size := by have e : x.size = x.data.size := rfl; simp only [bytesRow, Array.size_append, Array.size_map, Array.size_replicate]; omega
    simp
    omega

set_option maxRecDepth 100000 in
theorem turn_any (base g n cap k : Nat) (A : List ByteArray) (d a b : Int) (w : World) (hk : k < n) (h : w.ownsRow base 9 1 (.slice (some ⟨g, 0, none⟩) n cap) n (A.map .string)) (x : ByteArray) (hx : A[k]?.getD ByteArray.empty = x) (hb : 0 ≤ b ∧ b < 256) :
    Calls Tryz.prog 190 #[.slice (some ⟨g, 0, none⟩) n cap, .agg #[.int .i64 d, .int .i64 k, .int .i64 a, .int .u8 b]] w fun e w' => e = .returned (.tuple #[]) ∧ Row w w' base g n cap (if 0 ≤ a ∧ a < x.size then A.set k (turnB x a.toNat b) else A) := by
  obtain ⟨W, hW⟩ : ∃ W, w.alloc (.cells #[.int .i64 d, .int .i64 k, .int .i64 a, .int .u8 b] 175) = W := ⟨_, rfl⟩
  have q0 : Blk W w.heap.size 175 #[.int .i64 d, .int .i64 k, .int .i64 a, .int .u8 b] := by rw [← hW]; exact Blk.new w _ _
  have o0 : w.grownBy W (some g) := by rw [← hW]; exact only_alloc (only_refl _ _) _
  have h1 : W.ownsRow base 9 1 (.slice (some ⟨g, 0, none⟩) n cap) n (A.map .string) := by rw [← hW]; exact h.alloc _
  have HW := Lib.hid hW
  have c1 := row_at h1 hk
  rw [hx] at c1
  have hconv := fun (w : World) => run_bytes_of_string (P := Tryz.prog) w 9 145 5 x Tryz.underlying9 Tryz.underlying145 Tryz.underlying5
  rw [← hW] at c1
  have hgl := row_lt h
  clear h hW
  have hTb := fun c => tb_make w W base g n cap k A d a b x c (by rw [← HW.out]; simp) h1 o0 q0
  clear h1 q0 o0
  by_cases ha : 0 ≤ a ∧ a < x.size
  · rw [if_pos ha]
    obtain ⟨i, rfl⟩ : ∃ i : Nat, a = i := ⟨a.toNat, by omega⟩
    have t1 : decide (i < x.size) = true := by simp; omega
    clear ha
    go_enter Tryz.func190, Tryz.ntmps190
    go_wp2
    rw [HW.out]
    refine wp_gen (fun V => Tb w V base g n cap (w.heap.size + 1) k A d i b x) (hTb _) ?_
    intro V hV
    clear hTb hconv HW c1
    have z1 := fun p => Blk.cell (blk_ext hV.box p) 2 (v := .int .i64 i) rfl
    have z2 := fun p => Blk.cell (blk_ext hV.box p) 3 (v := .int .u8 b) rfl
    have hil : i < x.size := by simpa using t1
    have hby := hV.bytes i hil
    obtain ⟨y, hy⟩ : ∃ y, x.data[i]?.getD 0 = y := ⟨_, rfl⟩
    rw [hy] at hby
    have z3 := fun p => cell_ext hV.lt hby p
    have z4 := fun p => (frozen_ext (a := ⟨w.heap.size + 1, i, none⟩) hV.lt p).trans (hV.free i hil)
    have HY := Lib.hid hy
    clear hy hby
    refine Go.Proofs.YtbiiehobfnbloaaGreatDoor.Q.region_ext_tail 9 (by kernel_rfl) (by kernel_rfl) ?_
    simp only [List.take_succ_cons, List.take_zero, List.drop_succ_cons, List.drop_zero]
    repeat (go_big_quiet_step (fail))
    refine wpQuiet_nil ?_
    rintro w9 ⟨pq, rfl⟩
    have z4' := z4 pq
    have z3' := z3 pq
    obtain ⟨z, hz⟩ : ∃ z, y ^^^ UInt8.ofNat b.toNat = z := ⟨_, rfl⟩
    rw [xor_u8 y b hb, hz]
    obtain ⟨V1, hV1⟩ : ∃ V1, (ext V pq).setCell ⟨w.heap.size + 1, i, none⟩ (.int .u8 (z.toNat : Int)) = V1 := ⟨_, rfl⟩
    have HZ := Lib.hid hz
    clear hz
    have hcl : ∀ j (hj : j < (turnB x i b).data.toList.length), V1.cell? ((⟨w.heap.size + 1, 0, none⟩ : Addr).add j) = some (.int .u8 ((turnB x i b).data.toList[j].toNat : Int)) := by
      intro j hj
      have hp : (⟨w.heap.size + 1, 0, none⟩ : Addr).add j = ⟨w.heap.size + 1, j, none⟩ := by unfold Addr.add; split <;> simp_all
      have hjx : j < x.size := by rw [Array.length_toList] at hj; exact Nat.lt_of_lt_of_eq hj (turnB_size x i b)
      have hg := turnB_get x i b hil j
      rw [← Array.getElem?_toList, List.getElem?_eq_getElem hj] at hg
      rw [hp, ← hV1]
      by_cases e : j = i
      · subst e
        rw [if_pos rfl, HY.out, HZ.out] at hg
        injection hg with hg
        rw [hg]
        exact World.cell?_setCell_same' _ _ _ (by rw [z3']; rfl)
      · rw [if_neg e] at hg
        rw [World.cell?_setCell_other _ _ _ _ (fun h : (⟨w.heap.size + 1, i, none⟩ : Addr) = ⟨w.heap.size + 1, j, none⟩ => e (congrArg Addr.off h).symm), cell_ext hV.lt (hV.bytes j hjx) pq, ← hg]
        rfl
    have hback : (convert 145 9 (.slice (some ⟨w.heap.size + 1, 0, none⟩) x.size (grownCap W x.size 0 5))).run Tryz.prog V1 = .ok (.string (turnB x i b)) V1 := by
      have := run_convert_bytes_back (P := Tryz.prog) V1 145 9 5 ⟨w.heap.size + 1, 0, none⟩ (grownCap W x.size 0 5) (turnB x i b).data.toList Tryz.underlying145 Tryz.underlying5 Tryz.underlying9 hcl
      have hl : (turnB x i b).data.toList.length = x.size := by rw [Array.length_toList]; exact turnB_size x i b
      rw [hl] at this
      simpa using this
    have s1 : V1.cell? ⟨w.heap.size, 1, none⟩ = some (.int .i64 k) := by
      rw [← hV1]
      exact Blk.cell (Blk.far (blk_ext hV.box pq) (by show w.heap.size ≠ w.heap.size + 1; omega) _) 1 rfl
    have own1 : V1.ownsRow base 9 1 (.slice (some ⟨g, 0, none⟩) n cap) n (A.map .string) := by
      rw [← hV1]
      exact (hV.own.kept (only_of_below (below_ext V pq) none) (Or.inr (by simp [Value.ownBlock]))).kept (grownBy_setAt _ _ _ _) (Or.inr (by simp [Value.ownBlock]; omega))
    have s2 := row_at own1 hk
    have s3 := own1.frozenAt k
    have HR : Hid _ := Lib.hid (Row.mk (w := w) (row_set own1 (k := k) (turnB x i b)) (only_set (g := g) (a := w) (w := V1) (by rw [← hV1]; exact only_new (only_trans hV.only (only_of_below (below_ext V pq) _)) (by show w.heap.size ≤ w.heap.size + 1; omega) _) k _))
    rw [← hV1] at hback s1 s2 s3 HR
    clear hV1 own1 hcl z1 z2 z3 z4
    go_wp2
    go_end0
    exact ⟨rfl, HR.out⟩
  · rw [if_neg ha]
    have hHV : ∀ c, Hid (Row w (W.alloc (Obj.cells (bytesRow x c) 5 ((bytesRow x c).size, (bytesRow x c).size + 1))).drew base g n cap A) := fun c => Lib.hid ⟨(hTb c).own, (hTb c).only⟩
    clear hTb
    by_cases h0 : 0 ≤ a
    · have t0 : decide (0 ≤ a) = true := by simpa using h0
      have t1 : decide (a < (x.size : Int)) = false := by simp; omega
      clear ha
      go_enter Tryz.func190, Tryz.ntmps190
      go_wp2
      rw [HW.out]
      go_end0
      exact ⟨rfl, (hHV _).out⟩
    · have t0 : decide (0 ≤ a) = false := by simpa using h0
      clear ha
      go_enter Tryz.func190, Tryz.ntmps190
      go_wp2
      rw [HW.out]
      go_end0
      exact ⟨rfl, (hHV _).out⟩
end Go.Proofs.YtbiiehobfnbloaaGreatDoor.LkHarm
