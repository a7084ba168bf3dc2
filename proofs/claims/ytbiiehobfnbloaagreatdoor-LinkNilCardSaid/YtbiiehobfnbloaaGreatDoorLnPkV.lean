import Derived.Test.YtbiiehobfnbloaaGreatDoorLnApG
import Derived.Test.YtbiiehobfnbloaaGreatDoorLnPkB
import Derived.Shelf.Slices.SearchI
import Derived.Shelf.Slices.Empties
import Derived.Shelf.Spec.SlicesInsert
import Derived.Shelf.Spec.SlicesInsertGrow
import Derived.Test.YtbiiehobfnbloaaGreatDoorLnApC
import Derived.Test.YtbiiehobfnbloaaGreatDoorLnTab
import Derived.Test.YtbiiehobfnbloaaGreatDoorLnPkD
import Derived.Test.YtbiiehobfnbloaaGreatDoorLnPkS
import Derived.Test.YtbiiehobfnbloaaGreatDoorLnPkA
namespace Go.Proofs.YtbiiehobfnbloaaGreatDoor.TlS
open Go Go.Shelf Go.RowKit Q Mem Ap ApG
set_option maxRecDepth 100000
def ints (L : List Nat) : List Value := L.map fun z : Nat => .int .i64 (z : Int)
end Go.Proofs.YtbiiehobfnbloaaGreatDoor.TlS
namespace Go.Proofs.YtbiiehobfnbloaaGreatDoor.TbM
open Go Go.RowKit Q Mem Rg Ap ApG St BiW Tab TlS Fl
set_option maxRecDepth 100000
def Fm (w : World) (g : Nat) (t : TypeId) (n : Nat) (f : Nat → Value) : Prop := ∃ cs, w.heap[g]? = some (.cells cs t (0, 0)) ∧ cs.size = n ∧ ∀ i, i < n → cs[i]? = some (f i)
section
variable {w w' : World} {g n : Nat} {t : TypeId} {f f' : Nat → Value}
theorem Fm.lt (h : Fm w g t n f) : g < w.heap.size := by obtain ⟨cs, h1, _⟩ := h; exact (Array.getElem?_eq_some_iff.1 h1).1
theorem Fm.cell (h : Fm w g t n f) (i : Nat) (hi : i < n) : w.cell? ⟨g, i, none⟩ = some (f i) := by
  obtain ⟨cs, h1, _, h3⟩ := h
  rw [cell_of_row w g i cs _ _ h1]; exact h3 i hi
theorem Fm.frozen (h : Fm w g t n f) (i : Nat) : w.frozen? ⟨g, i, none⟩ = false := by
  obtain ⟨cs, h1, _⟩ := h
  simp [World.frozen?, h1]
theorem Fm.same (h : Fm w g t n f) (hb : w'.heap[g]? = w.heap[g]?) : Fm w' g t n f := by obtain ⟨cs, h1, h2⟩ := h; exact ⟨cs, hb.trans h1, h2⟩
theorem Fm.below {B : Nat} (h : Fm w g t n f) (hb : Below B w w') (hg : g < B) : Fm w' g t n f := h.same (hb.block g hg)
theorem Fm.ext (h : Fm w g t n f) (p : Ext) : Fm (ext w p) g t n f := h.same (ext_block p h.lt)
theorem Fm.congr (h : Fm w g t n f) (he : ∀ i, i < n → f i = f' i) : Fm w g t n f' := by
  obtain ⟨cs, h1, h2, h3⟩ := h
  exact ⟨cs, h1, h2, fun i hi => by rw [← he i hi]; exact h3 i hi⟩
theorem Fm.put (h : Fm w g t n f) (i : Nat) (u : Value) : Fm (w.setCell ⟨g, i, none⟩ u) g t n (fun j => if j = i then u else f j) := by
  obtain ⟨cs, h1, h2, h3⟩ := h
  refine ⟨cs.setIfInBounds i u, ?_, by simp [h2], fun j hj => ?_⟩
  · simp [World.setCell, Array.getElem?_modify, h1]
  · by_cases e : j = i
    · subst e
      dsimp only
      rw [if_pos rfl, Array.getElem?_setIfInBounds_self_of_lt (by omega)]
    · dsimp only
      rw [if_neg e, Array.getElem?_setIfInBounds_ne (fun h => e h.symm)]
      exact h3 j hj
theorem Fm.far (h : Fm w g t n f) {p : Addr} (hp : g ≠ p.block) (u : Value) : Fm (w.setCell p u) g t n f := h.same (Below.heap_setCell w p u g hp)
theorem Fm.alloc (h : Fm w g t n f) (o : Obj) : Fm (w.alloc o) g t n f := h.same (Below.heap_alloc w o g h.lt)
end
structure Kept (F : Nat → Prop) (w w' : World) : Prop where
  os : w'.os = w.os
  tape : w'.tape = w.tape
  output : w'.output = w.output
  size : w.heap.size ≤ w'.heap.size
  block : ∀ i, i < w.heap.size → ¬ F i → w'.heap[i]? = w.heap[i]?
section
variable {a b c : World} {F G : Nat → Prop}
theorem Kept.refl (F : Nat → Prop) (a : World) : Kept F a a := ⟨rfl, rfl, rfl, Nat.le_refl _, fun _ _ _ => rfl⟩
theorem Kept.trans (h : Kept F a b) (k : Kept G b c) (hG : ∀ i, i < a.heap.size → G i → F i) : Kept F a c :=
  ⟨k.os.trans h.os, k.tape.trans h.tape, k.output.trans h.output, Nat.le_trans h.size k.size, fun i hi hF => (k.block i (Nat.lt_of_lt_of_le hi h.size) (fun hg => hF (hG i hi hg))).trans (h.block i hi hF)⟩
theorem Kept.mono (h : Kept G a b) (hG : ∀ i, i < a.heap.size → G i → F i) : Kept F a b := ⟨h.os, h.tape, h.output, h.size, fun i hi hF => h.block i hi (fun hg => hF (hG i hi hg))⟩
theorem kept_below (F : Nat → Prop) (h : Below a.heap.size a b) : Kept F a b := ⟨h.os, h.tape, h.output, h.size, fun i hi _ => h.block i hi⟩
theorem kept_set {p : Addr} {u : Value} (hF : F p.block) : Kept F a (a.setCell p u) := ⟨rfl, rfl, rfl, by simp [World.setCell], fun i _ hn => Below.heap_setCell a p u i (fun e => hn (e ▸ hF))⟩
theorem Kept.be {B : Nat} (h : Kept F a b) (hB : B ≤ a.heap.size) (hF : ∀ i, F i → B ≤ i) : Below B a b := ⟨h.os, h.tape, h.output, h.size, fun i hi => h.block i (by omega) (fun hf => by have := hF i hf; omega)⟩
theorem Kept.then (h : Kept F a b) (k : Below a.heap.size b c) : Kept F a c := ⟨k.os.trans h.os, k.tape.trans h.tape, k.output.trans h.output, Nat.le_trans h.size k.size, fun i hi hn => (k.block i hi).trans (h.block i hi hn)⟩
theorem Kept.pre (k : Below a.heap.size a b) (h : Kept F b c) : Kept F a c := ⟨h.os.trans k.os, h.tape.trans k.tape, h.output.trans k.output, Nat.le_trans k.size h.size, fun i hi hn => (h.block i (Nat.lt_of_lt_of_le hi k.size) hn).trans (k.block i hi)⟩
theorem Kept.cell {p : Addr} (h : Kept F a b) (hp : p.block < a.heap.size) (hn : ¬ F p.block) : b.cell? p = a.cell? p := World.cell?_of_block (h.block _ hp hn)
end
structure Tb where
  R : Nat
  b : Nat → UInt8
  is : Nat → Bool
  st : List Nat
def rowF (S : Tb) (k : Nat) : Value := if k % 510 < 255 then u8v (S.b ((k % 510) * S.R + k / 510)) else .bool (S.is ((k % 510 - 255) * S.R + k / 510))
def foot (gt gr : Nat) (v : Value) (i : Nat) : Prop := i = gt ∨ i = gr ∨ v.ownBlock = some i
structure TbIn (w : World) (B gt gr : Nat) (v : Value) (S : Tb) : Prop where
  box : Blk w gt 233 #[.slice (some ⟨gr, 0, none⟩) S.R S.R, v]
  rows : Fm w gr 259 (S.R * 510) (rowF S)
  st : w.ownsRow B 3 1 v S.st.length (ints S.st)
  ne : gt ≠ gr
  nt : v.ownBlock ≠ some gt
  nr : v.ownBlock ≠ some gr
  bt : B ≤ gt
  br : B ≤ gr
theorem TbIn.kept {w w' : World} {B gt gr : Nat} {v : Value} {S : Tb} {F : Nat → Prop} (h : TbIn w B gt gr v S) (k : Kept F w w') (hF : ∀ i, foot gt gr v i → ¬ F i) : TbIn w' B gt gr v S := by
  refine ⟨(k.block gt h.box.lt (hF _ (Or.inl rfl))).trans h.box, h.rows.same (k.block gr h.rows.lt (hF _ (Or.inr (Or.inl rfl)))), ?_, h.ne, h.nt, h.nr, h.bt, h.br⟩
  refine ⟨h.st.1, ?_⟩
  rcases h.st.2 with h1 | ⟨g, cap, cur, e, hb, hg, h2⟩
  · exact Or.inl h1
  · refine Or.inr ⟨g, cap, cur, e, hb, ?_, h2⟩
    rw [k.block g (Array.getElem?_eq_some_iff.1 hg).1 (hF g (Or.inr (Or.inr (by rw [e]; rfl))))]
    exact hg
theorem TbIn.below {w w' : World} {B gt gr : Nat} {v : Value} {S : Tb} (h : TbIn w B gt gr v S) (k : Below w.heap.size w w') : TbIn w' B gt gr v S :=
  h.kept (kept_below (fun _ => False) k) (fun _ _ h => h)
def Tb.set (S : Tb) (p : Nat) (c : UInt8) : Tb := { S with b := fun i => if i = p then c else S.b i, is := fun i => if i = p then true else S.is i }
set_option maxRecDepth 100000
end Go.Proofs.YtbiiehobfnbloaaGreatDoor.TbM
namespace Go.Proofs.YtbiiehobfnbloaaGreatDoor.TbN
open Go Go.RowKit Q Mem Rg Ap ApG St BiW Tab TlS Fl TbM
set_option maxRecDepth 100000
theorem Fm.drew {w : World} {g n : Nat} {t : TypeId} {f : Nat → Value} (h : Fm w g t n f) : Fm w.drew g t n f := h
end Go.Proofs.YtbiiehobfnbloaaGreatDoor.TbN
namespace Go.Proofs.YtbiiehobfnbloaaGreatDoor.TbO
open Go Go.RowKit Q Mem Rg Ap ApG St BiW Tab TlS Fl TbM TbN
set_option maxRecDepth 100000
def zrow : Value := .agg (Array.replicate 255 (.int .u8 0) ++ Array.replicate 255 (.bool false))
theorem zrow_at (k : Nat) (hk : k < 510) : (Array.replicate 255 (Value.int .u8 0) ++ Array.replicate 255 (Value.bool false))[k]! = if k < 255 then .int .u8 0 else .bool false := by
  by_cases h : k < 255
  · rw [if_pos h, getElem!_pos _ _ (by simp; omega), Array.getElem_append_left (by simpa using h), Array.getElem_replicate]
  · rw [if_neg h, getElem!_pos _ _ (by simp; omega), Array.getElem_append_right (by simpa using h), Array.getElem_replicate]
def emptyT (R : Nat) : Tb := ⟨R, fun _ => 0, fun _ => false, []⟩
theorem rows_info : (Tryz.prog.info? 259).map (fun i => (i.zero, i.size, i.bytes)) = some (some zrow, 510, 510) := by kernel_rfl
theorem mk_rows (R : Nat) (hR : R ≤ 1024) (V : World) : ∃ C : Array Value, (Instr.makeSlice 231 (.int .i64 (R : Int)) (.int .i64 (R : Int))).run Tryz.prog V = .ok (.slice (some ⟨V.heap.size, 0, none⟩) R R) (V.alloc (.cells C 259)) ∧ Fm (V.alloc (.cells C 259)) V.heap.size 259 (R * 510) (rowF (emptyT R)) := by
  cases hi : Tryz.prog.info? 259 with
  | none => have h := rows_info; rw [hi] at h; cases h
  | some i =>
    have h := rows_info
    rw [hi] at h
    simp only [Option.map_some, Option.some.injEq, Prod.mk.injEq] at h
    obtain ⟨h1, h2, h3⟩ := h
    have hr := run_make (P := Tryz.prog) V 231 259 i zrow Tryz.underlying231 hi h1 .i64 .i64 R R (by omega) (Int.le_refl _) (by rw [h3]; omega) (by omega)
    rw [Int.toNat_natCast, h2] at hr
    have hz : zrow.cells = Array.replicate 255 (Value.int .u8 0) ++ Array.replicate 255 (Value.bool false) := rfl
    rw [hz] at hr
    obtain ⟨Z, hZ⟩ : ∃ Z, Array.replicate 255 (Value.int .u8 0) ++ Array.replicate 255 (Value.bool false) = Z := ⟨_, rfl⟩
    have hzs : Z.size = 510 := by rw [← hZ]; simp
    have hza := zrow_at
    rw [hZ] at hr hza
    clear hZ hz h1 hi
    refine ⟨madeCells Z (R * 510), hr, madeCells Z (R * 510), heap_alloc_new V _, size_madeCells _ _, fun k hk => ?_⟩
    unfold madeCells
    rw [Array.getElem?_map, Array.getElem?_range]
    simp only [hk, if_true, Option.map_some]
    congr 1
    have hm : k % 510 < 510 := Nat.mod_lt _ (by decide)
    rw [hzs, hza _ hm]
    rfl
theorem new_any (x : Int) (w : World) (hT : Tab 2 w) : Calls Tryz.prog 64 #[.int .i64 x] w fun e w' => Below w.heap.size w w' ∧
    if isSz x then ∃ (R gt gr : Nat), x = (R : Int) ∧ R ≤ 1024 ∧ 0 < R ∧ e = .returned (.tuple #[.pointer (some ⟨gt, 0, none⟩), .int .i64 0]) ∧ TbIn w' w.heap.size gt gr (.slice none 0 0) (emptyT R) else e = .returned (.tuple #[.pointer none, .int .i64 23]) := by
  have kc := contains_any 2 x w hT
  obtain ⟨Z, hZ⟩ : ∃ Z, isSz x = Z := ⟨_, rfl⟩
  rw [hZ] at kc ⊢
  cases Z with
  | false =>
    go_enter Tryz.func64, Tryz.ntmps64
    gw0
    (with_reducible refine (kc).mono ?_); rintro e1 W1 ⟨rfl, rfl⟩
    gw0
    go_ret2
    exact ⟨Below.refl _ _, rfl⟩
  | true =>
    obtain ⟨R, rfl⟩ : ∃ R : Nat, x = (R : Int) := ⟨x.toNat, by rcases isSz_true hZ with h | h | h | h <;> omega⟩
    have hR : R ≤ 1024 ∧ 0 < R := by rcases isSz_true hZ with h | h | h | h <;> omega
    obtain ⟨C, hmk, hF⟩ := mk_rows R hR.1 w
    have HF := Lib.hid hF
    have HR := Lib.hid hR
    clear hF hZ hT hR
    go_enter Tryz.func64, Tryz.ntmps64
    gw0
    (with_reducible refine (kc).mono ?_); rintro e1 W1 ⟨rfl, rfl⟩
    gw0
    go_ret2
    have hb : Below w.heap.size w (w.alloc (.cells C 259)) := (Below.refl _ _).alloc (Nat.le_refl _) _
    refine ⟨hb.alloc (by simp) _, R, rfl, HR.out.1, HR.out.2, w.heap.size + 1, rfl, w.heap.size, ⟨Blk.newAt _ _ _ (show w.heap.size + 1 = (w.alloc (.cells C 259)).heap.size by simp), HF.out.alloc _, World.ownsRow_nil _ _ _ _, by omega, fun h => (by cases h), fun h => (by cases h), by omega, Nat.le_refl _⟩⟩
end Go.Proofs.YtbiiehobfnbloaaGreatDoor.TbO
namespace Go.Proofs.YtbiiehobfnbloaaGreatDoor.TbP
open Go Go.RowKit Q Mem Rg Ap ApG St BiW Tab TlS Fl TbM TbN TbO SeEq
set_option maxRecDepth 100000
def sb (s : ByteArray) (i : Nat) : UInt8 := s.data[i]?.getD 0
def laid (S : Tb) (p : Nat) (s : ByteArray) (k : Nat) : Tb := { S with b := fun i => if p ≤ i ∧ i < p + k then sb s (i - p) else S.b i, is := fun i => if p ≤ i ∧ i < p + k then true else S.is i }
def below (L : List Nat) (p : Nat) : Nat := L.countP fun z => decide (z < p)
def far (w : World) (v v' : Value) : Prop := v'.ownBlock = v.ownBlock ∨ ∃ j, v'.ownBlock = some j ∧ w.heap.size ≤ j
end Go.Proofs.YtbiiehobfnbloaaGreatDoor.TbP
namespace Go.Proofs.YtbiiehobfnbloaaGreatDoor.TbQ
open Go Go.RowKit Q Mem Rg Ap ApG St BiW Tab TlS Fl TbM TbN TbO TbP SeEq
set_option maxRecDepth 100000
def atI (S : Tb) (p : Int) : Bool := if 0 ≤ p ∧ p < (191 * S.R : Nat) then S.is p.toNat else false
end Go.Proofs.YtbiiehobfnbloaaGreatDoor.TbQ
namespace Go.Proofs.YtbiiehobfnbloaaGreatDoor.TbR
open Go Go.RowKit Q Mem Rg Ap ApG St BiW Tab TlS Fl TbM TbN TbO TbP SeEq
set_option maxRecDepth 100000
end Go.Proofs.YtbiiehobfnbloaaGreatDoor.TbR
namespace Go.Proofs.YtbiiehobfnbloaaGreatDoor.TbS
open Go Go.RowKit Q Mem Rg Ap ApG St BiW Tab TlS TbM TbN TbO TbP
set_option maxRecDepth 100000
end Go.Proofs.YtbiiehobfnbloaaGreatDoor.TbS
namespace Go.Proofs.YtbiiehobfnbloaaGreatDoor.TbSc
open Go TbS Go.RowKit Q Mem Rg Ap ApG St BiW Tab TlS TbM TbN TbO TbP
set_option maxRecDepth 100000
end Go.Proofs.YtbiiehobfnbloaaGreatDoor.TbSc
namespace Go.Proofs.YtbiiehobfnbloaaGreatDoor.TbT
open Go Go.RowKit Q Mem Rg Ap ApG St BiW BiG CrB DgB DgC TlS TbM TbN TbO TbP TbQ
set_option maxRecDepth 100000
def kn (S : Tb) : Nat → Nat → Nat
  | _, 0 => 0
  | p, f + 1 => if atI S p then kn S (p + 1) f + 1 else 0
def bytesL (S : Tb) (p k : Nat) : List UInt8 := (List.range k).map fun i => S.b (p + i)
def knS (S : Tb) (p : Nat) : ByteArray := str (bytesL S p (kn S p 4080))
def fsN (s : ByteArray) : Nat := if pkE s = 0 ∧ (pkH s).length ≤ s.size ∧ dgE (s.extract 0 (pkH s).length.toNat) = 0 then (pkH s).length.toNat else 0
end Go.Proofs.YtbiiehobfnbloaaGreatDoor.TbT
namespace Go.Proofs.YtbiiehobfnbloaaGreatDoor.TbU
open Go Go.RowKit Q Mem Rg Ap ApG St BiW BiG CrB Scp DgB DgC TlS TbM TbN TbO TbP TbQ TbT
set_option maxRecDepth 100000
def nxt (S : Tb) (p : Nat) : Option Nat := (S.st.drop (below S.st (p + 1))).head?
def dN (S : Tb) (p : Nat) : Nat := fsN (knS S p)
def outF (S : Tb) : Nat → Nat → List (Nat × Nat)
  | 0, _ => []
  | f + 1, p => if 0 < dN S p then (p, dN S p) :: outF S f (p + dN S p) else match nxt S p with
    | some q => outF S f q
    | none => []
def outAt (S : Tb) (p : Nat) : List (Nat × Nat) := outF S (191 * S.R + 1 - p) p
def enPl (S : Tb) (x : Nat × Nat) : List Value := [.int .i64 (x.1 : Int), .string (str (bytesL S x.1 x.2))]
def tm (a : Act) (k : Nat) : Value := a.tmps.getD k undef
def frO (gt : Nat) (out : Value) (at_ : Nat) (u : Nat → Value) : Act := { tmps := #[.pointer (some ⟨gt, 0, none⟩), u 1, .slice none 0 0, out, .int .i64 (at_ : Int), u 5, u 6, u 7, u 8, u 9, u 10, u 11, u 12, u 13, u 14, u 15, u 16, u 17, u 18, u 19, u 20, u 21, u 22, u 23, u 24, u 25, u 26, u 27, u 28, u 29, u 30, u 31, u 32, u 33, u 34, u 35, u 36, u 37, u 38, u 39, u 40, u 41, u 42, u 43, u 44, u 45, u 46, u 47, u 48, u 49, u 50, u 51, u 52, u 53], defers := [] }
def J0 (w : World) (S : Tb) (gt : Nat) (a : Act) (W : World) : Prop :=
  ∃ (u : Nat → Value) (out : Value) (p : Nat) (A : List (Nat × Nat)), a = frO gt out p u ∧ Below w.heap.size w W ∧ W.ownsRow w.heap.size 58 2 out A.length (flat (enPl S) A) ∧ A ++ outAt S p = outAt S 0 ∧ p ≤ 191 * S.R ∧ A.length ≤ p
theorem j0_intro {w W : World} {S : Tb} {gt p : Nat} {a : Act} {out : Value} {A : List (Nat × Nat)} (h : a = frO gt out p (tm a)) (hb : Below w.heap.size w W) (ho : W.ownsRow w.heap.size 58 2 out A.length (flat (enPl S) A)) (h1 : A ++ outAt S p = outAt S 0) (h2 : p ≤ 191 * S.R) (h3 : A.length ≤ p) : J0 w S gt a W := ⟨tm a, out, p, A, h, hb, ho, h1, h2, h3⟩
def num (v : Value) : Nat := match v with | .int _ i => i.toNat | _ => 0
end Go.Proofs.YtbiiehobfnbloaaGreatDoor.TbU
