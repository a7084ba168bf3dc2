/- A table in memory: rows by a function of the place. -/
import Derived.Test.YtlocgilgdnhnlaaGreatDoorTlS
import Derived.Test.YtlocgilgdnhnlaaGreatDoorApC
import Derived.Test.YtlocgilgdnhnlaaGreatDoorTab
import Derived.Test.YtlocgilgdnhnlaaGreatDoorPkD
namespace Go.Proofs.YtlocgilgdnhnlaaGreatDoor.TbM
open Go Go.RowKit Go.Proofs.YtlocgilgdnhnlaaGreatDoor.Q Go.Proofs.YtlocgilgdnhnlaaGreatDoor.Mem Go.Proofs.YtlocgilgdnhnlaaGreatDoor.Rg Go.Proofs.YtlocgilgdnhnlaaGreatDoor.Ap Go.Proofs.YtlocgilgdnhnlaaGreatDoor.ApG Go.Proofs.YtlocgilgdnhnlaaGreatDoor.St Go.Proofs.YtlocgilgdnhnlaaGreatDoor.BiW Go.Proofs.YtlocgilgdnhnlaaGreatDoor.Tab Go.Proofs.YtlocgilgdnhnlaaGreatDoor.TlS Go.Proofs.YtlocgilgdnhnlaaGreatDoor.Fl

set_option maxRecDepth 100000
/-- a block whose cells are given by a function -/
def Fm (w : World) (g : Nat) (t : TypeId) (n : Nat) (f : Nat → Value) : Prop := ∃ cs, w.heap[g]? = some (.cells cs t (0, 0)) ∧ cs.size = n ∧ ∀ i, i < n → cs[i]? = some (f i)
section
variable {w w' : World} {g n : Nat} {t : TypeId} {f f' : Nat → Value}
theorem Fm.lt (h : Fm w g t n f) : g < w.heap.size := by obtain ⟨cs, h1, _⟩ := h; exact (Array.getElem?_eq_some_iff.1 h1).1
theorem Fm.cell (h : Fm w g t n f) (i : Nat) (hi : i < n) : w.cell? ⟨g, i, none⟩ = some (f i) := by
  obtain ⟨cs, h1, _, h3⟩ := h
  rw [cell_of_row w g i cs _ _ h1]; exact h3 i hi
theorem Fm.frozen (h : Fm w g t n f) (i : Nat) : w.frozen? ⟨g, i, none⟩ = false := by
  obtain ⟨cs, h1, _⟩ := h
  simp [World.frozen?, h1]
theorem Fm.same (h : Fm w g t n f) (hb : w'.heap[g]? = w.heap[g]?) : Fm w' g t n f := by obtain ⟨cs, h1, h2⟩ := h; exact ⟨cs, hb.trans h1, h2⟩
theorem Fm.below {B : Nat} (h : Fm w g t n f) (hb : Below B w w') (hg : g < B) : Fm w' g t n f := h.same (hb.block g hg)
theorem Fm.ext (h : Fm w g t n f) (p : Ext) : Fm (ext w p) g t n f := h.same (ext_block p h.lt)
theorem Fm.congr (h : Fm w g t n f) (he : ∀ i, i < n → f i = f' i) : Fm w g t n f' := by
  obtain ⟨cs, h1, h2, h3⟩ := h
  exact ⟨cs, h1, h2, fun i hi => by rw [← he i hi]; exact h3 i hi⟩
theorem Fm.put (h : Fm w g t n f) (i : Nat) (u : Value) : Fm (w.setCell ⟨g, i, none⟩ u) g t n (fun j => if j = i then u else f j) := by
  obtain ⟨cs, h1, h2, h3⟩ := h
  refine ⟨cs.setIfInBounds i u, ?_, by simp [h2], fun j hj => ?_⟩
  · simp [World.setCell, Array.getElem?_modify, h1]
  · by_cases e : j = i
    · subst e
      dsimp only
      rw [if_pos rfl, Array.getElem?_setIfInBounds_self_of_lt (by omega)]
    · dsimp only
      rw [if_neg e, Array.getElem?_setIfInBounds_ne (fun h => e h.symm)]
      exact h3 j hj
theorem Fm.far (h : Fm w g t n f) {p : Addr} (hp : g ≠ p.block) (u : Value) : Fm (w.setCell p u) g t n f := h.same (Below.heap_setCell w p u g hp)
theorem Fm.alloc (h : Fm w g t n f) (o : Obj) : Fm (w.alloc o) g t n f := h.same (Below.heap_alloc w o g h.lt)
end
/-- all but these blocks is as it was -/
structure Kept (F : Nat → Prop) (w w' : World) : Prop where
  os : w'.os = w.os
  tape : w'.tape = w.tape
  output : w'.output = w.output
  size : w.heap.size ≤ w'.heap.size
  block : ∀ i, i < w.heap.size → ¬ F i → w'.heap[i]? = w.heap[i]?
section
variable {a b c : World} {F G : Nat → Prop}
theorem Kept.refl (F : Nat → Prop) (a : World) : Kept F a a := ⟨rfl, rfl, rfl, Nat.le_refl _, fun _ _ _ => rfl⟩
theorem Kept.trans (h : Kept F a b) (k : Kept G b c) (hG : ∀ i, i < a.heap.size → G i → F i) : Kept F a c :=
  ⟨k.os.trans h.os, k.tape.trans h.tape, k.output.trans h.output, Nat.le_trans h.size k.size, fun i hi hF => (k.block i (Nat.lt_of_lt_of_le hi h.size) (fun hg => hF (hG i hi hg))).trans (h.block i hi hF)⟩
theorem Kept.mono (h : Kept G a b) (hG : ∀ i, i < a.heap.size → G i → F i) : Kept F a b := ⟨h.os, h.tape, h.output, h.size, fun i hi hF => h.block i hi (fun hg => hF (hG i hi hg))⟩
theorem kept_below (F : Nat → Prop) (h : Below a.heap.size a b) : Kept F a b := ⟨h.os, h.tape, h.output, h.size, fun i hi _ => h.block i hi⟩
theorem kept_grown {row : Option Nat} (h : a.grownBy b row) (hF : ∀ r, row = some r → F r) : Kept F a b := ⟨h.os, h.tape, h.output, h.size, fun i hi hn => h.block i hi (fun e => hn (hF i e.symm))⟩
theorem kept_set {p : Addr} {u : Value} (hF : F p.block) : Kept F a (a.setCell p u) := ⟨rfl, rfl, rfl, by simp [World.setCell], fun i _ hn => Below.heap_setCell a p u i (fun e => hn (e ▸ hF))⟩
theorem Kept.be {B : Nat} (h : Kept F a b) (hB : B ≤ a.heap.size) (hF : ∀ i, F i → B ≤ i) : Below B a b := ⟨h.os, h.tape, h.output, h.size, fun i hi => h.block i (by omega) (fun hf => by have := hF i hf; omega)⟩
theorem Kept.then (h : Kept F a b) (k : Below a.heap.size b c) : Kept F a c := ⟨k.os.trans h.os, k.tape.trans h.tape, k.output.trans h.output, Nat.le_trans h.size k.size, fun i hi hn => (k.block i hi).trans (h.block i hi hn)⟩
theorem Kept.pre (k : Below a.heap.size a b) (h : Kept F b c) : Kept F a c := ⟨h.os.trans k.os, h.tape.trans k.tape, h.output.trans k.output, Nat.le_trans k.size h.size, fun i hi hn => (h.block i (Nat.lt_of_lt_of_le hi k.size) hn).trans (k.block i hi)⟩
theorem Kept.cell {p : Addr} (h : Kept F a b) (hp : p.block < a.heap.size) (hn : ¬ F p.block) : b.cell? p = a.cell? p := World.cell?_of_block (h.block _ hp hn)
end
/-- what is known: the bytes, and which, by the place (columns of R bytes); the starts, rising -/
structure Tb where
  R : Nat
  b : Nat → UInt8
  is : Nat → Bool
  st : List Nat
/-- a row's cells -/
def rowF (S : Tb) (k : Nat) : Value := if k % 510 < 255 then u8v (S.b ((k % 510) * S.R + k / 510)) else .bool (S.is ((k % 510 - 255) * S.R + k / 510))
theorem rowF_b (S : Tb) (r c : Nat) (hc : c < 255) : rowF S (r * 510 + c) = u8v (S.b (c * S.R + r)) := by
  unfold rowF
  rw [show (r * 510 + c) % 510 = c by omega, show (r * 510 + c) / 510 = r by omega, if_pos hc]
theorem rowF_i (S : Tb) (r c : Nat) (hc : c < 255) : rowF S (r * 510 + 255 + c) = .bool (S.is (c * S.R + r)) := by
  unfold rowF
  rw [show (r * 510 + 255 + c) % 510 = 255 + c by omega, show (r * 510 + 255 + c) / 510 = r by omega, if_neg (by omega), show 255 + c - 255 = c by omega]
/-- the blocks -/
def foot (gt gr : Nat) (v : Value) (i : Nat) : Prop := i = gt ∨ i = gr ∨ v.ownBlock = some i
structure TbIn (w : World) (B gt gr : Nat) (v : Value) (S : Tb) : Prop where
  box : Blk w gt 60 #[.slice (some ⟨gr, 0, none⟩) S.R S.R, v]
  rows : Fm w gr 64 (S.R * 510) (rowF S)
  st : w.ownsRow B 3 1 v S.st.length (ints S.st)
  ne : gt ≠ gr
  nt : v.ownBlock ≠ some gt
  nr : v.ownBlock ≠ some gr
  bt : B ≤ gt
  br : B ≤ gr
theorem TbIn.ge {w : World} {B gt gr : Nat} {v : Value} {S : Tb} (h : TbIn w B gt gr v S) : ∀ i, foot gt gr v i → B ≤ i ∧ i < w.heap.size := by
  rintro i (rfl | rfl | e)
  · exact ⟨h.bt, h.box.lt⟩
  · exact ⟨h.br, h.rows.lt⟩
  · exact h.st.lt i e
theorem TbIn.kept {w w' : World} {B gt gr : Nat} {v : Value} {S : Tb} {F : Nat → Prop} (h : TbIn w B gt gr v S) (k : Kept F w w') (hF : ∀ i, foot gt gr v i → ¬ F i) : TbIn w' B gt gr v S := by
  refine ⟨(k.block gt h.box.lt (hF _ (Or.inl rfl))).trans h.box, h.rows.same (k.block gr h.rows.lt (hF _ (Or.inr (Or.inl rfl)))), ?_, h.ne, h.nt, h.nr, h.bt, h.br⟩
  refine ⟨h.st.1, ?_⟩
  rcases h.st.2 with h1 | ⟨g, cap, cur, e, hb, hg, h2⟩
  · exact Or.inl h1
  · refine Or.inr ⟨g, cap, cur, e, hb, ?_, h2⟩
    rw [k.block g (Array.getElem?_eq_some_iff.1 hg).1 (hF g (Or.inr (Or.inr (by rw [e]; rfl))))]
    exact hg
theorem TbIn.below {w w' : World} {B gt gr : Nat} {v : Value} {S : Tb} (h : TbIn w B gt gr v S) (k : Below w.heap.size w w') : TbIn w' B gt gr v S :=
  h.kept (kept_below (fun _ => False) k) (fun _ _ h => h)
/-- a place is known -/
def Tb.set (S : Tb) (p : Nat) (c : UInt8) : Tb := { S with b := fun i => if i = p then c else S.b i, is := fun i => if i = p then true else S.is i }
def Tb.mark (S : Tb) (p : Nat) : Tb := { S with is := fun i => if i = p then true else S.is i }
theorem div_lt {R p : Nat} (h : p < 255 * R) : p % R < R ∧ p / R < 255 ∧ p / R * R + p % R = p := by
  have hR : 0 < R := by omega
  refine ⟨Nat.mod_lt _ hR, (Nat.div_lt_iff_lt_mul hR).2 h, ?_⟩
  rw [Nat.mul_comm]; exact Nat.div_add_mod p R
theorem split_eq {R r r' c c' : Nat} (hr : r < R) (hr' : r' < R) (h : c * R + r = c' * R + r') : c = c' ∧ r = r' := by
  have h1 : (c * R + r) / R = c := by rw [Nat.mul_comm, Nat.mul_add_div (by omega), Nat.div_eq_of_lt hr]; omega
  have h2 : (c' * R + r') / R = c' := by rw [Nat.mul_comm, Nat.mul_add_div (by omega), Nat.div_eq_of_lt hr']; omega
  rw [h] at h1
  have hc : c = c' := h1.symm.trans h2
  subst hc
  exact ⟨rfl, by omega⟩
/-- the cells behind 'set' -/
theorem rowF_set (S : Tb) (r c : Nat) (x : UInt8) (hr : r < S.R) (hc : c < 255) (k : Nat) (hk : k < S.R * 510) :
    (if k = r * 510 + 255 + c then Value.bool true else if k = r * 510 + c then u8v x else rowF S k) = rowF (S.set (c * S.R + r) x) k := by
  have hq : k / 510 < S.R := (Nat.div_lt_iff_lt_mul (by decide)).2 hk
  have hm : k % 510 < 510 := Nat.mod_lt _ (by decide)
  unfold rowF Tb.set
  dsimp only
  by_cases h1 : k % 510 < 255
  · rw [if_neg (by omega), if_pos h1, if_pos h1]
    by_cases h2 : k = r * 510 + c
    · rw [if_pos h2, if_pos]
      rw [show k % 510 = c by omega, show k / 510 = r by omega]
    · rw [if_neg h2, if_neg]
      intro h
      obtain ⟨h3, h4⟩ := split_eq hq hr h
      omega
  · rw [if_neg h1, if_neg h1]
    by_cases h2 : k = r * 510 + 255 + c
    · rw [if_pos h2, if_pos]
      rw [show k % 510 - 255 = c by omega, show k / 510 = r by omega]
    · rw [if_neg h2, if_neg (by omega), if_neg]
      intro h
      obtain ⟨h3, h4⟩ := split_eq hq hr h
      omega
theorem rowF_mark (S : Tb) (r c : Nat) (hr : r < S.R) (hc : c < 255) (k : Nat) (hk : k < S.R * 510) :
    (if k = r * 510 + 255 + c then Value.bool true else rowF S k) = rowF (S.mark (c * S.R + r)) k := by
  have hq : k / 510 < S.R := (Nat.div_lt_iff_lt_mul (by decide)).2 hk
  have hm : k % 510 < 510 := Nat.mod_lt _ (by decide)
  unfold rowF Tb.mark
  dsimp only
  by_cases h1 : k % 510 < 255
  · rw [if_neg (by omega), if_pos h1, if_pos h1]
  · rw [if_neg h1, if_neg h1]
    by_cases h2 : k = r * 510 + 255 + c
    · rw [if_pos h2, if_pos]
      rw [show k % 510 - 255 = c by omega, show k / 510 = r by omega]
    · rw [if_neg h2, if_neg]
      intro h
      obtain ⟨h3, h4⟩ := split_eq hq hr h
      omega
set_option maxRecDepth 100000
theorem data_any (w : World) (B gt gr : Nat) (v : Value) (S : Tb) (h : TbIn w B gt gr v S) (hR : S.R ≤ 1024) : Calls Tryz.prog 33 #[.pointer (some ⟨gt, 0, none⟩)] w fun e w' => e = .returned (.int .i64 (191 * S.R : Nat)) ∧ w = w' := by
  have c0 := Blk.cell h.box 0 (v := .slice (some ⟨gr, 0, none⟩) S.R S.R) rfl
  have HX := Lib.hid (show ((191 * S.R : Nat) : Int) = (S.R : Int) * 191 from by omega)
  obtain ⟨R, hRR⟩ : ∃ R, S.R = R := ⟨_, rfl⟩
  rw [hRR] at c0 HX hR ⊢
  have k0 : (0 : Int) ≤ (R : Int) := Int.natCast_nonneg _
  have k1 : (R : Int) ≤ 1024 := by omega
  clear h hRR
  go_enter Tryz.func33, Tryz.ntmps33
  go_wp2_with fail
  go_ret
  exact ⟨by rw [HX.out]; rfl, rfl⟩
end Go.Proofs.YtlocgilgdnhnlaaGreatDoor.TbM
