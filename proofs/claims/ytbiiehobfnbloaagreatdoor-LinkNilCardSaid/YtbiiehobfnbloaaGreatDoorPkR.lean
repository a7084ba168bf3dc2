/- Texts that belong together: RtM, RtN, RtO, RtP, RtQ, LaA, LaB, LaE. -/
import Derived.Test.YtbiiehobfnbloaaGreatDoorPkV
import Derived.Test.YtbiiehobfnbloaaGreatDoorPkD
/- The document's table in memory; New, lay, Put, Parity, Pad. -/
namespace Go.Proofs.YtbiiehobfnbloaaGreatDoor.RtM
open Go Go.RowKit Go.Proofs.YtbiiehobfnbloaaGreatDoor.Q Go.Proofs.YtbiiehobfnbloaaGreatDoor.Mem Go.Proofs.YtbiiehobfnbloaaGreatDoor.Rg Go.Proofs.YtbiiehobfnbloaaGreatDoor.Ap Go.Proofs.YtbiiehobfnbloaaGreatDoor.ApG Go.Proofs.YtbiiehobfnbloaaGreatDoor.St Go.Proofs.YtbiiehobfnbloaaGreatDoor.BiW Go.Proofs.YtbiiehobfnbloaaGreatDoor.TlS Go.Proofs.YtbiiehobfnbloaaGreatDoor.TbM Go.Proofs.YtbiiehobfnbloaaGreatDoor.TbN Go.Proofs.YtbiiehobfnbloaaGreatDoor.TbO Go.Proofs.YtbiiehobfnbloaaGreatDoor.TbP Go.Proofs.YtbiiehobfnbloaaGreatDoor.TbR

set_option maxRecDepth 100000
def xbox (S : Tb) (g1 g2 g3 : Nat) : Array Value := #[.int .i64 (S.R : Int), .slice (some ⟨g1, 0, none⟩) (255 * S.R) (255 * S.R), .slice (some ⟨g2, 0, none⟩) (255 * S.R) (255 * S.R), .slice (some ⟨g3, 0, none⟩) (191 * S.R) (191 * S.R)]
def feet (gx g1 g2 g3 i : Nat) : Prop := i = gx ∨ i = g1 ∨ i = g2 ∨ i = g3
section
variable {w w' : World} {B gx g1 g2 g3 : Nat} {S : Tb}
end
theorem mk_one {P : Program} (t e : TypeId) (z : Value) (bytes : Nat) (ht : P.underlying t = some (.slice e)) (hi : (P.info? e).map (fun i => (i.zero, i.size, i.bytes)) = some (some z, 1, bytes)) (hz : z.cells = #[z]) (n : Nat) (hn : bytes * n ≤ 281474976710656) (hn2 : n ≤ 1099511627776) (V : World) :
    (Instr.makeSlice t (.int .i64 (n : Int)) (.int .i64 (n : Int))).run P V = .ok (.slice (some ⟨V.heap.size, 0, none⟩) n n) (V.alloc (.cells (madeCells #[z] n) e)) := by
  cases h : P.info? e with
  | none => rw [h] at hi; cases hi
  | some i =>
    rw [h] at hi
    simp only [Option.map_some, Option.some.injEq, Prod.mk.injEq] at hi
    obtain ⟨h1, h2, h3⟩ := hi
    have hr := run_make (P := P) V t e i z ht h h1 .i64 .i64 n n (by omega) (Int.le_refl _) (by rw [h3]; omega) (by omega)
    rw [Int.toNat_natCast, h2, Nat.mul_one, hz] at hr
    exact hr
theorem fm_made (V : World) (g n : Nat) (e : TypeId) (z : Value) (h : Blk V g e (madeCells #[z] n)) : Fm V g e n (fun _ => z) :=
  ⟨_, h, size_madeCells _ _, fun i hi => by
    unfold madeCells
    rw [Array.getElem?_map, Array.getElem?_range]
    simp [hi, Nat.mod_one]⟩
end Go.Proofs.YtbiiehobfnbloaaGreatDoor.RtM

/- The document's table: lay, Put, Parity, Pad. -/
namespace Go.Proofs.YtbiiehobfnbloaaGreatDoor.RtN
open Go Go.RowKit Go.Proofs.YtbiiehobfnbloaaGreatDoor.Q Go.Proofs.YtbiiehobfnbloaaGreatDoor.Mem Go.Proofs.YtbiiehobfnbloaaGreatDoor.Rg Go.Proofs.YtbiiehobfnbloaaGreatDoor.Ap Go.Proofs.YtbiiehobfnbloaaGreatDoor.ApG Go.Proofs.YtbiiehobfnbloaaGreatDoor.St Go.Proofs.YtbiiehobfnbloaaGreatDoor.BiW Go.Proofs.YtbiiehobfnbloaaGreatDoor.TlS Go.Proofs.YtbiiehobfnbloaaGreatDoor.TbM Go.Proofs.YtbiiehobfnbloaaGreatDoor.TbN Go.Proofs.YtbiiehobfnbloaaGreatDoor.TbO Go.Proofs.YtbiiehobfnbloaaGreatDoor.TbP Go.Proofs.YtbiiehobfnbloaaGreatDoor.TbR Go.Proofs.YtbiiehobfnbloaaGreatDoor.RtM

set_option maxRecDepth 100000
variable {w w' : World} {B gx g1 g2 g3 : Nat} {S : Tb}
theorem kept1 (h : Kept (feet gx g1 g2 g3) w w') {p : Nat} {u : Value} : Kept (feet gx g1 g2 g3) w (w'.setCell ⟨g1, p, none⟩ u) := h.trans (kept_set (F := feet gx g1 g2 g3) (Or.inr (Or.inl rfl))) (fun _ _ h => h)
theorem kept2 (h : Kept (feet gx g1 g2 g3) w w') {p : Nat} {u : Value} : Kept (feet gx g1 g2 g3) w (w'.setCell ⟨g2, p, none⟩ u) := h.trans (kept_set (F := feet gx g1 g2 g3) (Or.inr (Or.inr (Or.inl rfl)))) (fun _ _ h => h)
theorem kept3 (h : Kept (feet gx g1 g2 g3) w w') {p : Nat} {u : Value} : Kept (feet gx g1 g2 g3) w (w'.setCell ⟨g3, p, none⟩ u) := h.trans (kept_set (F := feet gx g1 g2 g3) (Or.inr (Or.inr (Or.inr rfl)))) (fun _ _ h => h)
theorem set_two (S : Tb) (p : Nat) (c : UInt8) : ({ S with b := fun i => if i = p then c else S.b i } : Tb).mark p = S.set p c := rfl
theorem ins_mem (L : List Nat) (i x p : Nat) : p ∈ ins L i x ↔ p = x ∨ p ∈ L := by
  unfold ins
  rw [List.mem_append, List.mem_cons]
  constructor
  · rintro (h | h | h)
    · exact Or.inr (List.mem_of_mem_take h)
    · exact Or.inl h
    · exact Or.inr (List.mem_of_mem_drop h)
  · rintro (h | h)
    · exact Or.inr (Or.inl h)
    · have : p ∈ L.take i ++ L.drop i := by rw [List.take_append_drop]; exact h
      rcases List.mem_append.1 this with h | h
      · exact Or.inl h
      · exact Or.inr (Or.inr h)
end Go.Proofs.YtbiiehobfnbloaaGreatDoor.RtN

/- The document's table: Parity, Pad, Lost. -/
namespace Go.Proofs.YtbiiehobfnbloaaGreatDoor.RtO
open Go Go.RowKit Go.Proofs.YtbiiehobfnbloaaGreatDoor.Q Go.Proofs.YtbiiehobfnbloaaGreatDoor.Mem Go.Proofs.YtbiiehobfnbloaaGreatDoor.Rg Go.Proofs.YtbiiehobfnbloaaGreatDoor.Ap Go.Proofs.YtbiiehobfnbloaaGreatDoor.ApG Go.Proofs.YtbiiehobfnbloaaGreatDoor.St Go.Proofs.YtbiiehobfnbloaaGreatDoor.BiW Go.Proofs.YtbiiehobfnbloaaGreatDoor.TlS Go.Proofs.YtbiiehobfnbloaaGreatDoor.TbM Go.Proofs.YtbiiehobfnbloaaGreatDoor.TbN Go.Proofs.YtbiiehobfnbloaaGreatDoor.TbO Go.Proofs.YtbiiehobfnbloaaGreatDoor.TbP Go.Proofs.YtbiiehobfnbloaaGreatDoor.TbQ Go.Proofs.YtbiiehobfnbloaaGreatDoor.TbR Go.Proofs.YtbiiehobfnbloaaGreatDoor.RtM Go.Proofs.YtbiiehobfnbloaaGreatDoor.RtN

set_option maxRecDepth 100000
/-- places from a to i are known -/
def padJ (S : Tb) (a i : Nat) : Tb := { S with is := fun p => if a ≤ p ∧ p < i then true else S.is p }
theorem padJ_zero (S : Tb) (a : Nat) : padJ S a a = S := by
  unfold padJ
  have h : ∀ p, ¬ (a ≤ p ∧ p < a) := fun p => by omega
  simp only [h, if_false]
theorem padJ_mark (S : Tb) (a i : Nat) (h : a ≤ i) : (padJ S a i).mark i = padJ S a (i + 1) := by
  unfold padJ Tb.mark
  dsimp only
  congr 1
  funext p
  by_cases h1 : p = i
  · subst h1; rw [if_pos rfl, if_pos (by omega)]
  · rw [if_neg h1]
    by_cases h2 : a ≤ p ∧ p < i
    · rw [if_pos h2, if_pos (by omega)]
    · rw [if_neg h2, if_neg (by omega)]
end Go.Proofs.YtbiiehobfnbloaaGreatDoor.RtO

/- The document's table: first. -/
namespace Go.Proofs.YtbiiehobfnbloaaGreatDoor.RtP
open Go Go.RowKit Go.Proofs.YtbiiehobfnbloaaGreatDoor.Q Go.Proofs.YtbiiehobfnbloaaGreatDoor.Mem Go.Proofs.YtbiiehobfnbloaaGreatDoor.Rg Go.Proofs.YtbiiehobfnbloaaGreatDoor.Ap Go.Proofs.YtbiiehobfnbloaaGreatDoor.ApG Go.Proofs.YtbiiehobfnbloaaGreatDoor.St Go.Proofs.YtbiiehobfnbloaaGreatDoor.BiW Go.Proofs.YtbiiehobfnbloaaGreatDoor.DgB Go.Proofs.YtbiiehobfnbloaaGreatDoor.DgC Go.Proofs.YtbiiehobfnbloaaGreatDoor.DgF Go.Proofs.YtbiiehobfnbloaaGreatDoor.DgG Go.Proofs.YtbiiehobfnbloaaGreatDoor.TlS Go.Proofs.YtbiiehobfnbloaaGreatDoor.TbM Go.Proofs.YtbiiehobfnbloaaGreatDoor.TbN Go.Proofs.YtbiiehobfnbloaaGreatDoor.TbO Go.Proofs.YtbiiehobfnbloaaGreatDoor.TbP Go.Proofs.YtbiiehobfnbloaaGreatDoor.TbQ Go.Proofs.YtbiiehobfnbloaaGreatDoor.TbR Go.Proofs.YtbiiehobfnbloaaGreatDoor.TbT Go.Proofs.YtbiiehobfnbloaaGreatDoor.TbU Go.Proofs.YtbiiehobfnbloaaGreatDoor.RtM Go.Proofs.YtbiiehobfnbloaaGreatDoor.RtN Go.Proofs.YtbiiehobfnbloaaGreatDoor.RtO

set_option maxRecDepth 100000
theorem atI_nat (S : Tb) (q : Nat) : atI S q = (decide (q < 191 * S.R) && S.is q) := by
  unfold atI
  by_cases h : q < 191 * S.R
  · rw [if_pos (by omega), decide_eq_true h, Int.toNat_natCast]; rfl
  · rw [if_neg (by omega), decide_eq_false h]; rfl
end Go.Proofs.YtbiiehobfnbloaaGreatDoor.RtP

/- The document's table: Out. -/
namespace Go.Proofs.YtbiiehobfnbloaaGreatDoor.RtQ
open Go Go.RowKit Go.Proofs.YtbiiehobfnbloaaGreatDoor.Q Go.Proofs.YtbiiehobfnbloaaGreatDoor.Mem Go.Proofs.YtbiiehobfnbloaaGreatDoor.Rg Go.Proofs.YtbiiehobfnbloaaGreatDoor.Ap Go.Proofs.YtbiiehobfnbloaaGreatDoor.ApG Go.Proofs.YtbiiehobfnbloaaGreatDoor.St Go.Proofs.YtbiiehobfnbloaaGreatDoor.BiW Go.Proofs.YtbiiehobfnbloaaGreatDoor.TlS Go.Proofs.YtbiiehobfnbloaaGreatDoor.TbM Go.Proofs.YtbiiehobfnbloaaGreatDoor.TbN Go.Proofs.YtbiiehobfnbloaaGreatDoor.TbO Go.Proofs.YtbiiehobfnbloaaGreatDoor.TbP Go.Proofs.YtbiiehobfnbloaaGreatDoor.TbQ Go.Proofs.YtbiiehobfnbloaaGreatDoor.TbR Go.Proofs.YtbiiehobfnbloaaGreatDoor.TbT Go.Proofs.YtbiiehobfnbloaaGreatDoor.TbU Go.Proofs.YtbiiehobfnbloaaGreatDoor.RtM Go.Proofs.YtbiiehobfnbloaaGreatDoor.RtN Go.Proofs.YtbiiehobfnbloaaGreatDoor.RtO Go.Proofs.YtbiiehobfnbloaaGreatDoor.RtP

set_option maxRecDepth 100000
theorem take_below {L : List Nat} (hs : L.Pairwise (· < ·)) (p : Nat) : ∀ z ∈ L.take (below L p), z < p := by
  induction L with
  | nil => intro z hz; simp at hz
  | cons x t ih =>
    intro z hz
    have ht := List.pairwise_cons.1 hs
    unfold below at hz
    rw [List.countP_cons] at hz
    by_cases hx : x < p
    · simp only [hx, decide_true, if_true, List.take_succ_cons] at hz
      rcases List.mem_cons.1 hz with rfl | hz
      · exact hx
      · exact ih ht.2 z hz
    · simp only [hx, decide_false, Bool.false_eq_true, if_false, Nat.add_zero] at hz
      have h0 : t.countP (fun z => decide (z < p)) = 0 := by
        rw [List.countP_eq_zero]
        intro y hy
        have := ht.1 y hy
        simp; omega
      rw [h0, List.take_zero] at hz
      cases hz
theorem in_drop {L : List Nat} (hs : L.Pairwise (· < ·)) {p q : Nat} (hq : q ∈ L) (hp : p ≤ q) : q ∈ L.drop (below L p) := by
  have : q ∈ L.take (below L p) ++ L.drop (below L p) := by rw [List.take_append_drop]; exact hq
  rcases List.mem_append.1 this with h | h
  · have := take_below hs p q h; omega
  · exact h
theorem nxt_is {S : Tb} (hs : S.st.Pairwise (· < ·)) {p q : Nat} (hq : q ∈ S.st) (hpq : p < q) (hm : ∀ z ∈ S.st, p < z → q ≤ z) : nxt S p = some q := by
  have hd := in_drop hs hq (show p + 1 ≤ q by omega)
  unfold nxt
  have hsd : (S.st.drop (below S.st (p + 1))).Pairwise (· < ·) := hs.sublist (List.drop_sublist _ _)
  have hlow := drop_below hs (p + 1)
  have hmem : ∀ z ∈ S.st.drop (below S.st (p + 1)), z ∈ S.st := fun z hz => List.mem_of_mem_drop hz
  cases hL : S.st.drop (below S.st (p + 1)) with
  | nil => rw [hL] at hd; cases hd
  | cons x t =>
    rw [hL] at hd hsd hlow hmem
    have hx := hm x (hmem x (List.mem_cons_self ..)) (by have := hlow x (List.mem_cons_self ..); omega)
    rcases List.mem_cons.1 hd with rfl | hd
    · rfl
    · have := (List.pairwise_cons.1 hsd).1 q hd
      omega
theorem nxt_no {S : Tb} (hs : S.st.Pairwise (· < ·)) {p : Nat} (hm : ∀ z ∈ S.st, ¬ p < z) : nxt S p = none := by
  cases h : nxt S p with
  | none => rfl
  | some q => exact absurd (nxt_gt hs h) (hm q (nxt_mem h))
theorem dN_end (S : Tb) : dN S (191 * S.R) = 0 := by
  have h1 := fsN_le (knS S (191 * S.R))
  rw [kn_size] at h1
  have h2 : kn S (191 * S.R) 4080 = 0 := by
    rcases kn_in S 4080 (191 * S.R) with h | h
    · omega
    · exact h
  unfold dN
  omega
theorem outAt_last {S : Tb} (hok : Ok S) : outAt S (191 * S.R) = [] :=
  outAt_end (Nat.le_refl _) (by rw [dN_end]; omega) (nxt_no hok.up (fun z hz => by have := hok.lt z hz; omega))
def fsts (A : List (Nat × Nat)) : List Nat := A.map (·.1)
def snds (A : List (Nat × Nat)) : List Nat := A.map (·.2)
end Go.Proofs.YtbiiehobfnbloaaGreatDoor.RtQ

/- The law's texts: Made, column. -/
namespace Go.Proofs.YtbiiehobfnbloaaGreatDoor.LaA
open Go Go.RowKit Go.Proofs.YtbiiehobfnbloaaGreatDoor.Q Go.Proofs.YtbiiehobfnbloaaGreatDoor.Mem Go.Proofs.YtbiiehobfnbloaaGreatDoor.Rg Go.Proofs.YtbiiehobfnbloaaGreatDoor.St Go.Proofs.YtbiiehobfnbloaaGreatDoor.BiW Go.Proofs.YtbiiehobfnbloaaGreatDoor.BiG Go.Proofs.YtbiiehobfnbloaaGreatDoor.CrB Go.Proofs.YtbiiehobfnbloaaGreatDoor.DgC Go.Proofs.YtbiiehobfnbloaaGreatDoor.DgM Go.Proofs.YtbiiehobfnbloaaGreatDoor.DgN

set_option maxRecDepth 100000
def fillB (f : Nat → UInt8) (k : Nat) : List UInt8 := (List.range k).map f
theorem fill_len (f : Nat → UInt8) (k : Nat) : (fillB f k).length = k := by simp [fillB]
theorem fill_succ (f : Nat → UInt8) (k : Nat) : fillB f (k + 1) = fillB f k ++ [f k] := by simp [fillB, List.range_succ]
/-- a row of bytes, one more of them laid -/
theorem fill_set {W : World} {g k q : Nat} {f : Nat → UInt8} (hR : Blk W g 5 (rowB (fillB f q) (k - q))) (hq : q < k) : Blk (W.setCell ⟨g, q, none⟩ (.int .u8 ((f q).toNat : Int))) g 5 (rowB (fillB f (q + 1)) (k - (q + 1))) := by
  obtain ⟨m, hm⟩ : ∃ m, k - q = m + 1 := ⟨k - q - 1, by omega⟩
  rw [hm] at hR
  have h1 := hR.set_ q (u8v (f q))
  have h2 := rowB_set (fillB f q) m (f q)
  rw [fill_len, ← fill_succ] at h2
  rw [h2, show m = k - (q + 1) by omega] at h1
  exact h1
theorem fill_cell {W : World} {g k q : Nat} {f : Nat → UInt8} (hR : Blk W g 5 (rowB (fillB f q) (k - q))) (hq : q < k) : W.cell? ⟨g, q, none⟩ = some (.int .u8 0) := by
  obtain ⟨m, hm⟩ : ∃ m, k - q = m + 1 := ⟨k - q - 1, by omega⟩
  rw [hm] at hR
  exact Blk.cell hR q (by have := rowB_at (fillB f q) m; rw [fill_len] at this; exact this)
def f7 (b i : Nat) : UInt8 := UInt8.ofNat ((b + i % 7) % 256)
def f1 (b i : Nat) : UInt8 := UInt8.ofNat ((b + i % 256) % 256)
def madeK (n : Int) : Nat := (max 0 (min n 4060)).toNat
/-- the datagram -/
def madeD (n : Int) (b : Nat) : ByteArray := mkD ⟨#[97, 98, 99, 100]⟩ ⟨#[101, 102, 103, 104]⟩ b (str (fillB (f7 b) (madeK n)))
def colS (n : Int) (b : Nat) : ByteArray := str (fillB (f1 b) (max 0 n).toNat)
theorem col_size (n : Int) (b : Nat) : (colS n b).size = (max 0 n).toNat := by unfold colS; rw [← bl_len, bl_str, fill_len]
theorem made_ok (n : Int) (b : Nat) : dgE (madeD n b) = 0 ∧ (madeD n b).size = 20 + madeK n := by
  have hl : (str (fillB (f7 b) (madeK n))).size = madeK n := by rw [← bl_len, bl_str, fill_len]
  have := mk_ok ⟨#[97, 98, 99, 100]⟩ ⟨#[101, 102, 103, 104]⟩ (str (fillB (f7 b) (madeK n))) b rfl rfl (by rw [hl]; unfold madeK; omega)
  rw [hl] at this
  exact this
set_option maxHeartbeats 1600000 in
theorem made_any (n : Int) (b : Nat) (w : World) (hb : b < 256) : Calls Tryz.prog 55 #[.int .i64 n, .int .u8 (b : Int)] w fun e w' => e = .returned (.string (madeD n b)) ∧ Below w.heap.size w w' := by
  have HY := Lib.hid (show madeD n b = mkD ⟨#[97, 98, 99, 100]⟩ ⟨#[101, 102, 103, 104]⟩ b (str (fillB (f7 b) (madeK n))) from rfl)
  obtain ⟨m, hm⟩ : ∃ m, min n 4060 = m := ⟨_, rfl⟩
  obtain ⟨k, hk⟩ : ∃ k, madeK n = k := ⟨_, rfl⟩
  have hmn : ∀ (ts : Array TypeId) (ty : TypeId) (V : World), (Builtin.min_ ts ty #[.int .i64 n, .int .i64 4060]).run Tryz.prog V = .ok (.int .i64 m) V := fun ts ty V => by
    rw [run_min_int2]
    congr 2
    split <;> omega
  have hmx : ∀ (ts : Array TypeId) (ty : TypeId) (V : World), (Builtin.max_ ts ty #[.int .i64 0, .int .i64 m]).run Tryz.prog V = .ok (.int .i64 (k : Int)) V := fun ts ty V => by
    rw [run_max_int2]
    congr 2
    unfold madeK at hk
    split <;> omega
  have hk4 : k ≤ 4060 := by unfold madeK at hk; omega
  have hmk := fun V => mk_bytes k (by omega) V
  have hb9 : (b : Int) < 256 := by omega
  have hb0 : (0 : Int) ≤ (b : Int) := Int.natCast_nonneg _
  rw [hk] at HY
  clear hk hm
  go_enter Tryz.func55, Tryz.ntmps55
  go_wp2_with fail
  go_loopw [6] (fun i wr => ∃ q : Nat, q ≤ k ∧ i = .int .i64 q ∧ Hid (Blk wr w.heap.size 5 (rowB (fillB (f7 b) q) (k - q)) ∧ Below w.heap.size w wr)) (fun i _ => k - (intOf i).toNat)
  case atStart => exact ⟨0, by omega, rfl, Lib.hid ⟨Blk.new _ _ _, (Below.refl _ _).alloc (Nat.le_refl _) _⟩⟩
  case round =>
    obtain ⟨q, hq, rfl, hI⟩ := hrel
    obtain ⟨hR, hE⟩ := hI.out
    by_cases hqk : q < k
    · have t1 : decide (q < k) = true := decide_eq_true hqk
      have r1 := fill_cell hR hqk
      have r2 := Blk.frozen hR q
      have h1 := fill_set hR hqk
      have h3 : ((f7 b q).toNat : Int) = ((b : Int) + (q : Int) % 7) % 256 := by
        unfold f7
        rw [UInt8.toNat_ofNat']
        omega
      rw [h3] at h1
      have hE2 := hE.setCell (p := ⟨w.heap.size, q, none⟩) (Nat.le_refl _) (.int .u8 (((b : Int) + (q : Int) % 7) % 256))
      have HX := Lib.hid (And.intro h1 hE2)
      have q0 : (0 : Int) ≤ (q : Int) := Int.natCast_nonneg _
      have q1 : (q : Int) < (k : Int) := by omega
      clear h1 h3 hE2 hR hE hI
      go_wp2_with fail
      go_roundw
      case rel => exact ⟨q + 1, by omega, by go_num, HX⟩
      case measure => simp [intOf]; omega
    · obtain rfl : q = k := by omega
      have t1 : decide (q < q) = false := by simp
      rw [Nat.sub_self] at hR
      have hc := conv_row (l := fillB (f7 b) q) (n := q) hR (fill_len _ q) q
      have hbz : (str (fillB (f7 b) q)).size ≤ 4060 := by rw [← bl_len, bl_str, fill_len]; omega
      have km := fun V => make_any ⟨#[97, 98, 99, 100]⟩ ⟨#[101, 102, 103, 104]⟩ (str (fillB (f7 b) q)) (b : Int) V (by decide) (by decide) hbz (by omega)
      rw [← HY.out] at km
      clear hbz hR hI HY
      go_wp2_with fail
      (with_reducible refine (km _).mono ?_); rintro e1 W1 ⟨rfl, hb1⟩
      have hE1 := hE.trans (hb1.mono hE.size)
      go_wp2_with fail
      go_ret
      exact ⟨rfl, hE1⟩
end Go.Proofs.YtbiiehobfnbloaaGreatDoor.LaA

/- The law's few, bytes; both tables side by side. -/
namespace Go.Proofs.YtbiiehobfnbloaaGreatDoor.LaB
open Go Go.RowKit Go.Proofs.YtbiiehobfnbloaaGreatDoor.Q Go.Proofs.YtbiiehobfnbloaaGreatDoor.Mem Go.Proofs.YtbiiehobfnbloaaGreatDoor.Rg Go.Proofs.YtbiiehobfnbloaaGreatDoor.Ap Go.Proofs.YtbiiehobfnbloaaGreatDoor.St Go.Proofs.YtbiiehobfnbloaaGreatDoor.BiW Go.Proofs.YtbiiehobfnbloaaGreatDoor.CrB Go.Proofs.YtbiiehobfnbloaaGreatDoor.SeEq Go.Proofs.YtbiiehobfnbloaaGreatDoor.TlS Go.Proofs.YtbiiehobfnbloaaGreatDoor.TbM Go.Proofs.YtbiiehobfnbloaaGreatDoor.TbO Go.Proofs.YtbiiehobfnbloaaGreatDoor.TbP Go.Proofs.YtbiiehobfnbloaaGreatDoor.TbR Go.Proofs.YtbiiehobfnbloaaGreatDoor.TbU Go.Proofs.YtbiiehobfnbloaaGreatDoor.RtM Go.Proofs.YtbiiehobfnbloaaGreatDoor.RtN Go.Proofs.YtbiiehobfnbloaaGreatDoor.RtQ Go.Proofs.YtbiiehobfnbloaaGreatDoor.LaA

set_option maxRecDepth 100000
/-- a call -/
structure Opn where
  ask : Int
  at_ : Int
  n : Int
  b : Nat
  text : ByteArray
def enOp (o : Opn) : List Value := [.int .i64 o.ask, .int .i64 o.at_, .int .i64 o.n, .int .u8 (o.b : Int), .string o.text]
def fewO (o : Opn) : Prop := o.text.size ≤ 5000 ∧ o.n ≤ 5000 ∧ -5000 ≤ o.n
instance (o : Opn) : Decidable (fewO o) := by unfold fewO; infer_instance
def fewB (L : List Opn) : Bool := L.all (fun r => decide (fewO r)) && decide (L.length ≤ 30)
theorem few_no {L : List Opn} {k : Nat} {r : Opn} (h : L[k]? = some r) (hf : ¬ fewO r) : fewB L = false := by
  unfold fewB
  have : L.all (fun r => decide (fewO r)) = false := by
    rw [List.all_eq_false]
    exact ⟨r, List.mem_of_getElem? h, by simpa using hf⟩
  rw [this, Bool.false_and]
theorem few_yes {L : List Opn} (h : ∀ (j : Nat) (r : Opn), L[j]? = some r → fewO r) : fewB L = decide (L.length ≤ 30) := by
  unfold fewB
  have : L.all (fun r => decide (fewO r)) = true := by
    rw [List.all_eq_true]
    intro r hr
    obtain ⟨j, hj, hj2⟩ := List.getElem_of_mem hr
    exact decide_eq_true (h j r (by rw [List.getElem?_eq_getElem hj, hj2]))
  rw [this, Bool.true_and]
def bytesO (o : Opn) : ByteArray := if o.text.size = 0 then madeD o.n o.b else o.text
theorem bytes_size (o : Opn) (h : fewO o) : (bytesO o).size ≤ 1099511627776 := by
  unfold bytesO
  split
  · rw [(made_ok o.n o.b).2]; unfold madeK; omega
  · have := h.1; omega
theorem ins_up {L : List Nat} (hs : L.Pairwise (· < ·)) {p : Nat} (hp : p ∉ L) : (ins L (below L p) p).Pairwise (· < ·) := by
  have h1 := take_below hs p
  have h2 := drop_below hs p
  unfold ins
  rw [List.pairwise_append, List.pairwise_cons]
  refine ⟨hs.sublist (List.take_sublist _ _), ⟨fun z hz => ?_, hs.sublist (List.drop_sublist _ _)⟩, fun y hy z hz => ?_⟩
  · have := h2 z hz
    rcases Nat.eq_or_lt_of_le this with e | e
    · subst e; exact absurd (List.mem_of_mem_drop hz) hp
    · exact e
  · have hy' := h1 y hy
    rcases List.mem_cons.1 hz with rfl | hz
    · exact hy'
    · have := h2 z hz; omega
theorem put_ok {S : Tb} (h : Ok S) (hl : S.st.length < 100000) (at_ : Int) (s : ByteArray) : Ok (putS S at_ s) ∧ (putS S at_ s).st.length ≤ S.st.length + 1 := by
  unfold putS
  split
  · exact ⟨h, by omega⟩
  · rename_i hc
    have hE : putE S.R at_ s = 0 := by
      by_cases e : putE S.R at_ s = 0
      · exact e
      · exact absurd (Or.inl e) hc
    have hz : s.size ≠ 0 := fun e => hc (Or.inr e)
    have hp : 0 ≤ at_ ∧ at_.toNat < 191 * S.R := by
      unfold putE at hE
      split at hE
      · cases hE
      · omega
    by_cases hin : at_.toNat ∈ S.st
    · simp only [hin, if_true]
      exact ⟨⟨h.R, h.R0, h.st, h.up, h.lt⟩, by simp⟩
    · simp only [hin, if_false]
      have hl2 : (ins S.st (below S.st at_.toNat) at_.toNat).length = S.st.length + 1 := ins_len _ _ _ (below_le _ _)
      refine ⟨⟨h.R, h.R0, by show (ins _ _ _).length ≤ _; omega, ins_up h.up hin, fun z hz => ?_⟩, by show (ins _ _ _).length ≤ _; omega⟩
      rcases (ins_mem _ _ _ _).1 hz with rfl | hz
      · exact hp.2
      · exact h.lt z hz
theorem par_ok {S : Tb} (h : Ok S) (n : Int) (s : ByteArray) : Ok (parS S n s) ∧ (parS S n s).st = S.st ∧ (parS S n s).R = S.R := by
  unfold parS
  split
  · exact ⟨h, rfl, rfl⟩
  · exact ⟨⟨h.R, h.R0, h.st, h.up, h.lt⟩, rfl, rfl⟩
theorem pad_ok {S : Tb} (h : Ok S) (n : Int) : Ok (padS S n) ∧ (padS S n).st = S.st ∧ (padS S n).R = S.R := by
  unfold padS
  split
  · exact ⟨h, rfl, rfl⟩
  · exact ⟨⟨h.R, h.R0, h.st, h.up, h.lt⟩, rfl, rfl⟩
theorem empty_ok {R : Nat} (h : R ≤ 1024) (h0 : 0 < R) : Ok (emptyT R) := ⟨h, h0, by simp [emptyT], List.Pairwise.nil, fun z hz => (by cases hz)⟩
end Go.Proofs.YtbiiehobfnbloaaGreatDoor.LaB

/- The chapter's example: awake. -/
namespace Go.Proofs.YtbiiehobfnbloaaGreatDoor.LaE
open Go Go.RowKit Go.Proofs.YtbiiehobfnbloaaGreatDoor.Q Go.Proofs.YtbiiehobfnbloaaGreatDoor.Mem Go.Proofs.YtbiiehobfnbloaaGreatDoor.Rg Go.Proofs.YtbiiehobfnbloaaGreatDoor.Ap Go.Proofs.YtbiiehobfnbloaaGreatDoor.ApG Go.Proofs.YtbiiehobfnbloaaGreatDoor.St Go.Proofs.YtbiiehobfnbloaaGreatDoor.BiW Go.Proofs.YtbiiehobfnbloaaGreatDoor.CrB Go.Proofs.YtbiiehobfnbloaaGreatDoor.Tab Go.Proofs.YtbiiehobfnbloaaGreatDoor.DgB Go.Proofs.YtbiiehobfnbloaaGreatDoor.DgC Go.Proofs.YtbiiehobfnbloaaGreatDoor.TlS Go.Proofs.YtbiiehobfnbloaaGreatDoor.TbM Go.Proofs.YtbiiehobfnbloaaGreatDoor.TbO Go.Proofs.YtbiiehobfnbloaaGreatDoor.TbP Go.Proofs.YtbiiehobfnbloaaGreatDoor.TbQ Go.Proofs.YtbiiehobfnbloaaGreatDoor.TbR Go.Proofs.YtbiiehobfnbloaaGreatDoor.TbS Go.Proofs.YtbiiehobfnbloaaGreatDoor.TbT Go.Proofs.YtbiiehobfnbloaaGreatDoor.TbU Go.Proofs.YtbiiehobfnbloaaGreatDoor.RtM Go.Proofs.YtbiiehobfnbloaaGreatDoor.LaA Go.Proofs.YtbiiehobfnbloaaGreatDoor.LaB

set_option maxRecDepth 100000
def exS (X : ByteArray) : Tb := padS (putS (emptyT 256) 0 X) 189
def isE (p : Nat) : Bool := (decide (512 ≤ p) && decide (p < 48896)) || decide (p < 300)
theorem ex_putE {X : ByteArray} (h : X.size = 300) : putE 256 0 X = 0 := by unfold putE; rw [h]; decide
theorem ex_put {X : ByteArray} (h : X.size = 300) : putS (emptyT 256) 0 X = { laid (emptyT 256) 0 X 300 with st := [0] } := by
  unfold putS
  rw [if_neg (by rw [show (emptyT 256).R = 256 from rfl, ex_putE h, h]; decide), h]
  rfl
theorem ex_S {X : ByteArray} (h : X.size = 300) : (exS X).R = 256 ∧ (exS X).st = [0] ∧ (exS X).is = isE ∧ ∀ i, i < 300 → (exS X).b i = sb X i := by
  unfold exS
  rw [ex_put h]
  unfold padS
  rw [if_neg (by decide)]
  refine ⟨rfl, rfl, ?_, fun i hi => ?_⟩
  · funext p
    show (if (191 - 189) * 256 ≤ p ∧ p < 191 * 256 then true else if 0 ≤ p ∧ p < 0 + 300 then true else false) = isE p
    unfold isE
    by_cases h1 : 512 ≤ p ∧ p < 48896
    · rw [if_pos (by omega)]; simp [h1.1, h1.2]
    · rw [if_neg (by omega)]
      by_cases h2 : p < 300
      · rw [if_pos (by omega)]; simp [h2]
      · rw [if_neg (by omega)]
        simp [h2]
        omega
  · show (if 0 ≤ i ∧ i < 0 + 300 then sb X (i - 0) else 0) = sb X i
    rw [if_pos (by omega)]; rfl
theorem ex_lost {X : ByteArray} (h : X.size = 300) : (lostL (exS X) 0).length = 64 ∧ (lostL (exS X) 44).length = 65 := by
  obtain ⟨h1, _, h3, _⟩ := ex_S h
  unfold lostL lostN
  rw [h1, h3]
  exact ⟨by decide +kernel, by decide +kernel⟩
theorem kn_eq (S : Tb) : ∀ (k f p : Nat), k < f → (∀ i, i < k → atI S ((p + i : Nat) : Int) = true) → atI S ((p + k : Nat) : Int) = false → kn S p f = k
  | k, 0, p, h, _, _ => by omega
  | 0, f + 1, p, _, _, h => by rw [kn]; rw [Nat.add_zero] at h; rw [h]; rfl
  | k + 1, f + 1, p, hk, h1, h2 => by
    rw [kn]
    have h0 := h1 0 (by omega)
    rw [Nat.add_zero] at h0
    rw [h0, if_pos rfl, kn_eq S k f (p + 1) (by omega) (fun i hi => by rw [show p + 1 + i = p + (i + 1) by omega]; exact h1 (i + 1) (by omega)) (by rw [show p + 1 + k = p + (k + 1) by omega]; exact h2)]
theorem atI_nat' (S : Tb) (q : Nat) : atI S q = (decide (q < 191 * S.R) && S.is q) := by
  unfold atI
  by_cases h : q < 191 * S.R
  · rw [if_pos (by omega), decide_eq_true h, Int.toNat_natCast]; rfl
  · rw [if_neg (by omega), decide_eq_false h]; rfl
theorem ex_at {X : ByteArray} (h : X.size = 300) (q : Nat) : atI (exS X) (q : Int) = (decide (q < 48896) && isE q) := by
  obtain ⟨h1, _, h3, _⟩ := ex_S h
  rw [atI_nat', h1, h3]
theorem ex_text {X : ByteArray} (h : X.size = 300) : str (bytesL (exS X) 0 300) = X := by
  refine bl_inj ?_
  rw [bl_str]
  have hl : (bl X).length = 300 := by rw [bl_len, h]
  apply List.ext_getElem (by rw [bytesL_len, hl])
  intro i h1 h2
  rw [bytesL_len] at h1
  simp only [bytesL, List.getElem_map, List.getElem_range, Nat.zero_add]
  rw [(ex_S h).2.2.2 i h1]
  unfold sb bl
  have hd : i < X.data.size := by have : X.size = X.data.size := rfl; omega
  rw [Array.getElem?_eq_getElem hd, Option.getD_some]
  exact (Array.getElem_toList hd).symm
theorem ex_kn {X : ByteArray} (h : X.size = 300) : knS (exS X) 0 = X := by
  have : kn (exS X) 0 4080 = 300 := kn_eq _ 300 4080 0 (by decide) (fun i hi => by rw [ex_at h]; unfold isE; simp; omega) (by rw [ex_at h]; rfl)
  unfold knS
  rw [this, ex_text h]
theorem fs_whole {X : ByteArray} (h : dgE X = 0) : fsN X = X.size := by
  have hp : pkE X = 0 := by
    unfold dgE at h
    split at h
    · rename_i h1; exact absurd h h1
    · rename_i h1; simpa using h1
  have hl : (pkH X).length = X.size := by
    unfold dgE at h
    rw [if_neg (by simpa using hp)] at h
    split at h
    · cases h
    · split at h
      · cases h
      · omega
  have hx : X.extract 0 X.size = X := by
    refine bl_inj ?_
    rw [ext_bl, List.drop_zero, Nat.sub_zero, List.take_of_length_le (by rw [bl_len]; omega)]
  unfold fsN
  rw [hl, Int.toNat_natCast, hx, if_pos ⟨hp, Int.le_refl _, h⟩]
theorem ex_ok {X : ByteArray} : Ok (exS X) := (pad_ok (put_ok (empty_ok (by decide) (by decide)) (by decide) 0 X).1 189).1
theorem ex_out {X : ByteArray} (h : X.size = 300) (hd : dgE X = 0) : outAt (exS X) 0 = [(0, 300)] := by
  have h1 : dN (exS X) 0 = 300 := by unfold dN; rw [ex_kn h, fs_whole hd, h]
  have hR := (ex_S h).1
  rw [outAt_yes ex_ok (by omega) (by rw [h1]; decide), h1]
  congr 1
  have h2 : kn (exS X) 300 4080 = 0 := kn_eq _ 0 4080 300 (by decide) (fun i hi => by omega) (by rw [ex_at h]; rfl)
  have h3 : dN (exS X) 300 = 0 := by
    have := fsN_le (knS (exS X) 300)
    rw [kn_size, h2] at this
    unfold dN; omega
  exact outAt_end (by rw [hR]; decide) (by rw [h3]; decide) (by unfold nxt; rw [(ex_S h).2.1]; rfl)
end Go.Proofs.YtbiiehobfnbloaaGreatDoor.LaE
