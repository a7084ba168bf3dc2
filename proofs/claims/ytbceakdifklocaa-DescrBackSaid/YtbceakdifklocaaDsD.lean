/- descr: loops of descriptors. -/
import Derived.Test.YtbceakdifklocaaDsC
import Derived.Test.YtbceakdifklocaaBld
import Derived.Outline
namespace Go.Proofs.Ytbceakdifklocaa.DsD
open Go.RowKit Go.Proofs.Ytbceakdifklocaa.Q Go.Proofs.Ytbceakdifklocaa.Mem Go.Proofs.Ytbceakdifklocaa.DsA Go.Proofs.Ytbceakdifklocaa.DsB Go.Proofs.Ytbceakdifklocaa.DsC Go.Proofs.Ytbceakdifklocaa.Bld

/-- a descriptor -/
structure Dc where
  tag : Int
  body : ByteArray
def chkE (d : Dc) : Int := if in1 255 d.tag then (if 255 < d.body.size then 11 else 0) else 15
def oneL (d : Dc) : List UInt8 := [UInt8.ofNat d.tag.toNat, UInt8.ofNat d.body.size] ++ d.body.data.toList
theorem oneL_length (d : Dc) : (oneL d).length = 2 + d.body.size := by
  simp only [oneL, List.length_append, List.length_cons, List.length_nil, Array.length_toList]
  rfl
def loopL (l : List Dc) : List UInt8 := l.flatMap oneL
def firstE : List Dc → Int
  | [] => 0
  | d :: l => if chkE d = 0 then firstE l else chkE d
def loopE (l : List Dc) : Int := if firstE l = 0 then (if 4095 < (loopL l).length then 11 else 0) else firstE l

theorem check_any (d : Dc) (w : World) : Calls Try.prog 43 #[.agg #[.int .i64 d.tag, .string d.body]] w fun e w' => e = .returned (.int .i64 (chkE d)) ∧ Below w.heap.size w w' := by
  obtain ⟨tag, body⟩ := d
  have kt := fun V g hg => within_new 255 V [tag] 1 g #[.int .i64 tag] rfl rfl hg (by simp)
  cases hv : in1 255 tag with
  | false =>
    have hi : inB 255 [tag] = false := by simp [inB]; simpa using hv
    have hE : chkE ⟨tag, body⟩ = 15 := by simp [chkE, hv]
    rw [hi] at kt
    rw [hE]
    clear hv hi hE
    go_enter Try.func43, Try.ntmps43
    go_wp2_with fail
    (with_reducible refine (kt _ _ (by simp)).mono ?_); rintro e W1 ⟨rfl, hb⟩
    go_wp2_with fail
    go_ret
    exact ⟨rfl, ((Below.refl _ _).alloc (Nat.le_refl _) _).trans (hb.mono (by simp))⟩
  | true =>
    have hi : inB 255 [tag] = true := by simp [inB]; simpa using hv
    rw [hi] at kt
    have q := Blk.new w 30 #[.int .i64 tag, .string body]
    by_cases hs : 255 < body.size
    · have hE : chkE ⟨tag, body⟩ = 11 := by simp [chkE, hv, hs]
      have t0 : decide (255 < (body.size : Int)) = true := by simp; omega
      rw [hE]
      clear hv hi hE hs
      go_enter Try.func43, Try.ntmps43
      go_wp2_with fail
      (with_reducible refine (kt _ _ (by simp)).mono ?_); rintro e W1 ⟨rfl, hb⟩
      have f1 := Blk.cell (Blk.below q hb (Blk.lt q)) 1 (v := .string body) rfl
      go_wp2_with fail
      go_ret
      exact ⟨rfl, ((Below.refl _ _).alloc (Nat.le_refl _) _).trans (hb.mono (by simp))⟩
    · have hE : chkE ⟨tag, body⟩ = 0 := by simp [chkE, hv, hs]
      have t0 : decide (255 < (body.size : Int)) = false := by simp; omega
      rw [hE]
      clear hv hi hE hs
      go_enter Try.func43, Try.ntmps43
      go_wp2_with fail
      (with_reducible refine (kt _ _ (by simp)).mono ?_); rintro e W1 ⟨rfl, hb⟩
      have f1 := Blk.cell (Blk.below q hb (Blk.lt q)) 1 (v := .string body) rfl
      go_wp2_with fail
      go_ret
      exact ⟨rfl, ((Below.refl _ _).alloc (Nat.le_refl _) _).trans (hb.mono (by simp))⟩

/-- a slice of descriptors -/
def Ds (w : World) (a : Option Addr) (L : List Dc) : Prop := ∀ i d, L[i]? = some d → ∃ b o, a = some ⟨b, o, none⟩ ∧ b < w.heap.size ∧
  w.cell? ⟨b, o + i * 2, none⟩ = some (.int .i64 d.tag) ∧ w.cell? ⟨b, o + i * 2 + 1, none⟩ = some (.string d.body)
theorem Ds.below {w w' : World} {a : Option Addr} {L : List Dc} {B : Nat} (h : Ds w a L) (hB : w.heap.size ≤ B) (hb : Below B w w') : Ds w' a L := fun i d hi => by
  obtain ⟨b, o, e, hlt, c0, c1⟩ := h i d hi
  have hl : b < B := Nat.lt_of_lt_of_le hlt hB
  exact ⟨b, o, e, Nat.lt_of_lt_of_le hlt hb.size, (hb.cell (p := ⟨b, _, none⟩) hl).trans c0, (hb.cell (p := ⟨b, _, none⟩) hl).trans c1⟩

theorem isb_below {B b : Nat} {bs : List Value} {w w' : World} (h : IsB B b bs w) (hb : Below w.heap.size w w') : IsB B b bs w' := by
  have key : ∀ p, Lib.BuilderAt 105 5 B b p bs w → Lib.BuilderAt 105 5 B b p bs w' := by
    rintro p ⟨hB, v, hbk, hown, hne⟩
    have hlt : b < w.heap.size := (Array.getElem?_eq_some_iff.1 hbk).1
    refine ⟨hB, v, (hb.block b hlt).trans hbk, hown.kept (only_of_below hb none) ?_, hne⟩
    cases h' : v.ownBlock with
    | none => exact Or.inl rfl
    | some r => exact Or.inr (by simp)
  rcases h with h | h
  · exact Or.inl (key _ h)
  · exact Or.inr (key _ h)

theorem str_bytes (s : ByteArray) : Lib.strCells s = Lib.byteCells s.data.toList := rfl
theorem son_bytes (a b : Int) : (strOfNums [a, b]).data.toList = [UInt8.ofNat a.toNat, UInt8.ofNat b.toNat] := rfl

theorem first_take {L : List Dc} {k : Nat} {d : Dc} (hk : L[k]? = some d) (hf : firstE (L.take k) = 0) : firstE (L.take (k + 1)) = chkE d ∧ (chkE d ≠ 0 → firstE L = chkE d) := by
  induction L generalizing k with
  | nil => simp at hk
  | cons x t ih =>
    cases k with
    | zero =>
      simp at hk
      subst hk
      constructor
      · simp only [List.take_succ_cons, List.take_zero, firstE]
        split <;> simp_all
      · intro hne
        simp [firstE, hne]
    | succ k =>
      simp at hk
      simp only [List.take_succ_cons, firstE] at hf ⊢
      split at hf
      · rename_i hx
        obtain ⟨h1, h2⟩ := ih hk hf
        rw [if_pos hx, if_pos hx]
        exact ⟨h1, h2⟩
      · rename_i hx
        exact absurd hf hx
theorem loop_snoc {L : List Dc} {k : Nat} {d : Dc} (hk : L[k]? = some d) : loopL (L.take (k + 1)) = loopL (L.take k) ++ oneL d := by
  rw [List.take_add_one, hk]
  simp [loopL]

set_option maxRecDepth 100000 in
set_option maxHeartbeats 1600000 in
theorem loop_any (a : Option Addr) (c : Nat) (L : List Dc) (w : World) (hl : L.length ≤ 1000000) (hL : Ds w a L) :
    Calls Try.prog 18 #[.slice a L.length c] w fun e w' => e = .returned (.tuple #[.string (if loopE L = 0 then ⟨(loopL L).toArray⟩ else nob), .int .i64 (loopE L)]) ∧ Below w.heap.size w w' := by
  obtain ⟨R, hR⟩ : ∃ R : Ending → World → Prop, R = (fun e w' => e = .returned (.tuple #[.string (if loopE L = 0 then ⟨(loopL L).toArray⟩ else nob), .int .i64 (loopE L)]) ∧ Below w.heap.size w w') := ⟨_, rfl⟩
  rw [← hR]
  have HR := Lib.hid hR
  have HL := Lib.hid hL
  have hB0 : IsB w.heap.size w.heap.size [] (w.alloc (.cells #[.pointer none, .slice none 0 0] 105)) := Lib.fresh_isBuilder _ _ w
  clear hR hL
  go_enter Try.func18, Try.ntmps18
  go_wp2_with fail
  go_loopw [10] (fun i wr => ∃ k : Nat, k ≤ L.length ∧ i = .int .i64 k ∧ Hid (firstE (L.take k) = 0 ∧ (loopL (L.take k)).length ≤ 257 * k) ∧ IsB w.heap.size w.heap.size (Lib.byteCells (loopL (L.take k))) wr ∧ Below w.heap.size w wr) (fun i _ => L.length - (intOf i).toNat)
  case atStart => exact ⟨0, by omega, rfl, Lib.hid ⟨rfl, by simp [loopL]⟩, hB0, (Below.refl _ _).alloc (Nat.le_refl _) _⟩
  case round =>
    clear hB0
    obtain ⟨k, hk, rfl, hI, hB, hb⟩ := hrel
    by_cases hkl : k < L.length
    · have t0 : decide (k < L.length) = true := by simpa using hkl
      obtain ⟨d, hd⟩ : ∃ d, L[k]? = some d := ⟨L[k], List.getElem?_eq_getElem hkl⟩
      obtain ⟨b1, o1, rfl, l1, c0, c1⟩ := HL.out.below (Nat.le_refl _) hb k d hd
      obtain ⟨hf1, hf2⟩ := first_take hd hI.out.1
      have hsn := loop_snoc hd
      have kc := fun V => check_any d V
      by_cases hE : chkE d = 0
      · have hds : 0 ≤ d.tag ∧ d.tag ≤ 255 ∧ d.body.size ≤ 255 := by
          unfold chkE at hE
          split at hE
          · rename_i h1
            have : 0 ≤ d.tag ∧ d.tag ≤ 255 := by simpa [in1] using h1
            split at hE
            · omega
            · omega
          · omega
        rw [hE] at kc
        rw [hE] at hf1
        have hlen := hI.out.2
        have HF := Lib.hid (show firstE (L.take (k + 1)) = 0 ∧ (loopL (L.take (k + 1))).length ≤ 257 * (k + 1) from ⟨hf1, by rw [hsn, List.length_append, oneL_length]; omega⟩)
        have HS := Lib.hid hsn
        have q1 : IntKind.u8.wrap d.tag = d.tag := by rw [IntKind.wrap_u8]; omega
        have q2 : IntKind.u8.wrap (d.body.size : Int) = d.body.size := by rw [IntKind.wrap_u8]; omega
        clear hf1 hf2 hsn hE hd
        go_wp2_with fail
        (with_reducible refine (kc _).mono ?_); rintro e W1 ⟨rfl, hb1⟩
        have q : Blk W1 wr.heap.size 30 #[.int .i64 d.tag, .string d.body] := Blk.below (Blk.new wr _ _) hb1 (by simp)
        have hb2 := hb.trans ((((Below.refl wr.heap.size wr).alloc (Nat.le_refl _) (.cells #[.int .i64 d.tag, .string d.body] 30)).trans (hb1.mono (by simp))).mono hb.size)
        have hB2 := isb_below hB (((Below.refl wr.heap.size wr).alloc (Nat.le_refl _) (.cells #[.int .i64 d.tag, .string d.body] 30)).trans (hb1.mono (by simp)))
        clear kc hb hB hb1 c0 c1
        have f0 := Blk.cell q 0 (v := .int .i64 d.tag) rfl
        have f1 := Blk.cell q 1 (v := .string d.body) rfl
        have hcv := conv_new W1 [d.tag, (d.body.size : Int)] 2 W1.heap.size #[.int .u8 d.tag, .int .u8 (d.body.size : Int)] rfl rfl rfl
        have hadd : ∀ U : World, (Op.stringOp .add (strOfNums [d.tag, (d.body.size : Int)]) d.body).run Try.prog U = .ok (.string (strOfNums [d.tag, (d.body.size : Int)] ++ d.body)) U := fun U => run_string_add_sum U _ _ (by rw [strOfNums_size]; simp only [List.length_cons, List.length_nil]; omega)
        have hcell : Lib.byteCells (loopL (L.take k)) ++ Lib.strCells (strOfNums [d.tag, (d.body.size : Int)] ++ d.body) = Lib.byteCells (loopL (L.take (k + 1))) := by
          rw [HS.out, str_bytes, ByteArray.data_append, Array.toList_append, son_bytes]
          simp [Lib.byteCells, oneL]
        have HC := Lib.hid hcell
        have kw := write_any w.heap.size w.heap.size (Lib.byteCells (loopL (L.take k))) (strOfNums [d.tag, (d.body.size : Int)] ++ d.body) (W1.alloc (.cells #[.int .u8 d.tag, .int .u8 (d.body.size : Int)] 5)) (isb_below hB2 ((Below.refl _ _).alloc (Nat.le_refl _) _)) (by rw [Lib.byteCells, List.length_map, ByteArray.size_append, strOfNums_size]; simp only [List.length_cons, List.length_nil]; omega) (by have := hb2.size; simp; omega)
        rw [hcell] at kw
        have hb3 := hb2.alloc hb2.size (.cells #[.int .u8 d.tag, .int .u8 (d.body.size : Int)] 5)
        have f2 := Blk.cell (Blk.alloc q (.cells #[.int .u8 d.tag, .int .u8 (d.body.size : Int)] 5)) 1 (v := .string d.body) rfl
        clear hcell hB2 hb2 q
        go_wp2_with fail
        (with_reducible refine (kw).mono ?_); rintro e W2 ⟨rfl, hB3, hb4⟩
        have hb5 := hb3.trans hb4
        clear kw hb3 hb4 f0 f1 f2 hcv hadd
        go_wp2_with fail
        go_roundw
        case rel => exact ⟨k + 1, by omega, by go_num, HF, hB3, hb5⟩
        case measure => simp [intOf]; omega
      · have hFE := hf2 hE
        have hLE : loopE L = chkE d := by unfold loopE; rw [hFE, if_neg hE]
        have HLE := Lib.hid hLE
        have HE := Lib.hid hE
        have t1 : (chkE d != 0) = true := by simpa using hE
        obtain ⟨ce, hce⟩ : ∃ ce, chkE d = ce := ⟨_, rfl⟩
        rw [hce] at t1 kc
        have HCE := Lib.hid hce
        clear hf1 hf2 hsn hE hd hFE hLE hce hB
        go_wp2_with fail
        (with_reducible refine (kc _).mono ?_); rintro e W1 ⟨rfl, hb1⟩
        have hb2 := hb.trans ((((Below.refl wr.heap.size wr).alloc (Nat.le_refl _) (.cells #[.int .i64 d.tag, .string d.body] 30)).trans (hb1.mono (by simp))).mono hb.size)
        clear hb hb1 c0 c1 kc
        go_wp2_with fail
        rw [HR.out, HLE.out, if_neg HE.out, HCE.out]
        exact ⟨rfl, hb2⟩
    · obtain rfl : k = L.length := by omega
      have t0 : decide (L.length < L.length) = false := by simp
      rw [List.take_length] at hB hI
      have kl := len_any w.heap.size w.heap.size _ wr hB
      rw [Lib.byteCells, List.length_map] at kl
      by_cases hlong : 4095 < (loopL L).length
      · have t1 : decide (4095 < ((loopL L).length : Int)) = true := by simp; omega
        have HLE := Lib.hid (show loopE L = 11 by unfold loopE; rw [if_pos hI.out.1, if_pos hlong])
        clear hlong hI
        go_wp2_with fail
        (with_reducible refine (kl).mono ?_); rintro e W1 ⟨rfl, rfl⟩
        clear kl
        go_wp2_with fail
        rw [HR.out, HLE.out]
        exact ⟨rfl, hb⟩
      · have t1 : decide (4095 < ((loopL L).length : Int)) = false := by simp; omega
        have HLE := Lib.hid (show loopE L = 0 by unfold loopE; rw [if_pos hI.out.1, if_neg hlong])
        have ks := str_any w.heap.size w.heap.size _ wr hB hb.size
        clear hlong hI hB
        go_wp2_with fail
        (with_reducible refine (kl).mono ?_); rintro e W1 ⟨rfl, rfl⟩
        clear kl
        go_wp2_with fail
        (with_reducible refine (ks).mono ?_); rintro e W2 ⟨rfl, hb2⟩
        clear ks
        go_wp2_with fail
        rw [HR.out, HLE.out]
        exact ⟨rfl, hb.trans hb2⟩
end Go.Proofs.Ytbceakdifklocaa.DsD
